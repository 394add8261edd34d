/- Layer 15 (ytab): Apply and New, under names of types that fit any seat. -/
import Derived.Test.YtjjifcfcomhdcaaTy
namespace Go.Proofs.Ytjjifcfcomhdcaa
open Go Go.RowKit Sl
set_option maxRecDepth 100000
set_option maxHeartbeats 8000000
set_option linter.unusedVariables false
set_option linter.unusedSimpArgs false
attribute [local irreducible] ES EL PX wps

theorem apply_c (t l : List UInt8) (ht : t.length = 256) (hl : l.length ≤ 140737488351232) (w : World) :
    Pure Try.prog 20 #[.agg (t.map Uv).toArray, Sv l] (fun _ : Unit => Sv (l.map fun b => t.getD b.toNat 0)) (fun _ => []) w := by
  refine calls_of_ES TB Try.func20 rfl _ Try.ntmps20 rfl (Sat.start w) ?_
  repeat (first | apply ES.seq | apply ES.skip | apply ES.region | apply EL.nil | apply ES.block | apply ES.nil | apply ES.exit | apply ES.ret | apply PX.hit | (apply PX.miss; exact rfl) | apply PX.then_x | apply PX.then_r | apply PX.block_n | apply PX.block_r | refine PX.then_n (e := .normal) ?_)
  (refine EL.box rfl rfl rfl ?_; intro g2)
  refine EL.assign rfl rfl rfl ?_
  repeat (first | apply ES.seq | apply ES.skip | apply ES.region | apply EL.nil | apply ES.block | apply ES.nil | apply ES.exit | apply ES.ret | apply PX.hit | (apply PX.miss; exact rfl) | apply PX.then_x | apply PX.then_r | apply PX.block_n | apply PX.block_r | refine PX.then_n (e := .normal) ?_)
  refine EL.move rfl rfl rfl ?_
  refine EL.lenS rfl rfl rfl rfl rfl ?_
  refine EL.makeSlice rfl rfl rfl rfl rfl rfl (by first | omega | (show 1 * _ ≤ _; omega) | (show 8 * _ ≤ _; omega) | (show 16 * _ ≤ _; omega) | (show 24 * _ ≤ _; omega) | (show _ * 1 ≤ _; omega) | (show _ * 8 ≤ _; omega) | (show _ * 16 ≤ _; omega) | (show _ * 24 ≤ _; omega)) (by unfold maxLen; omega) ?_
  intro g5
  refine EL.assign rfl rfl rfl ?_
  repeat (first | apply ES.seq | apply ES.skip | apply ES.region | apply EL.nil | apply ES.block | apply ES.nil | apply ES.exit | apply ES.ret | apply PX.hit | (apply PX.miss; exact rfl) | apply PX.then_x | apply PX.then_r | apply PX.block_n | apply PX.block_r | refine PX.then_n (e := .normal) ?_)
  refine EL.move rfl rfl rfl ?_
  refine EL.lenL rfl rfl rfl rfl rfl ?_
  refine EL.move rfl rfl rfl ?_
  repeat (first | apply ES.seq | apply ES.skip | apply ES.region | apply EL.nil | apply ES.block | apply ES.nil | apply ES.exit | apply ES.ret | apply PX.hit | (apply PX.miss; exact rfl) | apply PX.then_x | apply PX.then_r | apply PX.block_n | apply PX.block_r | refine PX.then_n (e := .normal) ?_)
  refine ES.rowEq (by repeat (first | exact PickSet.here _ _ _ | apply PickSet.there)) (cs' := (l.take 0).map (fun b => Uv (t.getD b.toNat 0)) ++ List.replicate (l.length - 0) (Uv 0)) (made1 _ _) ?_
  refine ES.loop (σ := Nat) (fun k => k ≤ l.length) (fun k => [(0, .agg (t.map Uv).toArray), (1, Sv l), (2, Pv g2 0), (5, .slice (some ⟨g5, 0, none⟩) l.length l.length), (11, Iv l.length), (12, Iv k)])
    (fun k => [HA.row (.slice (some ⟨g5, 0, none⟩) l.length l.length) 5 1 l.length ((l.take k).map (fun b => Uv (t.getD b.toNat 0)) ++ List.replicate (l.length - k) (Uv 0)), HA.blk g2 (.cells (t.map Uv).toArray 40 (0, 0))])
    (fun k => l.length - k) 0 (Nat.zero_le _) ⟨rfl, rfl, rfl, rfl, rfl, rfl, trivial⟩ (by repeat (first | exact Ent.nil _ | exact Ent.refl _ | (apply Ent.cons; case p => repeat (first | exact Pick.here _ _ | apply Pick.there)) | apply Ent.drop)) ?_
  intro k hk
  repeat (first | apply ES.seq | apply ES.skip | apply ES.region | apply EL.nil | apply ES.block | apply ES.nil | apply ES.exit | apply ES.ret | apply PX.hit | (apply PX.miss; exact rfl) | apply PX.then_x | apply PX.then_r | apply PX.block_n | apply PX.block_r | refine PX.then_n (e := .normal) ?_)
  refine EL.lss rfl rfl rfl rfl ?_
  repeat (first | apply ES.seq | apply ES.skip | apply ES.region | apply EL.nil | apply ES.block | apply ES.nil | apply ES.exit | apply ES.ret | apply PX.hit | (apply PX.miss; exact rfl) | apply PX.then_x | apply PX.then_r | apply PX.block_n | apply PX.block_r | refine PX.then_n (e := .normal) ?_)
  refine ES.condD rfl (fun hlt => ?_) (fun hge => ?_)
  · have hlt' : k < l.length := by omega
    repeat (first | apply ES.seq | apply ES.skip | apply ES.region | apply EL.nil | apply ES.block | apply ES.nil | apply ES.exit | apply ES.ret | apply PX.hit | (apply PX.miss; exact rfl) | apply PX.then_x | apply PX.then_r | apply PX.block_n | apply PX.block_r | refine PX.then_n (e := .normal) ?_)
    refine EL.move rfl rfl rfl ?_
    refine EL.assign rfl rfl rfl ?_
    repeat (first | apply ES.seq | apply ES.skip | apply ES.region | apply EL.nil | apply ES.block | apply ES.nil | apply ES.exit | apply ES.ret | apply PX.hit | (apply PX.miss; exact rfl) | apply PX.then_x | apply PX.then_r | apply PX.block_n | apply PX.block_r | refine PX.then_n (e := .normal) ?_)
    refine EL.move rfl rfl rfl ?_
    refine EL.move rfl rfl rfl ?_
    refine EL.move rfl rfl rfl ?_
    refine EL.move rfl rfl rfl ?_
    refine EL.indexSN rfl rfl rfl rfl rfl rfl (by omega) ?_
    refine EL.indexAddrA1 rfl rfl rfl rfl rfl rfl rfl rfl (UInt8.toNat_lt _) ?_
    refine EL.loadB rfl rfl rfl rfl rfl (by repeat (first | exact Mem.here _ _ | apply Mem.there)) (v := Uv (t.getD (l.getD k 0).toNat 0)) ?_ ?_
    · have := (l.getD k 0).toNat_lt
      have := getElem?_map Uv t (l.getD k 0).toNat 0 (by omega)
      simpa using this
    refine EL.indexAddrL1 rfl rfl rfl rfl rfl rfl rfl rfl (by omega) ?_
    refine EL.storeR rfl rfl rfl rfl rfl rfl (by repeat (first | exact PickSet.here _ _ _ | apply PickSet.there)) (by simp; omega) ?_
    repeat (first | apply ES.seq | apply ES.skip | apply ES.region | apply EL.nil | apply ES.block | apply ES.nil | apply ES.exit | apply ES.ret | apply PX.hit | (apply PX.miss; exact rfl) | apply PX.then_x | apply PX.then_r | apply PX.block_n | apply PX.block_r | refine PX.then_n (e := .normal) ?_)
    refine EL.add1 rfl rfl rfl rfl (by omega) ?_
    refine EL.move rfl rfl rfl ?_
    repeat (first | apply ES.seq | apply ES.skip | apply ES.region | apply EL.nil | apply ES.block | apply ES.nil | apply ES.exit | apply ES.ret | apply PX.hit | (apply PX.miss; exact rfl) | apply PX.then_x | apply PX.then_r | apply PX.block_n | apply PX.block_r | refine PX.then_n (e := .normal) ?_)
    refine PX.loop (k + 1) (by omega) (by omega) ⟨rfl, rfl, rfl, rfl, rfl, rfl, trivial⟩ ?_
    have := fill_step (fun b => Uv (t.getD b.toNat 0)) (Uv 0) l k hlt'
    rw [show l.getD k 0 = l[k] by simp [List.getD_eq_getElem?_getD, List.getElem?_eq_getElem hlt'], this]
    exact (by repeat (first | exact Ent.nil _ | exact Ent.refl _ | (apply Ent.cons; case p => repeat (first | exact Pick.here _ _ | apply Pick.there)) | apply Ent.drop))
  · have hkl : k = l.length := by omega
    subst hkl
    repeat (first | apply ES.seq | apply ES.skip | apply ES.region | apply EL.nil | apply ES.block | apply ES.nil | apply ES.exit | apply ES.ret | apply PX.hit | (apply PX.miss; exact rfl) | apply PX.then_x | apply PX.then_r | apply PX.block_n | apply PX.block_r | refine PX.then_n (e := .normal) ?_)
    refine EL.rowEq (by repeat (first | exact PickSet.here _ _ _ | apply PickSet.there)) (cs' := (l.map fun b => t.getD b.toNat 0).map Uv) (by simp [Function.comp_def]) ?_
    repeat (first | apply ES.seq | apply ES.skip | apply ES.region | apply EL.nil | apply ES.block | apply ES.nil | apply ES.exit | apply ES.ret | apply PX.hit | (apply PX.miss; exact rfl) | apply PX.then_x | apply PX.then_r | apply PX.block_n | apply PX.block_r | refine PX.then_n (e := .normal) ?_)
    refine EL.move rfl rfl rfl ?_
    refine EL.bytesS rfl rfl rfl rfl rfl rfl rfl rfl rfl (by repeat (first | exact Mem.here _ _ | apply Mem.there)) ?_
    refine EL.assign rfl rfl rfl ?_
    repeat (first | apply ES.seq | apply ES.skip | apply ES.region | apply EL.nil | apply ES.block | apply ES.nil | apply ES.exit | apply ES.ret | apply PX.hit | (apply PX.miss; exact rfl) | apply PX.then_x | apply PX.then_r | apply PX.block_n | apply PX.block_r | refine PX.then_n (e := .normal) ?_)
    refine PX.ret rfl Try.results20 (.cons (.tmp rfl) .nil) (fun w hs => ⟨(), rfl, hs.ent (.nil _)⟩)

def idT : List UInt8 := (List.range 256).map UInt8.ofNat
def zeroT : List UInt8 := List.replicate 256 0
def tabGo : List UInt8 → List UInt8 → List UInt8 → List UInt8
  | t, a :: f, b :: g => tabGo (t.set a.toNat b) f g
  | t, _, _ => t
def newM (f g : List UInt8) : List UInt8 × Int := if f.length = g.length ∧ f.Nodup then (tabGo idT f g, 0) else (zeroT, 21)
def lastv (b : UInt8) : List UInt8 → List UInt8 → UInt8 → UInt8
  | a :: f, c :: g, v => lastv b f g (if a = b then c else v)
  | _, _, v => v
theorem tabGo_len : ∀ (f g t : List UInt8), (tabGo t f g).length = t.length
  | [], _, _ => by simp [tabGo]
  | _ :: _, [], _ => by simp [tabGo]
  | a :: f, b :: g, t => by rw [tabGo, tabGo_len f g]; simp
theorem tabGo_get (b : UInt8) : ∀ (f g t : List UInt8), t.length = 256 → (tabGo t f g).getD b.toNat 0 = lastv b f g (t.getD b.toNat 0)
  | [], _, _, _ => by simp [tabGo, lastv]
  | _ :: _, [], _, _ => by simp [tabGo, lastv]
  | a :: f, c :: g, t, ht => by
    rw [tabGo, tabGo_get b f g _ (by simpa using ht), lastv]
    congr 1
    have := b.toNat_lt
    have := a.toNat_lt
    by_cases h : a = b
    · subst h
      rw [List.getD_eq_getElem?_getD, List.getElem?_set_self (by omega), if_pos rfl]; rfl
    · have : a.toNat ≠ b.toNat := fun e => h (UInt8.toNat_inj.1 e)
      simp [List.getD_eq_getElem?_getD, List.getElem?_set, this, h]
theorem idT_len : idT.length = 256 := by simp [idT]
theorem idT_get (b : UInt8) : idT.getD b.toNat 0 = b := by
  have := b.toNat_lt
  simp [idT, List.getD_eq_getElem?_getD, this]
theorem newM_len (f g : List UInt8) : (newM f g).1.length = 256 := by
  unfold newM; split
  · rw [tabGo_len, idT_len]
  · simp [zeroT]
theorem newM_bad (f g : List UInt8) (h : f.length ≠ g.length) : newM f g = (zeroT, 21) := by simp [newM, h]
theorem newM_dup (f g : List UInt8) (h : ¬ f.Nodup) : newM f g = (zeroT, 21) := by simp [newM, h]
theorem newM_ok (f g : List UInt8) (h : f.length = g.length) (hn : f.Nodup) : newM f g = (tabGo idT f g, 0) := by simp [newM, h, hn]
theorem tab_last (f g : List UInt8) : tabGo idT f g = (List.range 256).map fun b => lastv (UInt8.ofNat b) f g (UInt8.ofNat b) := by
  apply List.ext_getElem
  · simp [tabGo_len, idT_len]
  · intro i h1 h2
    rw [tabGo_len, idT_len] at h1
    have h3 := tabGo_get (UInt8.ofNat i) f g idT idT_len
    rw [idT_get] at h3
    have hi : (UInt8.ofNat i).toNat = i := by simp; omega
    rw [hi] at h3
    simp only [List.getElem_map, List.getElem_range]
    rw [← h3, List.getD_eq_getElem?_getD, List.getElem?_eq_getElem (by rw [tabGo_len, idT_len]; exact h1)]
    rfl
theorem set_arr {α : Type} (f : α → Value) (l : List α) (i : Nat) (b : α) : ((l.map f).toArray).setIfInBounds i (f b) = ((l.set i b).map f).toArray := by
  simp [List.map_set]
theorem one_map {α : Type} (f : α → Value) (hf : ∀ a, (f a).oneCell' = true) (l : List α) : ∀ u ∈ l.map f, u.oneCell' = true := by
  intro u hu
  obtain ⟨a, _, rfl⟩ := List.mem_map.1 hu
  exact hf a
theorem rep_arr {α : Type} (f : α → Value) (n : Nat) (a : α) : Array.replicate n (f a) = ((List.replicate n a).map f).toArray := by simp
theorem take_nodup (f : List UInt8) (i : Nat) (hi : i < f.length) (h : (f.take i).Nodup) : (f.take (i + 1)).Nodup ↔ f.getD i 0 ∉ f.take i := by
  rw [List.take_succ_eq_append_getElem hi, List.nodup_append]
  simp only [List.getD_eq_getElem?_getD, List.getElem?_eq_getElem hi, Option.getD_some]
  constructor
  · rintro ⟨_, _, h3⟩ hm
    exact h3 _ hm _ (by simp) rfl
  · intro hm
    exact ⟨h, by simp, by rintro a ha b hb rfl; simp at hb; subst hb; exact hm ha⟩
theorem not_nodup_of_take (f : List UInt8) (i : Nat) (h : ¬ (f.take i).Nodup) : ¬ f.Nodup := fun hn => h (hn.sublist (List.take_sublist i f))
theorem fill_set {α : Type} (f : Nat → α) (z : α) (n k : Nat) (hk : k < n) : ((List.range k).map f ++ List.replicate (n - k) z).set k (f k) = (List.range (k + 1)).map f ++ List.replicate (n - (k + 1)) z := by
  have hl : ((List.range k).map f).length = k := by simp
  rw [List.set_append_right _ _ (by omega), hl, Nat.sub_self, show n - k = (n - (k + 1)) + 1 by omega, List.replicate_succ, List.range_succ]
  simp
theorem take_succ_getD {α : Type} (l : List α) (i : Nat) (d : α) (h : i < l.length) : l.take (i + 1) = l.take i ++ [l.getD i d] := by
  rw [List.take_succ_eq_append_getElem h]
  simp [List.getD_eq_getElem?_getD, List.getElem?_eq_getElem h]
theorem rep_getD {α : Type} (n i : Nat) (a : α) : (List.replicate n a).getD i a = a := by
  simp only [List.getD_eq_getElem?_getD, List.getElem?_replicate]; split <;> rfl
theorem map_getD (f : UInt8 → UInt8) (l : List UInt8) (i : Nat) (d : UInt8) (h : i < l.length) : (l.map f).getD i d = f (l.getD i d) := by
  simp [List.getD_eq_getElem?_getD, List.getElem?_eq_getElem h]
theorem slice_one (l : List UInt8) (i : Nat) (d : UInt8) (h : i < l.length) : (l.drop i).take (i + 1 - i) = [l.getD i d] := by
  rw [drop_getD l i d h, show i + 1 - i = 1 by omega]; rfl
theorem dec_comm (a b : UInt8) : decide (a = b) = decide (b = a) := decide_eq_decide.2 eq_comm
theorem getD_mem_take (f : List UInt8) (j i : Nat) (d : UInt8) (h : j < i) (hj : j < f.length) : f.getD j d ∈ f.take i := by
  rw [List.getD_eq_getElem?_getD, List.getElem?_eq_getElem hj]
  simp only [Option.getD_some]
  rw [← List.getElem_take (j := i) (h := by simp; omega)]
  exact List.getElem_mem _
theorem seen_step (s : List Bool) (a b : UInt8) (hs : 256 ≤ s.length) : (s.set a.toNat true).getD b.toNat false = (decide (a = b) || s.getD b.toNat false) := by
  have := b.toNat_lt
  have := a.toNat_lt
  by_cases h : a = b
  · subst h; rw [List.getD_eq_getElem?_getD, List.getElem?_set_self (by omega)]; simp
  · have : a.toNat ≠ b.toNat := fun e => h (UInt8.toNat_inj.1 e)
    simp [List.getD_eq_getElem?_getD, List.getElem?_set, this, h]
theorem lastv_notin (b : UInt8) : ∀ (f g : List UInt8) (v : UInt8), b ∉ f → lastv b f g v = v
  | [], _, _, _ => by simp [lastv]
  | _ :: _, [], _, _ => by simp [lastv]
  | a :: f, c :: g, v, h => by
    simp only [List.mem_cons, not_or] at h
    rw [lastv, if_neg (fun e => h.1 e.symm), lastv_notin b f g v h.2]
theorem lastv_at : ∀ (f g : List UInt8) (v : UInt8) (i : Nat) (hi : i < f.length) (hg : i < g.length), f.Nodup → lastv f[i] f g v = g[i]
  | a :: f, c :: g, v, 0, _, _, hn => by
    simp only [List.getElem_cons_zero, lastv, if_true]
    exact lastv_notin a f g c (List.nodup_cons.1 hn).1
  | a :: f, c :: g, v, i + 1, hi, hg, hn => by
    simp only [List.getElem_cons_succ, lastv]
    exact lastv_at f g _ i (by simpa using hi) (by simpa using hg) (List.nodup_cons.1 hn).2
/-- Where both texts have the same bytes, the way back is the table of them changed about. -/
theorem back (f g : List UInt8) (hl : f.length = g.length) (hf : f.Nodup) (hg : g.Nodup) (hm : ∀ b, b ∈ f ↔ b ∈ g) (b : UInt8) :
    (newM g f).1.getD ((newM f g).1.getD b.toNat 0).toNat 0 = b := by
  rw [newM_ok f g hl hf, newM_ok g f hl.symm hg]
  simp only
  rw [tabGo_get _ g f idT idT_len, tabGo_get b f g idT idT_len, idT_get, idT_get]
  by_cases h : b ∈ f
  · obtain ⟨i, hi, rfl⟩ := List.getElem_of_mem h
    rw [lastv_at f g _ i hi (by omega) hf, lastv_at g f _ i (by omega) hi hg]
  · rw [lastv_notin b f g b h, lastv_notin b g f b (fun e => h ((hm b).2 e))]
def rot (k : Nat) (f : List UInt8) : List UInt8 := f.drop k ++ f.take k
theorem rot_perm (k : Nat) (f : List UInt8) : (rot k f).Perm f := by
  unfold rot
  exact (List.perm_append_comm).trans (by rw [List.take_append_drop])
theorem rot_slice (k : Nat) (f : List UInt8) : (f.drop k).take (f.length - k) ++ (f.drop 0).take (k - 0) = rot k f := by
  rw [List.take_of_length_le (by simp), List.drop_zero, Nat.sub_zero]; rfl
theorem rot_len (k : Nat) (f : List UInt8) : (rot k f).length = f.length := (rot_perm k f).length_eq
theorem rot_nodup (k : Nat) (f : List UInt8) (h : f.Nodup) : (rot k f).Nodup := (rot_perm k f).nodup_iff.2 h
theorem nodup_le : ∀ (f L : List UInt8), f.Nodup → (∀ a ∈ f, a ∈ L) → f.length ≤ L.length
  | [], L, _, _ => Nat.zero_le _
  | a :: f, L, hn, hs => by
    have ha : a ∈ L := hs a (by simp)
    have := nodup_le f (L.erase a) (List.nodup_cons.1 hn).2 (fun b hb => (List.mem_erase_of_ne (fun e => (List.nodup_cons.1 hn).1 (by rw [← e]; exact hb))).2 (hs b (by simp [hb])))
    rw [List.length_erase_of_mem ha] at this
    have := List.length_pos_of_mem ha
    simp only [List.length_cons]
    omega
theorem nodup_256 (f : List UInt8) (hn : f.Nodup) : f.length ≤ 256 := by
  have := nodup_le f idT hn (fun a _ => List.mem_map.2 ⟨a.toNat, List.mem_range.2 a.toNat_lt, by simp⟩)
  rwa [idT_len] at this
theorem newM_twice (f g : List UInt8) (h : f.length = g.length) : (newM (f ++ f) (g ++ g)).2 = if f = [] then 0 else 21 := by
  unfold newM
  cases f with
  | nil =>
    have : g = [] := by cases g with
      | nil => rfl
      | cons a g => simp at h
    subst this; rfl
  | cons a f => rw [if_neg (by simp [List.nodup_append])]; rfl
theorem zeroTT (e : Nat) : Obj.cells ty40.zero.cells e = .cells ((List.replicate 256 (0 : UInt8)).map Uv).toArray e := by
  show Obj.cells (Array.replicate 256 (Uv 0)) e = _
  rw [rep_arr Uv]
theorem zeroBB (e : Nat) : Obj.cells ty61.zero.cells e = .cells ((List.replicate 256 false).map Value.bool).toArray e := by
  show Obj.cells (Array.replicate 256 (.bool false)) e = _
  rw [rep_arr Value.bool]
theorem arr_eq {α : Type} (f : α → Value) {l l' : List α} (e : Nat) (h : l = l') : Obj.cells (l.map f).toArray e = .cells (l'.map f).toArray e := by rw [h]
theorem new_c (f g : List UInt8) (hf : f.length ≤ 140737488351232) (hg : g.length ≤ 140737488351232) (w : World) :
    Pure Try.prog 19 #[Sv f, Sv g] (fun _ : Unit => .tuple #[.agg ((newM f g).1.map Uv).toArray, Iv (newM f g).2]) (fun _ => []) w := by
  refine calls_of_ES TB Try.func19 rfl _ Try.ntmps19 rfl (Sat.start w) ?_
  repeat (first | apply ES.seq | apply ES.skip | apply ES.region | apply EL.nil | apply ES.block | apply ES.nil | apply ES.exit | apply ES.ret | apply PX.hit | (apply PX.miss; exact rfl) | apply PX.then_x | apply PX.then_r | apply PX.block_n | apply PX.block_r | refine PX.then_n (e := .normal) ?_)
  (refine EL.alloc rfl rfl rfl ?_; intro g4)
  refine EL.assign rfl rfl rfl ?_
  repeat (first | apply ES.seq | apply ES.skip | apply ES.region | apply EL.nil | apply ES.block | apply ES.nil | apply ES.exit | apply ES.ret | apply PX.hit | (apply PX.miss; exact rfl) | apply PX.then_x | apply PX.then_r | apply PX.block_n | apply PX.block_r | refine PX.then_n (e := .normal) ?_)
  (refine EL.alloc rfl rfl rfl ?_; intro g6)
  repeat (first | apply ES.seq | apply ES.skip | apply ES.region | apply EL.nil | apply ES.block | apply ES.nil | apply ES.exit | apply ES.ret | apply PX.hit | (apply PX.miss; exact rfl) | apply PX.then_x | apply PX.then_r | apply PX.block_n | apply PX.block_r | refine PX.then_n (e := .normal) ?_)
  refine EL.move rfl rfl rfl ?_
  refine EL.lenS rfl rfl rfl rfl rfl ?_
  refine EL.move rfl rfl rfl ?_
  refine EL.lenS rfl rfl rfl rfl rfl ?_
  refine EL.neqI rfl rfl rfl rfl ?_
  repeat (first | apply ES.seq | apply ES.skip | apply ES.region | apply EL.nil | apply ES.block | apply ES.nil | apply ES.exit | apply ES.ret | apply PX.hit | (apply PX.miss; exact rfl) | apply PX.then_x | apply PX.then_r | apply PX.block_n | apply PX.block_r | refine PX.then_n (e := .normal) ?_)
  refine ES.blkEq (g := g4) (by repeat (first | exact PickSet.here _ _ _ | apply PickSet.there)) (zeroTT 40) ?_
  refine ES.blkEq (g := g6) (by repeat (first | exact PickSet.here _ _ _ | apply PickSet.there)) (zeroTT 40) ?_
  refine ES.condN rfl (fun hne => ?_) (fun heq => ?_)
  · repeat (first | apply ES.seq | apply ES.skip | apply ES.region | apply EL.nil | apply ES.block | apply ES.nil | apply ES.exit | apply ES.ret | apply PX.hit | (apply PX.miss; exact rfl) | apply PX.then_x | apply PX.then_r | apply PX.block_n | apply PX.block_r | refine PX.then_n (e := .normal) ?_)
    (refine EL.loadAggB rfl rfl rfl rfl rfl (by repeat (first | exact Mem.here _ _ | apply Mem.there)) (by simp; rfl) ?_)
    refine EL.storeAll (vs := (List.replicate 256 (0 : UInt8)).map Uv) rfl rfl rfl rfl (by simp; rfl) (by repeat (first | exact PickSet.here _ _ _ | apply PickSet.there)) (by simp) (one_map Uv (fun _ => rfl) _) ?_
    refine EL.assign rfl rfl rfl ?_
    repeat (first | apply ES.seq | apply ES.skip | apply ES.region | apply EL.nil | apply ES.block | apply ES.nil | apply ES.exit | apply ES.ret | apply PX.hit | (apply PX.miss; exact rfl) | apply PX.then_x | apply PX.then_r | apply PX.block_n | apply PX.block_r | refine PX.then_n (e := .normal) ?_)
    exact PX.ret rfl Try.results19 (.cons (.blkA rfl rfl rfl (by repeat (first | exact Mem.here _ _ | apply Mem.there)) (by simp; rfl)) (.cons (.tmp rfl) .nil)) (fun w hs => ⟨(), by rw [newM_bad f g (by omega)]; rfl, hs.ent (.nil _)⟩)
  · have hlen : f.length = g.length := by omega
    repeat (first | apply ES.seq | apply ES.skip | apply ES.region | apply EL.nil | apply ES.block | apply ES.nil | apply ES.exit | apply ES.ret | apply PX.hit | (apply PX.miss; exact rfl) | apply PX.then_x | apply PX.then_r | apply PX.block_n | apply PX.block_r | refine PX.then_n (e := .normal) ?_)
    (refine EL.alloc rfl rfl rfl ?_; intro g7)
    repeat (first | apply ES.seq | apply ES.skip | apply ES.region | apply EL.nil | apply ES.block | apply ES.nil | apply ES.exit | apply ES.ret | apply PX.hit | (apply PX.miss; exact rfl) | apply PX.then_x | apply PX.then_r | apply PX.block_n | apply PX.block_r | refine PX.then_n (e := .normal) ?_)
    refine EL.move rfl rfl rfl ?_
    repeat (first | apply ES.seq | apply ES.skip | apply ES.region | apply EL.nil | apply ES.block | apply ES.nil | apply ES.exit | apply ES.ret | apply PX.hit | (apply PX.miss; exact rfl) | apply PX.then_x | apply PX.then_r | apply PX.block_n | apply PX.block_r | refine PX.then_n (e := .normal) ?_)
    refine ES.blkEq (g := g7) (by repeat (first | exact PickSet.here _ _ _ | apply PickSet.there)) (zeroBB 61) ?_
    refine ES.blkEq (g := g6) (by repeat (first | exact PickSet.here _ _ _ | apply PickSet.there)) (arr_eq Uv 40 (l' := (List.range 0).map UInt8.ofNat ++ List.replicate (256 - 0) 0) (by simp)) ?_
    refine ES.loop (σ := Nat) (fun k => k ≤ 256) (fun k => [(0, Sv f), (1, Sv g), (4, Pv g4 0), (5, Iv 0), (6, Pv g6 0), (7, Pv g7 0), (16, Iv k)])
      (fun k => [HA.blk g7 (.cells ((List.replicate 256 false).map Value.bool).toArray 61), HA.blk g6 (.cells (((List.range k).map UInt8.ofNat ++ List.replicate (256 - k) 0).map Uv).toArray 40), HA.blk g4 (.cells ((List.replicate 256 (0 : UInt8)).map Uv).toArray 40)])
      (fun k => 256 - k) 0 (Nat.zero_le _) ⟨rfl, rfl, rfl, rfl, rfl, rfl, rfl, trivial⟩ (by repeat (first | exact Ent.nil _ | exact Ent.refl _ | (apply Ent.cons; case p => repeat (first | exact Pick.here _ _ | apply Pick.there)) | apply Ent.drop)) ?_
    intro k hk
    repeat (first | apply ES.seq | apply ES.skip | apply ES.region | apply EL.nil | apply ES.block | apply ES.nil | apply ES.exit | apply ES.ret | apply PX.hit | (apply PX.miss; exact rfl) | apply PX.then_x | apply PX.then_r | apply PX.block_n | apply PX.block_r | refine PX.then_n (e := .normal) ?_)
    refine EL.lss rfl rfl rfl rfl ?_
    repeat (first | apply ES.seq | apply ES.skip | apply ES.region | apply EL.nil | apply ES.block | apply ES.nil | apply ES.exit | apply ES.ret | apply PX.hit | (apply PX.miss; exact rfl) | apply PX.then_x | apply PX.then_r | apply PX.block_n | apply PX.block_r | refine PX.then_n (e := .normal) ?_)
    refine ES.condD rfl (fun hlt => ?_) (fun hge => ?_)
    · have hk' : k < 256 := by omega
      have hk8 : ((UInt8.ofNat k).toNat : Int) = k := by simp; omega
      repeat (first | apply ES.seq | apply ES.skip | apply ES.region | apply EL.nil | apply ES.block | apply ES.nil | apply ES.exit | apply ES.ret | apply PX.hit | (apply PX.miss; exact rfl) | apply PX.then_x | apply PX.then_r | apply PX.block_n | apply PX.block_r | refine PX.then_n (e := .normal) ?_)
      refine EL.move rfl rfl rfl ?_
      refine EL.assign rfl rfl rfl ?_
      repeat (first | apply ES.seq | apply ES.skip | apply ES.region | apply EL.nil | apply ES.block | apply ES.nil | apply ES.exit | apply ES.ret | apply PX.hit | (apply PX.miss; exact rfl) | apply PX.then_x | apply PX.then_r | apply PX.block_n | apply PX.block_r | refine PX.then_n (e := .normal) ?_)
      refine EL.move rfl rfl rfl ?_
      refine EL.move rfl rfl rfl ?_
      refine EL.convI ((UInt8.ofNat k).toNat : Int) rfl rfl rfl rfl rfl rfl (by rw [hk8]; exact wrap_u8 k hk') ?_
      refine EL.indexAddrA1 rfl rfl rfl rfl rfl rfl rfl rfl (by omega) ?_
      refine EL.storeBm Uv (b := UInt8.ofNat k) rfl rfl rfl rfl rfl rfl (by repeat (first | exact PickSet.here _ _ _ | apply PickSet.there)) (by simp; omega) ?_
      repeat (first | apply ES.seq | apply ES.skip | apply ES.region | apply EL.nil | apply ES.block | apply ES.nil | apply ES.exit | apply ES.ret | apply PX.hit | (apply PX.miss; exact rfl) | apply PX.then_x | apply PX.then_r | apply PX.block_n | apply PX.block_r | refine PX.then_n (e := .normal) ?_)
      refine EL.add1 rfl rfl rfl rfl (by omega) ?_
      refine EL.move rfl rfl rfl ?_
      repeat (first | apply ES.seq | apply ES.skip | apply ES.region | apply EL.nil | apply ES.block | apply ES.nil | apply ES.exit | apply ES.ret | apply PX.hit | (apply PX.miss; exact rfl) | apply PX.then_x | apply PX.then_r | apply PX.block_n | apply PX.block_r | refine PX.then_n (e := .normal) ?_)
      have hfs := fill_set UInt8.ofNat 0 256 k hk'
      rw [hfs]
      exact PX.loop (k + 1) (by omega) (by omega) ⟨rfl, rfl, rfl, rfl, rfl, rfl, rfl, trivial⟩ (by repeat (first | exact Ent.nil _ | exact Ent.refl _ | (apply Ent.cons; case p => repeat (first | exact Pick.here _ _ | apply Pick.there)) | apply Ent.drop))
    · obtain rfl : k = 256 := by omega
      repeat (first | apply ES.seq | apply ES.skip | apply ES.region | apply EL.nil | apply ES.block | apply ES.nil | apply ES.exit | apply ES.ret | apply PX.hit | (apply PX.miss; exact rfl) | apply PX.then_x | apply PX.then_r | apply PX.block_n | apply PX.block_r | refine PX.then_n (e := .normal) ?_)
      refine EL.move rfl rfl rfl ?_
      refine EL.lenS rfl rfl rfl rfl rfl ?_
      refine EL.move rfl rfl rfl ?_
      repeat (first | apply ES.seq | apply ES.skip | apply ES.region | apply EL.nil | apply ES.block | apply ES.nil | apply ES.exit | apply ES.ret | apply PX.hit | (apply PX.miss; exact rfl) | apply PX.then_x | apply PX.then_r | apply PX.block_n | apply PX.block_r | refine PX.then_n (e := .normal) ?_)
      refine ES.blkEq (g := g6) (by repeat (first | exact PickSet.here _ _ _ | apply PickSet.there)) (arr_eq Uv 40 (l' := idT) (by simp [idT])) ?_
      refine ES.loop (σ := Nat × List UInt8 × List Bool) (fun (i, t, s) => i ≤ f.length ∧ t.length = 256 ∧ s.length = 256 ∧ (f.take i).Nodup ∧ (∀ b : UInt8, s.getD b.toNat false = decide (b ∈ f.take i)) ∧ tabGo t (f.drop i) (g.drop i) = tabGo idT f g)
        (fun (i, t, s) => [(0, Sv f), (1, Sv g), (4, Pv g4 0), (5, Iv 0), (6, Pv g6 0), (7, Pv g7 0), (25, Iv f.length), (26, Iv i)])
        (fun (i, t, s) => [HA.blk g7 (.cells (s.map Value.bool).toArray 61), HA.blk g6 (.cells (t.map Uv).toArray 40), HA.blk g4 (.cells ((List.replicate 256 (0 : UInt8)).map Uv).toArray 40)])
        (fun (i, t, s) => f.length - i) (0, idT, List.replicate 256 false) ⟨Nat.zero_le _, idT_len, by simp, by simp, fun b => by rw [rep_getD]; simp, rfl⟩ ⟨rfl, rfl, rfl, rfl, rfl, rfl, rfl, rfl, trivial⟩ (by repeat (first | exact Ent.nil _ | exact Ent.refl _ | (apply Ent.cons; case p => repeat (first | exact Pick.here _ _ | apply Pick.there)) | apply Ent.drop)) ?_
      rintro ⟨i, t, s⟩ ⟨hi, ht, hs, hnd, hseen, htab⟩
      dsimp only at hi ht hs hnd hseen htab ⊢
      repeat (first | apply ES.seq | apply ES.skip | apply ES.region | apply EL.nil | apply ES.block | apply ES.nil | apply ES.exit | apply ES.ret | apply PX.hit | (apply PX.miss; exact rfl) | apply PX.then_x | apply PX.then_r | apply PX.block_n | apply PX.block_r | refine PX.then_n (e := .normal) ?_)
      refine EL.lss rfl rfl rfl rfl ?_
      repeat (first | apply ES.seq | apply ES.skip | apply ES.region | apply EL.nil | apply ES.block | apply ES.nil | apply ES.exit | apply ES.ret | apply PX.hit | (apply PX.miss; exact rfl) | apply PX.then_x | apply PX.then_r | apply PX.block_n | apply PX.block_r | refine PX.then_n (e := .normal) ?_)
      refine ES.condD rfl (fun hlt => ?_) (fun hge => ?_)
      · have hlt' : i < f.length := by omega
        have hltg : i < g.length := by omega
        have hb := (f.getD i 0).toNat_lt
        repeat (first | apply ES.seq | apply ES.skip | apply ES.region | apply EL.nil | apply ES.block | apply ES.nil | apply ES.exit | apply ES.ret | apply PX.hit | (apply PX.miss; exact rfl) | apply PX.then_x | apply PX.then_r | apply PX.block_n | apply PX.block_r | refine PX.then_n (e := .normal) ?_)
        refine EL.move rfl rfl rfl ?_
        refine EL.assign rfl rfl rfl ?_
        repeat (first | apply ES.seq | apply ES.skip | apply ES.region | apply EL.nil | apply ES.block | apply ES.nil | apply ES.exit | apply ES.ret | apply PX.hit | (apply PX.miss; exact rfl) | apply PX.then_x | apply PX.then_r | apply PX.block_n | apply PX.block_r | refine PX.then_n (e := .normal) ?_)
        refine EL.move rfl rfl rfl ?_
        refine EL.move rfl rfl rfl ?_
        refine EL.indexSN rfl rfl rfl rfl rfl rfl (by omega) ?_
        refine EL.indexAddrA1 rfl rfl rfl rfl rfl rfl rfl rfl hb ?_
        refine EL.loadBm Value.bool false rfl rfl rfl rfl rfl (by repeat (first | exact Mem.here _ _ | apply Mem.there)) (by omega) ?_
        repeat (first | apply ES.seq | apply ES.skip | apply ES.region | apply EL.nil | apply ES.block | apply ES.nil | apply ES.exit | apply ES.ret | apply PX.hit | (apply PX.miss; exact rfl) | apply PX.then_x | apply PX.then_r | apply PX.block_n | apply PX.block_r | refine PX.then_n (e := .normal) ?_)
        rw [hseen]
        refine ES.condD rfl (fun hin => ?_) (fun hin => ?_)
        · repeat (first | apply ES.seq | apply ES.skip | apply ES.region | apply EL.nil | apply ES.block | apply ES.nil | apply ES.exit | apply ES.ret | apply PX.hit | (apply PX.miss; exact rfl) | apply PX.then_x | apply PX.then_r | apply PX.block_n | apply PX.block_r | refine PX.then_n (e := .normal) ?_)
          refine EL.buildZA rfl rfl rfl rfl rfl ?_
          refine EL.storeAll (vs := (List.replicate 256 (0 : UInt8)).map Uv) rfl rfl (getA rfl (congrArg Value.agg (rep_arr Uv 256 0))) rfl (by simp; rfl) (by repeat (first | exact PickSet.here _ _ _ | apply PickSet.there)) (by simp) (one_map Uv (fun _ => rfl) _) ?_
          refine EL.assign rfl rfl rfl ?_
          repeat (first | apply ES.seq | apply ES.skip | apply ES.region | apply EL.nil | apply ES.block | apply ES.nil | apply ES.exit | apply ES.ret | apply PX.hit | (apply PX.miss; exact rfl) | apply PX.then_x | apply PX.then_r | apply PX.block_n | apply PX.block_r | refine PX.then_n (e := .normal) ?_)
          exact PX.ret rfl Try.results19 (.cons (.blkA rfl rfl rfl (by repeat (first | exact Mem.here _ _ | apply Mem.there)) (by simp; rfl)) (.cons (.tmp rfl) .nil)) (fun w hs => ⟨(), by rw [newM_dup f g (not_nodup_of_take f (i + 1) (fun h => (take_nodup f i hlt' hnd).1 h hin))]; rfl, hs.ent (.nil _)⟩)
        · repeat (first | apply ES.seq | apply ES.skip | apply ES.region | apply EL.nil | apply ES.block | apply ES.nil | apply ES.exit | apply ES.ret | apply PX.hit | (apply PX.miss; exact rfl) | apply PX.then_x | apply PX.then_r | apply PX.block_n | apply PX.block_r | refine PX.then_n (e := .normal) ?_)
          refine EL.move rfl rfl rfl ?_
          refine EL.move rfl rfl rfl ?_
          refine EL.indexSN rfl rfl rfl rfl rfl rfl (by omega) ?_
          refine EL.indexAddrA1 rfl rfl rfl rfl rfl rfl rfl rfl hb ?_
          refine EL.storeBm Value.bool (b := true) rfl rfl rfl rfl rfl rfl (by repeat (first | exact PickSet.here _ _ _ | apply PickSet.there)) (by omega) ?_
          repeat (first | apply ES.seq | apply ES.skip | apply ES.region | apply EL.nil | apply ES.block | apply ES.nil | apply ES.exit | apply ES.ret | apply PX.hit | (apply PX.miss; exact rfl) | apply PX.then_x | apply PX.then_r | apply PX.block_n | apply PX.block_r | refine PX.then_n (e := .normal) ?_)
          refine ES.draw (X := Unit) (fun _ => [(0, Sv f), (1, Sv g), (4, Pv g4 0), (5, Iv 0), (6, Pv g6 0), (7, Pv g7 0), (25, Iv f.length), (26, Iv i)])
            (fun _ => [HA.blk g7 (.cells ((s.set (f.getD i 0).toNat true).map Value.bool).toArray 61), HA.blk g6 (.cells ((t.set (f.getD i 0).toNat (g.getD i 0)).map Uv).toArray 40), HA.blk g4 (.cells ((List.replicate 256 (0 : UInt8)).map Uv).toArray 40)]) [] mixed (by repeat (first | exact Ent.nil _ | exact Ent.refl _ | (apply Ent.cons; case p => repeat (first | exact Pick.here _ _ | apply Pick.there)) | apply Ent.drop)) ?_ (fun _ => ?_)
          · refine ED.take 0 rfl (by decide +kernel) CutX.no_panic (by decide +kernel) rfl rfl rfl (RV.move rfl) ?_
            refine ED.take 1 rfl (by decide +kernel) CutX.no_panic (by decide +kernel) rfl rfl rfl (RV.move rfl) ?_
            refine ED.take 2 rfl (by decide +kernel) CutX.no_panic (by decide +kernel) rfl rfl rfl (RV.indexSN rfl rfl rfl rfl (by omega)) ?_
            refine ED.take 3 rfl (by decide +kernel) CutX.no_panic (by decide +kernel) rfl rfl rfl (RV.move rfl) ?_
            refine ED.take 4 rfl (by decide +kernel) CutX.no_panic (by decide +kernel) rfl rfl rfl (RV.move rfl) ?_
            refine ED.take 5 rfl (by decide +kernel) CutX.no_panic (by decide +kernel) rfl rfl rfl (RV.indexSN rfl rfl rfl rfl (by omega)) ?_
            refine ED.take 6 rfl (by decide +kernel) CutX.no_panic (by decide +kernel) rfl rfl rfl (RV.indexAddrA1 rfl rfl rfl rfl rfl rfl hb) ?_
            refine ED.last 7 rfl (by decide +kernel) (by decide +kernel) (by decide +kernel) ?_
            refine EL.storeBm Uv (b := g.getD i 0) rfl rfl rfl rfl rfl rfl (by repeat (first | exact PickSet.here _ _ _ | apply PickSet.there)) (by omega) ?_
            refine EL.endQ ?_
            exact PX.cutX () ⟨rfl, rfl, rfl, rfl, rfl, rfl, rfl, rfl, trivial⟩ (by repeat (first | exact Ent.nil _ | exact Ent.refl _ | (apply Ent.cons; case p => repeat (first | exact Pick.here _ _ | apply Pick.there)) | apply Ent.drop))
          repeat (first | apply ES.seq | apply ES.skip | apply ES.region | apply EL.nil | apply ES.block | apply ES.nil | apply ES.exit | apply ES.ret | apply PX.hit | (apply PX.miss; exact rfl) | apply PX.then_x | apply PX.then_r | apply PX.block_n | apply PX.block_r | refine PX.then_n (e := .normal) ?_)
          refine EL.add1 rfl rfl rfl rfl (by omega) ?_
          refine EL.move rfl rfl rfl ?_
          repeat (first | apply ES.seq | apply ES.skip | apply ES.region | apply EL.nil | apply ES.block | apply ES.nil | apply ES.exit | apply ES.ret | apply PX.hit | (apply PX.miss; exact rfl) | apply PX.then_x | apply PX.then_r | apply PX.block_n | apply PX.block_r | refine PX.then_n (e := .normal) ?_)
          refine PX.loop (i + 1, t.set (f.getD i 0).toNat (g.getD i 0), s.set (f.getD i 0).toNat true) ⟨by simp only; omega, by simp [ht], by simp [hs], (take_nodup f i hlt' hnd).2 hin, fun b => ?_, ?_⟩ (by simp only; omega) ⟨rfl, rfl, rfl, rfl, rfl, rfl, rfl, rfl, trivial⟩ (by repeat (first | exact Ent.nil _ | exact Ent.refl _ | (apply Ent.cons; case p => repeat (first | exact Pick.here _ _ | apply Pick.there)) | apply Ent.drop))
          · rw [seen_step s (f.getD i 0) b (by omega), hseen, take_succ_getD f i 0 hlt', dec_comm]
            simp [Bool.or_comm]
          · rw [drop_getD f i 0 hlt', drop_getD g i 0 hltg] at htab
            exact htab
      · have hif : i = f.length := by omega
        subst hif
        rw [List.take_length] at hnd
        have htab' : t = tabGo idT f g := by rw [← htab, List.drop_length]; rfl
        subst htab'
        repeat (first | apply ES.seq | apply ES.skip | apply ES.region | apply EL.nil | apply ES.block | apply ES.nil | apply ES.exit | apply ES.ret | apply PX.hit | (apply PX.miss; exact rfl) | apply PX.then_x | apply PX.then_r | apply PX.block_n | apply PX.block_r | refine PX.then_n (e := .normal) ?_)
        (refine EL.loadAggB rfl rfl rfl rfl rfl (by repeat (first | exact Mem.here _ _ | apply Mem.there)) (by simp [ht]; rfl) ?_)
        refine EL.storeAll (vs := (tabGo idT f g).map Uv) rfl rfl rfl rfl (by simp [ht]; rfl) (by repeat (first | exact PickSet.here _ _ _ | apply PickSet.there)) (by simp [ht]) (one_map Uv (fun _ => rfl) _) ?_
        refine EL.assign rfl rfl rfl ?_
        repeat (first | apply ES.seq | apply ES.skip | apply ES.region | apply EL.nil | apply ES.block | apply ES.nil | apply ES.exit | apply ES.ret | apply PX.hit | (apply PX.miss; exact rfl) | apply PX.then_x | apply PX.then_r | apply PX.block_n | apply PX.block_r | refine PX.then_n (e := .normal) ?_)
        exact PX.ret rfl Try.results19 (.cons (.blkA rfl rfl rfl (by repeat (first | exact Mem.here _ _ | apply Mem.there)) (by simp [ht]; rfl)) (.cons (.tmp rfl) .nil)) (fun w hs => ⟨(), by rw [newM_ok f g hlen hnd]; rfl, hs.ent (.nil _)⟩)

end Go.Proofs.Ytjjifcfcomhdcaa
