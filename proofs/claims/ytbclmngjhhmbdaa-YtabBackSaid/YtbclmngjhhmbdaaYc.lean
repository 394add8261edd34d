/- Layer 15 (ytab): what the two makers of tables come to, in plain Lean. -/
import Derived.Test.YtbclmngjhhmbdaaYb
namespace Go.Proofs.Ytbclmngjhhmbdaa
open Go Go.RowKit Sl
set_option maxRecDepth 100000
set_option maxHeartbeats 8000000
set_option linter.unusedVariables false
set_option linter.unusedSimpArgs false
attribute [local irreducible] ES EL PX wps

def idT : List UInt8 := (List.range 256).map UInt8.ofNat
def zeroT : List UInt8 := List.replicate 256 0
def tabGo : List UInt8 → List UInt8 → List UInt8 → List UInt8
  | t, a :: f, b :: g => tabGo (t.set a.toNat b) f g
  | t, _, _ => t
def newM (f g : List UInt8) : List UInt8 × Int := if f.length = g.length ∧ f.Nodup then (tabGo idT f g, 0) else (zeroT, 21)
def lastv (b : UInt8) : List UInt8 → List UInt8 → UInt8 → UInt8
  | a :: f, c :: g, v => lastv b f g (if a = b then c else v)
  | _, _, v => v
theorem tabGo_len : ∀ (f g t : List UInt8), (tabGo t f g).length = t.length
  | [], _, _ => by simp [tabGo]
  | _ :: _, [], _ => by simp [tabGo]
  | a :: f, b :: g, t => by rw [tabGo, tabGo_len f g]; simp
theorem tabGo_get (b : UInt8) : ∀ (f g t : List UInt8), t.length = 256 → (tabGo t f g).getD b.toNat 0 = lastv b f g (t.getD b.toNat 0)
  | [], _, _, _ => by simp [tabGo, lastv]
  | _ :: _, [], _, _ => by simp [tabGo, lastv]
  | a :: f, c :: g, t, ht => by
    rw [tabGo, tabGo_get b f g _ (by simpa using ht), lastv]
    congr 1
    have := b.toNat_lt
    have := a.toNat_lt
    by_cases h : a = b
    · subst h
      rw [List.getD_eq_getElem?_getD, List.getElem?_set_self (by omega), if_pos rfl]; rfl
    · have : a.toNat ≠ b.toNat := fun e => h (UInt8.toNat_inj.1 e)
      simp [List.getD_eq_getElem?_getD, List.getElem?_set, this, h]
theorem idT_len : idT.length = 256 := by simp [idT]
theorem idT_get (b : UInt8) : idT.getD b.toNat 0 = b := by
  have := b.toNat_lt
  simp [idT, List.getD_eq_getElem?_getD, this]
theorem newM_len (f g : List UInt8) : (newM f g).1.length = 256 := by
  unfold newM; split
  · rw [tabGo_len, idT_len]
  · simp [zeroT]
theorem newM_bad (f g : List UInt8) (h : f.length ≠ g.length) : newM f g = (zeroT, 21) := by simp [newM, h]
theorem newM_dup (f g : List UInt8) (h : ¬ f.Nodup) : newM f g = (zeroT, 21) := by simp [newM, h]
theorem newM_ok (f g : List UInt8) (h : f.length = g.length) (hn : f.Nodup) : newM f g = (tabGo idT f g, 0) := by simp [newM, h, hn]
theorem tab_last (f g : List UInt8) : tabGo idT f g = (List.range 256).map fun b => lastv (UInt8.ofNat b) f g (UInt8.ofNat b) := by
  apply List.ext_getElem
  · simp [tabGo_len, idT_len]
  · intro i h1 h2
    rw [tabGo_len, idT_len] at h1
    have h3 := tabGo_get (UInt8.ofNat i) f g idT idT_len
    rw [idT_get] at h3
    have hi : (UInt8.ofNat i).toNat = i := by simp; omega
    rw [hi] at h3
    simp only [List.getElem_map, List.getElem_range]
    rw [← h3, List.getD_eq_getElem?_getD, List.getElem?_eq_getElem (by rw [tabGo_len, idT_len]; exact h1)]
    rfl
theorem set_arr {α : Type} (f : α → Value) (l : List α) (i : Nat) (b : α) : ((l.map f).toArray).setIfInBounds i (f b) = ((l.set i b).map f).toArray := by
  simp [List.map_set]
theorem one_map {α : Type} (f : α → Value) (hf : ∀ a, (f a).oneCell' = true) (l : List α) : ∀ u ∈ l.map f, u.oneCell' = true := by
  intro u hu
  obtain ⟨a, _, rfl⟩ := List.mem_map.1 hu
  exact hf a
theorem rep_arr {α : Type} (f : α → Value) (n : Nat) (a : α) : Array.replicate n (f a) = ((List.replicate n a).map f).toArray := by simp
theorem take_nodup (f : List UInt8) (i : Nat) (hi : i < f.length) (h : (f.take i).Nodup) : (f.take (i + 1)).Nodup ↔ f.getD i 0 ∉ f.take i := by
  rw [List.take_succ_eq_append_getElem hi, List.nodup_append]
  simp only [List.getD_eq_getElem?_getD, List.getElem?_eq_getElem hi, Option.getD_some]
  constructor
  · rintro ⟨_, _, h3⟩ hm
    exact h3 _ hm _ (by simp) rfl
  · intro hm
    exact ⟨h, by simp, by rintro a ha b hb rfl; simp at hb; subst hb; exact hm ha⟩
theorem not_nodup_of_take (f : List UInt8) (i : Nat) (h : ¬ (f.take i).Nodup) : ¬ f.Nodup := fun hn => h (hn.sublist (List.take_sublist i f))
theorem fill_set {α : Type} (f : Nat → α) (z : α) (n k : Nat) (hk : k < n) : ((List.range k).map f ++ List.replicate (n - k) z).set k (f k) = (List.range (k + 1)).map f ++ List.replicate (n - (k + 1)) z := by
  have hl : ((List.range k).map f).length = k := by simp
  rw [List.set_append_right _ _ (by omega), hl, Nat.sub_self, show n - k = (n - (k + 1)) + 1 by omega, List.replicate_succ, List.range_succ]
  simp
theorem take_succ_getD {α : Type} (l : List α) (i : Nat) (d : α) (h : i < l.length) : l.take (i + 1) = l.take i ++ [l.getD i d] := by
  rw [List.take_succ_eq_append_getElem h]
  simp [List.getD_eq_getElem?_getD, List.getElem?_eq_getElem h]
theorem rep_getD {α : Type} (n i : Nat) (a : α) : (List.replicate n a).getD i a = a := by
  simp only [List.getD_eq_getElem?_getD, List.getElem?_replicate]; split <;> rfl
theorem map_getD (f : UInt8 → UInt8) (l : List UInt8) (i : Nat) (d : UInt8) (h : i < l.length) : (l.map f).getD i d = f (l.getD i d) := by
  simp [List.getD_eq_getElem?_getD, List.getElem?_eq_getElem h]
theorem slice_one (l : List UInt8) (i : Nat) (d : UInt8) (h : i < l.length) : (l.drop i).take (i + 1 - i) = [l.getD i d] := by
  rw [drop_getD l i d h, show i + 1 - i = 1 by omega]; rfl
theorem dec_comm (a b : UInt8) : decide (a = b) = decide (b = a) := decide_eq_decide.2 eq_comm
theorem getD_mem_take (f : List UInt8) (j i : Nat) (d : UInt8) (h : j < i) (hj : j < f.length) : f.getD j d ∈ f.take i := by
  rw [List.getD_eq_getElem?_getD, List.getElem?_eq_getElem hj]
  simp only [Option.getD_some]
  rw [← List.getElem_take (j := i) (h := by simp; omega)]
  exact List.getElem_mem _
theorem seen_step (s : List Bool) (a b : UInt8) (hs : 256 ≤ s.length) : (s.set a.toNat true).getD b.toNat false = (decide (a = b) || s.getD b.toNat false) := by
  have := b.toNat_lt
  have := a.toNat_lt
  by_cases h : a = b
  · subst h; rw [List.getD_eq_getElem?_getD, List.getElem?_set_self (by omega)]; simp
  · have : a.toNat ≠ b.toNat := fun e => h (UInt8.toNat_inj.1 e)
    simp [List.getD_eq_getElem?_getD, List.getElem?_set, this, h]
theorem lastv_notin (b : UInt8) : ∀ (f g : List UInt8) (v : UInt8), b ∉ f → lastv b f g v = v
  | [], _, _, _ => by simp [lastv]
  | _ :: _, [], _, _ => by simp [lastv]
  | a :: f, c :: g, v, h => by
    simp only [List.mem_cons, not_or] at h
    rw [lastv, if_neg (fun e => h.1 e.symm), lastv_notin b f g v h.2]
theorem lastv_at : ∀ (f g : List UInt8) (v : UInt8) (i : Nat) (hi : i < f.length) (hg : i < g.length), f.Nodup → lastv f[i] f g v = g[i]
  | a :: f, c :: g, v, 0, _, _, hn => by
    simp only [List.getElem_cons_zero, lastv, if_true]
    exact lastv_notin a f g c (List.nodup_cons.1 hn).1
  | a :: f, c :: g, v, i + 1, hi, hg, hn => by
    simp only [List.getElem_cons_succ, lastv]
    exact lastv_at f g _ i (by simpa using hi) (by simpa using hg) (List.nodup_cons.1 hn).2
/-- Where both texts have the same bytes, the way back is the table of them changed about. -/
theorem back (f g : List UInt8) (hl : f.length = g.length) (hf : f.Nodup) (hg : g.Nodup) (hm : ∀ b, b ∈ f ↔ b ∈ g) (b : UInt8) :
    (newM g f).1.getD ((newM f g).1.getD b.toNat 0).toNat 0 = b := by
  rw [newM_ok f g hl hf, newM_ok g f hl.symm hg]
  simp only
  rw [tabGo_get _ g f idT idT_len, tabGo_get b f g idT idT_len, idT_get, idT_get]
  by_cases h : b ∈ f
  · obtain ⟨i, hi, rfl⟩ := List.getElem_of_mem h
    rw [lastv_at f g _ i hi (by omega) hf, lastv_at g f _ i (by omega) hi hg]
  · rw [lastv_notin b f g b h, lastv_notin b g f b (fun e => h ((hm b).2 e))]
def rot (k : Nat) (f : List UInt8) : List UInt8 := f.drop k ++ f.take k
theorem rot_perm (k : Nat) (f : List UInt8) : (rot k f).Perm f := by
  unfold rot
  exact (List.perm_append_comm).trans (by rw [List.take_append_drop])
theorem rot_slice (k : Nat) (f : List UInt8) : (f.drop k).take (f.length - k) ++ (f.drop 0).take (k - 0) = rot k f := by
  rw [List.take_of_length_le (by simp), List.drop_zero, Nat.sub_zero]; rfl
theorem rot_len (k : Nat) (f : List UInt8) : (rot k f).length = f.length := (rot_perm k f).length_eq
theorem rot_nodup (k : Nat) (f : List UInt8) (h : f.Nodup) : (rot k f).Nodup := (rot_perm k f).nodup_iff.2 h
theorem nodup_le : ∀ (f L : List UInt8), f.Nodup → (∀ a ∈ f, a ∈ L) → f.length ≤ L.length
  | [], L, _, _ => Nat.zero_le _
  | a :: f, L, hn, hs => by
    have ha : a ∈ L := hs a (by simp)
    have := nodup_le f (L.erase a) (List.nodup_cons.1 hn).2 (fun b hb => (List.mem_erase_of_ne (fun e => (List.nodup_cons.1 hn).1 (by rw [← e]; exact hb))).2 (hs b (by simp [hb])))
    rw [List.length_erase_of_mem ha] at this
    have := List.length_pos_of_mem ha
    simp only [List.length_cons]
    omega
theorem nodup_256 (f : List UInt8) (hn : f.Nodup) : f.length ≤ 256 := by
  have := nodup_le f idT hn (fun a _ => List.mem_map.2 ⟨a.toNat, List.mem_range.2 a.toNat_lt, by simp⟩)
  rwa [idT_len] at this
theorem newM_twice (f g : List UInt8) (h : f.length = g.length) : (newM (f ++ f) (g ++ g)).2 = if f = [] then 0 else 21 := by
  unfold newM
  cases f with
  | nil =>
    have : g = [] := by cases g with
      | nil => rfl
      | cons a g => simp at h
    subst this; rfl
  | cons a f => rw [if_neg (by simp [List.nodup_append])]; rfl
end Go.Proofs.Ytbclmngjhhmbdaa
