/- Layer 1 (lines): the law LinesKeeps. -/
import Derived.Test.YtcaphghkflffgaaNh
namespace Go.Proofs.Ytcaphghkflffgaa
open Go.ChangeShapes Go.WideShapes Go.ChangeAt
open Go Go.RowKit Sl
set_option maxRecDepth 100000
set_option maxHeartbeats 8000000
set_option linter.unusedVariables false
set_option linter.unusedSimpArgs false
attribute [local irreducible] ES EL PX wps

theorem gLast {α : Type} (l : List α) (a d : α) : (l ++ [a]).getD l.length d = a := by
  rw [List.getD_eq_getElem?_getD]; simp
abbrev mkA : List UInt8 := [109, 97, 114, 107, 32, 97]
theorem marked (xs : LL) (i : Nat) (h : ∀ k, k < i → xs.getD k [] = mkA) (hi : i < xs.length) : ∀ k, k < i + 1 → (xs.set i mkA).getD k [] = mkA := by
  intro k hk
  rw [List.getD_eq_getElem?_getD, List.getElem?_set]
  by_cases e : i = k
  · subst e; rw [if_pos rfl, if_pos hi]; rfl
  · rw [if_neg e, ← List.getD_eq_getElem?_getD]; exact h k (by omega)
theorem lawKeeps_c (t : List UInt8) (ad : Option Addr) (cap : Nat) (ls : LL) (n : Int) (ht : t.length ≤ 1048576) (hb : ls.length + (ls.map List.length).sum ≤ 1048576) (hn1 : -9223372036854775808 ≤ n) (hn2 : n ≤ 9223372036854775807) (w : World) (hrd : Rd w w.heap.size ad (ls.map Sv)) :
    Pure Try.prog 8 #[Sv t, .slice ad ls.length cap, Iv n] (fun _ : Unit => .bool true) (fun _ => []) w := by
  have hcl := cutM_len t
  obtain ⟨ht1, _, _⟩ := tail_drop t n
  refine calls_of_ES TB Try.func8 rfl _ Try.ntmps8 rfl (Sat.start w) ?_
  repeat (first | apply ES.seq | apply ES.skip | apply ES.region | apply EL.nil | apply ES.block | apply ES.nil | apply ES.exit | apply ES.ret | apply PX.hit | (apply PX.miss; exact rfl) | apply PX.then_x | apply PX.then_r | apply PX.block_n | apply PX.block_r | refine PX.then_n (e := .normal) ?_)
  refine EL.assign rfl rfl rfl ?_
  repeat (first | apply ES.seq | apply ES.skip | apply ES.region | apply EL.nil | apply ES.block | apply ES.nil | apply ES.exit | apply ES.ret | apply PX.hit | (apply PX.miss; exact rfl) | apply PX.then_x | apply PX.then_r | apply PX.block_n | apply PX.block_r | refine PX.then_n (e := .normal) ?_)
  refine EL.callP rfl rfl rfl ent11 rfl awake_c ?_
  refine EL.not rfl rfl rfl ?_
  repeat (first | apply ES.seq | apply ES.skip | apply ES.region | apply EL.nil | apply ES.block | apply ES.nil | apply ES.exit | apply ES.ret | apply PX.hit | (apply PX.miss; exact rfl) | apply PX.then_x | apply PX.then_r | apply PX.block_n | apply PX.block_r | refine PX.then_n (e := .normal) ?_)
  refine ES.condK false rfl rfl ?_
  repeat (first | apply ES.seq | apply ES.skip | apply ES.region | apply EL.nil | apply ES.block | apply ES.nil | apply ES.exit | apply ES.ret | apply PX.hit | (apply PX.miss; exact rfl) | apply PX.then_x | apply PX.then_r | apply PX.block_n | apply PX.block_r | refine PX.then_n (e := .normal) ?_)
  refine EL.assign rfl rfl rfl ?_
  repeat (first | apply ES.seq | apply ES.skip | apply ES.region | apply EL.nil | apply ES.block | apply ES.nil | apply ES.exit | apply ES.ret | apply PX.hit | (apply PX.miss; exact rfl) | apply PX.then_x | apply PX.then_r | apply PX.block_n | apply PX.block_r | refine PX.then_n (e := .normal) ?_)
  refine EL.nilRow 9 1 ?_
  repeat (first | apply ES.seq | apply ES.skip | apply ES.region | apply EL.nil | apply ES.block | apply ES.nil | apply ES.exit | apply ES.ret | apply PX.hit | (apply PX.miss; exact rfl) | apply PX.then_x | apply PX.then_r | apply PX.block_n | apply PX.block_r | refine PX.then_n (e := .normal) ?_)
  refine EL.move rfl rfl rfl ?_
  refine EL.move rfl rfl rfl ?_
  (refine EL.appendRd rfl rfl rfl rfl rfl rfl rfl rfl rfl (by repeat (first | exact Pick.here _ _ | apply Pick.there)) hrd (by simp; exact (Nat.mul_one _).symm) (by intro u hu; obtain ⟨_, _, rfl⟩ := List.mem_map.1 hu; rfl) (by unfold maxLen; omega) (by first | omega | (show 1 * _ ≤ _; omega) | (show 8 * _ ≤ _; omega) | (show 16 * _ ≤ _; omega) | (show 24 * _ ≤ _; omega) | (show _ * 1 ≤ _; omega) | (show _ * 8 ≤ _; omega) | (show _ * 16 ≤ _; omega) | (show _ * 24 ≤ _; omega)) ?_; intro ad1 cap1)
  refine EL.assign rfl rfl rfl ?_
  repeat (first | apply EL.nil | apply ES.seq | apply ES.skip)
  obtain ⟨full, hfull⟩ : ∃ f, f = ls ++ [[98, 101, 104, 105, 110, 100]] := ⟨_, rfl⟩
  have hfl : full.length = ls.length + 1 := by rw [hfull]; simp
  have hft : (full.map Sv).take ls.length = ls.map Sv := by rw [hfull]; simp
  have hfg : full.getD ls.length [] = [98, 101, 104, 105, 110, 100] := by rw [hfull]; exact gLast _ _ _
  refine ES.cutC (X := Nat × Nat) (fun x => [(0, Sv t), (1, .slice ad ls.length cap), (2, Iv n), (7, .slice (some ⟨x.1, 0, none⟩) (ls.length + 1) x.2)]) (fun x => [HA.row (.slice (some ⟨x.1, 0, none⟩) (ls.length + 1) x.2) 9 1 (ls.length + 1) (full.map Sv)]) ?_ (fun x => ?_)
  · repeat (first | apply ES.seq | apply ES.skip | apply ES.region | apply EL.nil | apply ES.block | apply ES.nil | apply ES.exit | apply ES.ret | apply PX.hit | (apply PX.miss; exact rfl) | apply PX.then_x | apply PX.then_r | apply PX.block_n | apply PX.block_r | refine PX.then_n (e := .normal) ?_)
    refine EL.move rfl rfl rfl ?_
    (refine EL.buildSlice1 rfl rfl rfl rfl rfl rfl rfl rfl rfl rfl ?_; intro b22)
    (refine EL.append1 rfl rfl rfl rfl rfl rfl rfl rfl rfl (by repeat (first | exact Mem.here _ _ | apply Mem.there)) (by repeat (first | exact Pick.here _ _ | apply Pick.there)) (by intro u hu; simp [Value.cells] at hu; subst hu; rfl) (by rfl) (by unfold maxLen; omega) (by first | omega | (show 1 * _ ≤ _; omega) | (show 8 * _ ≤ _; omega) | (show 16 * _ ≤ _; omega) | (show 24 * _ ≤ _; omega) | (show _ * 1 ≤ _; omega) | (show _ * 8 ≤ _; omega) | (show _ * 16 ≤ _; omega) | (show _ * 24 ≤ _; omega)) ?_; intro a23 c23)
    refine EL.assign rfl rfl rfl ?_
    repeat (first | apply ES.seq | apply ES.skip | apply ES.region | apply EL.nil | apply ES.block | apply ES.nil | apply ES.exit | apply ES.ret | apply PX.hit | (apply PX.miss; exact rfl) | apply PX.then_x | apply PX.then_r | apply PX.block_n | apply PX.block_r | refine PX.then_n (e := .normal) ?_)
    refine PX.cutX (a23, c23) ⟨rfl, rfl, rfl, getA rfl (by simp), trivial⟩ ?_
    rw [hfull, List.map_append]
    simp only [Nat.zero_add, List.nil_append]
    exact (by repeat (first | exact Ent.nil _ | exact Ent.refl _ | (apply Ent.cons; case p => repeat (first | exact Pick.here _ _ | apply Pick.there)) | apply Ent.drop))
  obtain ⟨gf, capf⟩ := x
  dsimp only
  refine ES.rowForm (ad := some ⟨gf, 0, none⟩) (cap := capf) (e := 9) (sz := 1) (n := ls.length + 1) (cs := full.map Sv) (by repeat (first | exact Mem.here _ _ | apply Mem.there)) (fun hfm => ?_)
  repeat (first | apply ES.seq | apply ES.skip | apply ES.region | apply EL.nil | apply ES.block | apply ES.nil | apply ES.exit | apply ES.ret | apply PX.hit | (apply PX.miss; exact rfl) | apply PX.then_x | apply PX.then_r | apply PX.block_n | apply PX.block_r | refine PX.then_n (e := .normal) ?_)
  refine EL.move rfl rfl rfl ?_
  refine EL.move rfl rfl rfl ?_
  refine EL.lenL rfl rfl rfl rfl rfl ?_
  refine EL.sliceHi rfl rfl rfl rfl rfl rfl rfl (by omega) hfm.2.1 ?_
  refine EL.callPw rfl rfl rfl ent17 rfl (fun w' hs => join_c (some ⟨gf, 0, none⟩) capf ls (by omega) w' (by have h := (Rd.row hs (by repeat (first | exact Mem.here _ _ | apply Mem.there)) (by decide)).take ls.length; rwa [hft] at h)) ?_
  repeat (first | apply ES.seq | apply ES.skip | apply ES.region | apply EL.nil | apply ES.block | apply ES.nil | apply ES.exit | apply ES.ret | apply PX.hit | (apply PX.miss; exact rfl) | apply PX.then_x | apply PX.then_r | apply PX.block_n | apply PX.block_r | refine PX.then_n (e := .normal) ?_)
  refine EL.move rfl rfl rfl ?_
  refine EL.move rfl rfl rfl ?_
  refine EL.lenL rfl rfl rfl rfl rfl ?_
  refine EL.sliceHi rfl rfl rfl rfl rfl rfl rfl (by omega) hfm.2.1 ?_
  refine EL.move rfl rfl rfl ?_
  refine EL.callPw rfl rfl rfl ent12 rfl (fun w' hs => same_eq (some ⟨gf, 0, none⟩) capf ls ad cap (by omega) w' (by have h := (Rd.row hs (by repeat (first | exact Mem.here _ _ | apply Mem.there)) (by decide)).take ls.length; rwa [hft] at h) (hrd.sat hs)) ?_
  refine EL.not rfl rfl rfl ?_
  refine EL.move rfl rfl rfl ?_
  refine EL.rew (d := 36) (v' := .bool false) rfl (by first | rfl | (decide) | (simp)) ?_
  refine EL.move rfl rfl rfl ?_
  refine EL.move rfl rfl rfl ?_
  refine EL.lenL rfl rfl rfl rfl rfl ?_
  refine EL.indexAddrL1 rfl rfl rfl rfl rfl rfl rfl rfl (by omega) ?_
  refine EL.loadRm Sv [] (l := full) rfl rfl rfl rfl rfl (by repeat (first | exact Mem.here _ _ | apply Mem.there)) (by omega) ?_
  refine EL.neqS rfl rfl rfl rfl ?_
  refine EL.pickF rfl rfl rfl rfl ?_
  repeat (first | apply ES.seq | apply ES.skip | apply ES.region | apply EL.nil | apply ES.block | apply ES.nil | apply ES.exit | apply ES.ret | apply PX.hit | (apply PX.miss; exact rfl) | apply PX.then_x | apply PX.then_r | apply PX.block_n | apply PX.block_r | refine PX.then_n (e := .normal) ?_)
  refine ES.condK false rfl (by rw [hfg]; exact congrArg not (decide_eq_true rfl)) ?_
  repeat (first | apply ES.seq | apply ES.skip | apply ES.region | apply EL.nil | apply ES.block | apply ES.nil | apply ES.exit | apply ES.ret | apply PX.hit | (apply PX.miss; exact rfl) | apply PX.then_x | apply PX.then_r | apply PX.block_n | apply PX.block_r | refine PX.then_n (e := .normal) ?_)
  refine EL.move rfl rfl rfl ?_
  (refine EL.callX rfl rfl rfl ent14 rfl (lcut_c t (by omega)) ?_; rintro ⟨ada, capa⟩)
  refine EL.move rfl rfl rfl ?_
  (refine EL.callX rfl rfl rfl ent14 rfl (lcut_c t (by omega)) ?_; rintro ⟨adb, capb⟩)
  refine EL.move rfl rfl rfl ?_
  refine EL.move rfl rfl rfl ?_
  (refine EL.callX rfl rfl rfl ent19 rfl (tail_c t n (by omega)) ?_; rintro ⟨adc, capc⟩)
  refine EL.move rfl rfl rfl ?_
  refine EL.move rfl rfl rfl ?_
  (refine EL.callX rfl rfl rfl ent19 rfl (tail_c t n (by omega)) ?_; rintro ⟨add, capd⟩)
  refine EL.assign rfl rfl rfl ?_
  refine EL.assign rfl rfl rfl ?_
  refine EL.assign rfl rfl rfl ?_
  refine EL.assign rfl rfl rfl ?_
  repeat (first | apply ES.seq | apply ES.skip | apply ES.region | apply EL.nil | apply ES.block | apply ES.nil | apply ES.exit | apply ES.ret | apply PX.hit | (apply PX.miss; exact rfl) | apply PX.then_x | apply PX.then_r | apply PX.block_n | apply PX.block_r | refine PX.then_n (e := .normal) ?_)
  refine EL.move rfl rfl rfl ?_
  refine EL.lenL rfl rfl rfl rfl rfl ?_
  refine EL.move rfl rfl rfl ?_
  repeat (first | apply ES.seq | apply ES.skip | apply ES.region | apply EL.nil | apply ES.block | apply ES.nil | apply ES.exit | apply ES.ret | apply PX.hit | (apply PX.miss; exact rfl) | apply PX.then_x | apply PX.then_r | apply PX.block_n | apply PX.block_r | refine PX.then_n (e := .normal) ?_)
  refine ES.loop (σ := Nat × LL) (fun (i, xs) => i ≤ (cutM t).length ∧ xs.length = (cutM t).length ∧ ∀ k, k < i → xs.getD k [] = mkA) (fun (i, xs) => [(0, Sv t), (2, Iv n), (8, .slice ada (cutM t).length capa), (9, .slice adb (cutM t).length capb), (10, .slice adc (tailM t n).length capc), (11, .slice add (tailM t n).length capd), (55, Iv (cutM t).length), (56, Iv i)]) (fun (i, xs) => [HA.row (.slice ada (cutM t).length capa) 9 1 (cutM t).length (xs.map Sv), HA.row (.slice adb (cutM t).length capb) 9 1 (cutM t).length ((cutM t).map Sv), HA.row (.slice adc (tailM t n).length capc) 9 1 (tailM t n).length ((tailM t n).map Sv), HA.row (.slice add (tailM t n).length capd) 9 1 (tailM t n).length ((tailM t n).map Sv)]) (fun (i, xs) => (cutM t).length - i) (0, cutM t) ⟨Nat.zero_le _, rfl, fun k h => by omega⟩ ⟨rfl, rfl, rfl, rfl, rfl, rfl, rfl, rfl, trivial⟩ (by repeat (first | exact Ent.nil _ | exact Ent.refl _ | (apply Ent.cons; case p => repeat (first | exact Pick.here _ _ | apply Pick.there)) | apply Ent.drop)) ?_
  rintro ⟨i, xs⟩ ⟨hi, hxs, hmk⟩
  dsimp only at hi hxs hmk ⊢
  repeat (first | apply ES.seq | apply ES.skip | apply ES.region | apply EL.nil | apply ES.block | apply ES.nil | apply ES.exit | apply ES.ret | apply PX.hit | (apply PX.miss; exact rfl) | apply PX.then_x | apply PX.then_r | apply PX.block_n | apply PX.block_r | refine PX.then_n (e := .normal) ?_)
  refine EL.lss rfl rfl rfl rfl ?_
  repeat (first | apply ES.seq | apply ES.skip | apply ES.region | apply EL.nil | apply ES.block | apply ES.nil | apply ES.exit | apply ES.ret | apply PX.hit | (apply PX.miss; exact rfl) | apply PX.then_x | apply PX.then_r | apply PX.block_n | apply PX.block_r | refine PX.then_n (e := .normal) ?_)
  refine ES.condD rfl (fun hlt => ?_) (fun hge => ?_)
  · have hlt' : i < (cutM t).length := by omega
    refine ES.rowForm (ad := ada) (cap := capa) (e := 9) (sz := 1) (n := (cutM t).length) (cs := xs.map Sv) (by repeat (first | exact Mem.here _ _ | apply Mem.there)) (fun hfm => ?_)
    obtain ⟨ga, rfl⟩ := hfm.2.2.2.2 (by omega)
    repeat (first | apply ES.seq | apply ES.skip | apply ES.region | apply EL.nil | apply ES.block | apply ES.nil | apply ES.exit | apply ES.ret | apply PX.hit | (apply PX.miss; exact rfl) | apply PX.then_x | apply PX.then_r | apply PX.block_n | apply PX.block_r | refine PX.then_n (e := .normal) ?_)
    refine EL.move rfl rfl rfl ?_
    refine EL.assign rfl rfl rfl ?_
    repeat (first | apply ES.seq | apply ES.skip | apply ES.region | apply EL.nil | apply ES.block | apply ES.nil | apply ES.exit | apply ES.ret | apply PX.hit | (apply PX.miss; exact rfl) | apply PX.then_x | apply PX.then_r | apply PX.block_n | apply PX.block_r | refine PX.then_n (e := .normal) ?_)
    refine EL.move rfl rfl rfl ?_
    refine EL.move rfl rfl rfl ?_
    refine EL.indexAddrL1 rfl rfl rfl rfl rfl rfl rfl rfl (by omega) ?_
    refine EL.storeR rfl rfl rfl rfl rfl rfl (by repeat (first | exact PickSet.here _ _ _ | apply PickSet.there)) (by simp; omega) ?_
    repeat (first | apply ES.seq | apply ES.skip | apply ES.region | apply EL.nil | apply ES.block | apply ES.nil | apply ES.exit | apply ES.ret | apply PX.hit | (apply PX.miss; exact rfl) | apply PX.then_x | apply PX.then_r | apply PX.block_n | apply PX.block_r | refine PX.then_n (e := .normal) ?_)
    refine EL.add1 rfl rfl rfl rfl (by omega) ?_
    refine EL.move rfl rfl rfl ?_
    repeat (first | apply ES.seq | apply ES.skip | apply ES.region | apply EL.nil | apply ES.block | apply ES.nil | apply ES.exit | apply ES.ret | apply PX.hit | (apply PX.miss; exact rfl) | apply PX.then_x | apply PX.then_r | apply PX.block_n | apply PX.block_r | refine PX.then_n (e := .normal) ?_)
    refine PX.loop (i + 1, xs.set i mkA) ⟨by simp only; omega, by simp only [List.length_set]; exact hxs, marked xs i hmk (by omega)⟩ (by simp only; omega) ⟨rfl, rfl, rfl, rfl, rfl, rfl, rfl, rfl, trivial⟩ ?_
    dsimp only
    rw [List.map_set]
    exact (by repeat (first | exact Ent.nil _ | exact Ent.refl _ | (apply Ent.cons; case p => repeat (first | exact Pick.here _ _ | apply Pick.there)) | apply Ent.drop))
  obtain rfl : i = (cutM t).length := by omega
  obtain ⟨L, hL⟩ : ∃ L, L = (cutM t).length := ⟨_, rfl⟩
  obtain ⟨K, hK⟩ : ∃ K, K = (tailM t n).length := ⟨_, rfl⟩
  have hsb := fun (adr : Option Addr) (capr : Nat) => same_eq adb capb (cutM t) adr capr (by omega)
  have hsd := fun (adr : Option Addr) (capr : Nat) => same_eq add capd (tailM t n) adr capr (by omega)
  have hrc := rcut_c t (by omega)
  have hrt := rtail_c t n hn1 hn2 (by omega)
  have hbl : ((cutM t).map Sv).length = L := by simp [hL]
  have hdl : ((tailM t n).map Sv).length = K := by simp [hK]
  rw [← hL] at hcl hxs hmk ht1 hsb hrc ⊢
  rw [← hK] at ht1 hsd hrt ⊢
  repeat (first | apply ES.seq | apply ES.skip | apply ES.region | apply EL.nil | apply ES.block | apply ES.nil | apply ES.exit | apply ES.ret | apply PX.hit | (apply PX.miss; exact rfl) | apply PX.then_x | apply PX.then_r | apply PX.block_n | apply PX.block_r | refine PX.then_n (e := .normal) ?_)
  refine EL.move rfl rfl rfl ?_
  refine EL.lenL rfl rfl rfl rfl rfl ?_
  refine EL.move rfl rfl rfl ?_
  repeat (first | apply ES.seq | apply ES.skip | apply ES.region | apply EL.nil | apply ES.block | apply ES.nil | apply ES.exit | apply ES.ret | apply PX.hit | (apply PX.miss; exact rfl) | apply PX.then_x | apply PX.then_r | apply PX.block_n | apply PX.block_r | refine PX.then_n (e := .normal) ?_)
  refine ES.loop (σ := Nat × LL) (fun (i, ys) => i ≤ K ∧ ys.length = K) (fun (i, ys) => [(0, Sv t), (2, Iv n), (8, .slice ada L capa), (9, .slice adb L capb), (10, .slice adc K capc), (11, .slice add K capd), (64, Iv K), (65, Iv i)]) (fun (i, ys) => [HA.row (.slice ada L capa) 9 1 L (xs.map Sv), HA.row (.slice adb L capb) 9 1 L ((cutM t).map Sv), HA.row (.slice adc K capc) 9 1 K (ys.map Sv), HA.row (.slice add K capd) 9 1 K ((tailM t n).map Sv)]) (fun (i, ys) => K - i) (0, tailM t n) ⟨Nat.zero_le _, hK.symm⟩ ⟨rfl, rfl, rfl, rfl, rfl, rfl, rfl, rfl, trivial⟩ (by repeat (first | exact Ent.nil _ | exact Ent.refl _ | (apply Ent.cons; case p => repeat (first | exact Pick.here _ _ | apply Pick.there)) | apply Ent.drop)) ?_
  rintro ⟨i, ys⟩ ⟨hi, hys⟩
  dsimp only at hi hys ⊢
  repeat (first | apply ES.seq | apply ES.skip | apply ES.region | apply EL.nil | apply ES.block | apply ES.nil | apply ES.exit | apply ES.ret | apply PX.hit | (apply PX.miss; exact rfl) | apply PX.then_x | apply PX.then_r | apply PX.block_n | apply PX.block_r | refine PX.then_n (e := .normal) ?_)
  refine EL.lss rfl rfl rfl rfl ?_
  repeat (first | apply ES.seq | apply ES.skip | apply ES.region | apply EL.nil | apply ES.block | apply ES.nil | apply ES.exit | apply ES.ret | apply PX.hit | (apply PX.miss; exact rfl) | apply PX.then_x | apply PX.then_r | apply PX.block_n | apply PX.block_r | refine PX.then_n (e := .normal) ?_)
  refine ES.condD rfl (fun hlt => ?_) (fun hge => ?_)
  · have hlt' : i < K := by omega
    refine ES.rowForm (ad := adc) (cap := capc) (e := 9) (sz := 1) (n := K) (cs := ys.map Sv) (by repeat (first | exact Mem.here _ _ | apply Mem.there)) (fun hfm => ?_)
    obtain ⟨gc, rfl⟩ := hfm.2.2.2.2 (by omega)
    repeat (first | apply ES.seq | apply ES.skip | apply ES.region | apply EL.nil | apply ES.block | apply ES.nil | apply ES.exit | apply ES.ret | apply PX.hit | (apply PX.miss; exact rfl) | apply PX.then_x | apply PX.then_r | apply PX.block_n | apply PX.block_r | refine PX.then_n (e := .normal) ?_)
    refine EL.move rfl rfl rfl ?_
    refine EL.assign rfl rfl rfl ?_
    repeat (first | apply ES.seq | apply ES.skip | apply ES.region | apply EL.nil | apply ES.block | apply ES.nil | apply ES.exit | apply ES.ret | apply PX.hit | (apply PX.miss; exact rfl) | apply PX.then_x | apply PX.then_r | apply PX.block_n | apply PX.block_r | refine PX.then_n (e := .normal) ?_)
    refine EL.move rfl rfl rfl ?_
    refine EL.move rfl rfl rfl ?_
    refine EL.indexAddrL1 rfl rfl rfl rfl rfl rfl rfl rfl (by omega) ?_
    refine EL.storeR rfl rfl rfl rfl rfl rfl (by repeat (first | exact PickSet.here _ _ _ | apply PickSet.there)) (by simp; omega) ?_
    repeat (first | apply ES.seq | apply ES.skip | apply ES.region | apply EL.nil | apply ES.block | apply ES.nil | apply ES.exit | apply ES.ret | apply PX.hit | (apply PX.miss; exact rfl) | apply PX.then_x | apply PX.then_r | apply PX.block_n | apply PX.block_r | refine PX.then_n (e := .normal) ?_)
    refine EL.add1 rfl rfl rfl rfl (by omega) ?_
    refine EL.move rfl rfl rfl ?_
    repeat (first | apply ES.seq | apply ES.skip | apply ES.region | apply EL.nil | apply ES.block | apply ES.nil | apply ES.exit | apply ES.ret | apply PX.hit | (apply PX.miss; exact rfl) | apply PX.then_x | apply PX.then_r | apply PX.block_n | apply PX.block_r | refine PX.then_n (e := .normal) ?_)
    refine PX.loop (i + 1, ys.set i [109, 97, 114, 107, 32, 99]) ⟨by simp only; omega, by simp only [List.length_set]; exact hys⟩ (by simp only; omega) ⟨rfl, rfl, rfl, rfl, rfl, rfl, rfl, rfl, trivial⟩ ?_
    dsimp only
    rw [List.map_set]
    exact (by repeat (first | exact Ent.nil _ | exact Ent.refl _ | (apply Ent.cons; case p => repeat (first | exact Pick.here _ _ | apply Pick.there)) | apply Ent.drop))
  repeat (first | apply ES.seq | apply ES.skip | apply ES.region | apply EL.nil | apply ES.block | apply ES.nil | apply ES.exit | apply ES.ret | apply PX.hit | (apply PX.miss; exact rfl) | apply PX.then_x | apply PX.then_r | apply PX.block_n | apply PX.block_r | refine PX.then_n (e := .normal) ?_)
  refine EL.move rfl rfl rfl ?_
  (refine EL.buildSliceS [Sv [97, 49], Sv [97, 50]] rfl rfl rfl rfl rfl rfl rfl rfl rfl rfl (by intro u hu; simp at hu; rcases hu with rfl | rfl <;> rfl) ?_; intro b73)
  (refine EL.append (m := 2) (news := [Sv [97, 49], Sv [97, 50]]) (cs := xs.map Sv) (n := L) rfl rfl rfl rfl rfl rfl rfl rfl rfl (by repeat (first | exact Pick.here _ _ | apply Pick.there)) (by rfl) (by omega) (fun w hs => row_news hs (by repeat (first | exact Mem.here _ _ | apply Mem.there))) (by intro u hu; simp at hu; rcases hu with rfl | rfl <;> rfl) (by unfold maxLen; omega) (by first | omega | (show 1 * _ ≤ _; omega) | (show 8 * _ ≤ _; omega) | (show 16 * _ ≤ _; omega) | (show 24 * _ ≤ _; omega) | (show _ * 1 ≤ _; omega) | (show _ * 8 ≤ _; omega) | (show _ * 16 ≤ _; omega) | (show _ * 24 ≤ _; omega)) ?_; intro a74 c74)
  refine EL.move rfl rfl rfl ?_
  (refine EL.buildSlice1 rfl rfl rfl rfl rfl rfl rfl rfl rfl rfl ?_; intro b76)
  (refine EL.append1 rfl rfl rfl rfl rfl rfl rfl rfl rfl (by repeat (first | exact Mem.here _ _ | apply Mem.there)) (by repeat (first | exact Pick.here _ _ | apply Pick.there)) (by intro u hu; simp [Value.cells] at hu; subst hu; rfl) (by rfl) (by unfold maxLen; omega) (by first | omega | (show 1 * _ ≤ _; omega) | (show 8 * _ ≤ _; omega) | (show 16 * _ ≤ _; omega) | (show 24 * _ ≤ _; omega) | (show _ * 1 ≤ _; omega) | (show _ * 8 ≤ _; omega) | (show _ * 16 ≤ _; omega) | (show _ * 24 ≤ _; omega)) ?_; intro a77 c77)
  refine EL.assign rfl rfl rfl ?_
  refine EL.assign rfl rfl rfl ?_
  repeat (first | apply ES.seq | apply ES.skip | apply ES.region | apply EL.nil | apply ES.block | apply ES.nil | apply ES.exit | apply ES.ret | apply PX.hit | (apply PX.miss; exact rfl) | apply PX.then_x | apply PX.then_r | apply PX.block_n | apply PX.block_r | refine PX.then_n (e := .normal) ?_)
  repeat (first | apply ES.seq | apply ES.skip | apply ES.region | apply EL.nil | apply ES.block | apply ES.nil | apply ES.exit | apply ES.ret | apply PX.hit | (apply PX.miss; exact rfl) | apply PX.then_x | apply PX.then_r | apply PX.block_n | apply PX.block_r | refine PX.then_n (e := .normal) ?_)
  refine EL.move rfl rfl rfl ?_
  refine EL.move rfl rfl rfl ?_
  (refine EL.callX rfl rfl rfl ent13 rfl hrc ?_; rintro ⟨adr, capr⟩)
  refine EL.callPw rfl rfl rfl ent12 rfl (fun w hs => hsb adr capr w (Rd.row hs (by repeat (first | exact Mem.here _ _ | apply Mem.there)) (by decide)) (Rd.row hs (by repeat (first | exact Mem.here _ _ | apply Mem.there)) (by decide))) ?_
  refine EL.not rfl rfl rfl ?_
  refine EL.move rfl rfl rfl ?_
  refine EL.rew (d := 83) (v' := .bool false) rfl (by first | rfl | (decide) | (simp)) ?_
  refine EL.move rfl rfl rfl ?_
  refine EL.move rfl rfl rfl ?_
  refine EL.move rfl rfl rfl ?_
  (refine EL.callX rfl rfl rfl ent20 rfl hrt ?_; rintro ⟨ads, caps⟩)
  refine EL.callPw rfl rfl rfl ent12 rfl (fun w hs => hsd ads caps w (Rd.row hs (by repeat (first | exact Mem.here _ _ | apply Mem.there)) (by decide)) (Rd.row hs (by repeat (first | exact Mem.here _ _ | apply Mem.there)) (by decide))) ?_
  refine EL.not rfl rfl rfl ?_
  refine EL.pickF rfl rfl rfl rfl ?_
  repeat (first | apply ES.seq | apply ES.skip | apply ES.region | apply EL.nil | apply ES.block | apply ES.nil | apply ES.exit | apply ES.ret | apply PX.hit | (apply PX.miss; exact rfl) | apply PX.then_x | apply PX.then_r | apply PX.block_n | apply PX.block_r | refine PX.then_n (e := .normal) ?_)
  refine ES.condK false rfl rfl ?_
  repeat (first | apply ES.seq | apply ES.skip | apply ES.region | apply EL.nil | apply ES.block | apply ES.nil | apply ES.exit | apply ES.ret | apply PX.hit | (apply PX.miss; exact rfl) | apply PX.then_x | apply PX.then_r | apply PX.block_n | apply PX.block_r | refine PX.then_n (e := .normal) ?_)
  refine EL.move rfl rfl rfl ?_
  (refine EL.buildSliceS [Sv [98, 49], Sv [98, 50]] rfl rfl rfl rfl rfl rfl rfl rfl rfl rfl (by intro u hu; simp at hu; rcases hu with rfl | rfl <;> rfl) ?_; intro b92)
  (refine EL.append (m := 2) (news := [Sv [98, 49], Sv [98, 50]]) (cs := (cutM t).map Sv) (n := L) (ad := adb) rfl rfl rfl rfl rfl rfl rfl rfl rfl (by repeat (first | exact Pick.here _ _ | apply Pick.there)) (by rfl) (by omega) (fun w hs => row_news hs (by repeat (first | exact Mem.here _ _ | apply Mem.there))) (by intro u hu; simp at hu; rcases hu with rfl | rfl <;> rfl) (by unfold maxLen; omega) (by first | omega | (show 1 * _ ≤ _; omega) | (show 8 * _ ≤ _; omega) | (show 16 * _ ≤ _; omega) | (show 24 * _ ≤ _; omega) | (show _ * 1 ≤ _; omega) | (show _ * 8 ≤ _; omega) | (show _ * 16 ≤ _; omega) | (show _ * 24 ≤ _; omega)) ?_; intro a93 c93)
  refine EL.move rfl rfl rfl ?_
  (refine EL.buildSlice1 rfl rfl rfl rfl rfl rfl rfl rfl rfl rfl ?_; intro b95)
  (refine EL.append1 rfl rfl rfl rfl rfl rfl rfl rfl rfl (by repeat (first | exact Mem.here _ _ | apply Mem.there)) (by repeat (first | exact Pick.here _ _ | apply Pick.there)) (by intro u hu; simp [Value.cells] at hu; subst hu; rfl) (by rfl) (by unfold maxLen; omega) (by first | omega | (show 1 * _ ≤ _; omega) | (show 8 * _ ≤ _; omega) | (show 16 * _ ≤ _; omega) | (show 24 * _ ≤ _; omega) | (show _ * 1 ≤ _; omega) | (show _ * 8 ≤ _; omega) | (show _ * 16 ≤ _; omega) | (show _ * 24 ≤ _; omega)) ?_; intro a96 c96)
  refine EL.assign rfl rfl rfl ?_
  refine EL.assign rfl rfl rfl ?_
  repeat (first | apply ES.seq | apply ES.skip | apply ES.region | apply EL.nil | apply ES.block | apply ES.nil | apply ES.exit | apply ES.ret | apply PX.hit | (apply PX.miss; exact rfl) | apply PX.then_x | apply PX.then_r | apply PX.block_n | apply PX.block_r | refine PX.then_n (e := .normal) ?_)
  refine EL.move rfl rfl rfl ?_
  refine EL.lenL rfl rfl rfl rfl rfl ?_
  refine EL.move rfl rfl rfl ?_
  repeat (first | apply ES.seq | apply ES.skip | apply ES.region | apply EL.nil | apply ES.block | apply ES.nil | apply ES.exit | apply ES.ret | apply PX.hit | (apply PX.miss; exact rfl) | apply PX.then_x | apply PX.then_r | apply PX.block_n | apply PX.block_r | refine PX.then_n (e := .normal) ?_)
  have hzl : (cutM t ++ [[98, 49], [98, 50]]).length = L + 2 := by simp [hL]
  refine ES.loop (σ := Nat × LL) (fun (i, zs) => i ≤ L + 2 ∧ zs.length = L + 2) (fun (i, zs) => [(8, .slice (some ⟨a74, 0, none⟩) (L + 2) c74), (9, .slice (some ⟨a93, 0, none⟩) (L + 2) c93), (10, .slice (some ⟨a77, 0, none⟩) (K + 1) c77), (11, .slice (some ⟨a96, 0, none⟩) (K + 1) c96), (98, Iv (L + 2 : Nat)), (99, Iv i)]) (fun (i, zs) => [HA.row (.slice (some ⟨a74, 0, none⟩) (L + 2) c74) 9 1 (L + 2) (xs.map Sv ++ [Sv [97, 49], Sv [97, 50]]), HA.row (.slice (some ⟨a93, 0, none⟩) (L + 2) c93) 9 1 (L + 2) (zs.map Sv), HA.row (.slice (some ⟨a77, 0, none⟩) (K + 1) c77) 9 1 (K + 1) (ys.map Sv ++ [Sv [99, 49]]), HA.row (.slice (some ⟨a96, 0, none⟩) (K + 1) c96) 9 1 (K + 1) ((tailM t n).map Sv ++ [Sv [100, 49]])]) (fun (i, zs) => L + 2 - i) (0, cutM t ++ [[98, 49], [98, 50]]) ⟨Nat.zero_le _, hzl⟩ ⟨rfl, rfl, rfl, rfl, rfl, rfl, trivial⟩ (by simp only [List.map_append, List.map_cons, List.map_nil]; exact (by repeat (first | exact Ent.nil _ | exact Ent.refl _ | (apply Ent.cons; case p => repeat (first | exact Pick.here _ _ | apply Pick.there)) | apply Ent.drop))) ?_
  rintro ⟨i, zs⟩ ⟨hi, hzs⟩
  dsimp only at hi hzs ⊢
  repeat (first | apply ES.seq | apply ES.skip | apply ES.region | apply EL.nil | apply ES.block | apply ES.nil | apply ES.exit | apply ES.ret | apply PX.hit | (apply PX.miss; exact rfl) | apply PX.then_x | apply PX.then_r | apply PX.block_n | apply PX.block_r | refine PX.then_n (e := .normal) ?_)
  refine EL.lss rfl rfl rfl rfl ?_
  repeat (first | apply ES.seq | apply ES.skip | apply ES.region | apply EL.nil | apply ES.block | apply ES.nil | apply ES.exit | apply ES.ret | apply PX.hit | (apply PX.miss; exact rfl) | apply PX.then_x | apply PX.then_r | apply PX.block_n | apply PX.block_r | refine PX.then_n (e := .normal) ?_)
  refine ES.condD rfl (fun hlt => ?_) (fun hge => ?_)
  · have hlt' : i < L + 2 := by omega
    repeat (first | apply ES.seq | apply ES.skip | apply ES.region | apply EL.nil | apply ES.block | apply ES.nil | apply ES.exit | apply ES.ret | apply PX.hit | (apply PX.miss; exact rfl) | apply PX.then_x | apply PX.then_r | apply PX.block_n | apply PX.block_r | refine PX.then_n (e := .normal) ?_)
    refine EL.move rfl rfl rfl ?_
    refine EL.assign rfl rfl rfl ?_
    repeat (first | apply ES.seq | apply ES.skip | apply ES.region | apply EL.nil | apply ES.block | apply ES.nil | apply ES.exit | apply ES.ret | apply PX.hit | (apply PX.miss; exact rfl) | apply PX.then_x | apply PX.then_r | apply PX.block_n | apply PX.block_r | refine PX.then_n (e := .normal) ?_)
    refine EL.move rfl rfl rfl ?_
    refine EL.move rfl rfl rfl ?_
    refine EL.indexAddrL1 rfl rfl rfl rfl rfl rfl rfl rfl hlt' ?_
    refine EL.storeR rfl rfl rfl rfl rfl rfl (by repeat (first | exact PickSet.here _ _ _ | apply PickSet.there)) (by simp; omega) ?_
    repeat (first | apply ES.seq | apply ES.skip | apply ES.region | apply EL.nil | apply ES.block | apply ES.nil | apply ES.exit | apply ES.ret | apply PX.hit | (apply PX.miss; exact rfl) | apply PX.then_x | apply PX.then_r | apply PX.block_n | apply PX.block_r | refine PX.then_n (e := .normal) ?_)
    refine EL.add1 rfl rfl rfl rfl (by omega) ?_
    refine EL.move rfl rfl rfl ?_
    repeat (first | apply ES.seq | apply ES.skip | apply ES.region | apply EL.nil | apply ES.block | apply ES.nil | apply ES.exit | apply ES.ret | apply PX.hit | (apply PX.miss; exact rfl) | apply PX.then_x | apply PX.then_r | apply PX.block_n | apply PX.block_r | refine PX.then_n (e := .normal) ?_)
    refine PX.loop (i + 1, zs.set i [109, 97, 114, 107, 32, 98]) ⟨by simp only; omega, by simp only [List.length_set]; exact hzs⟩ (by simp only; omega) ⟨rfl, rfl, rfl, rfl, rfl, rfl, trivial⟩ ?_
    dsimp only
    rw [List.map_set]
    exact (by repeat (first | exact Ent.nil _ | exact Ent.refl _ | (apply Ent.cons; case p => repeat (first | exact Pick.here _ _ | apply Pick.there)) | apply Ent.drop))
  repeat (first | apply ES.seq | apply ES.skip | apply ES.region | apply EL.nil | apply ES.block | apply ES.nil | apply ES.exit | apply ES.ret | apply PX.hit | (apply PX.miss; exact rfl) | apply PX.then_x | apply PX.then_r | apply PX.block_n | apply PX.block_r | refine PX.then_n (e := .normal) ?_)
  refine EL.move rfl rfl rfl ?_
  refine EL.lenL rfl rfl rfl rfl rfl ?_
  refine EL.subN (n := 2) rfl rfl rfl rfl rfl (by omega) (by omega) ?_
  refine EL.move rfl rfl rfl ?_
  repeat (first | apply ES.seq | apply ES.skip | apply ES.region | apply EL.nil | apply ES.block | apply ES.nil | apply ES.exit | apply ES.ret | apply PX.hit | (apply PX.miss; exact rfl) | apply PX.then_x | apply PX.then_r | apply PX.block_n | apply PX.block_r | refine PX.then_n (e := .normal) ?_)
  refine ES.loop (σ := Nat) (fun i => i ≤ L) (fun i => [(8, .slice (some ⟨a74, 0, none⟩) (L + 2) c74), (10, .slice (some ⟨a77, 0, none⟩) (K + 1) c77), (11, .slice (some ⟨a96, 0, none⟩) (K + 1) c96), (108, Iv (L + 2 - 2 : Nat)), (109, Iv i)]) (fun i => [HA.row (.slice (some ⟨a74, 0, none⟩) (L + 2) c74) 9 1 (L + 2) (xs.map Sv ++ [Sv [97, 49], Sv [97, 50]]), HA.row (.slice (some ⟨a77, 0, none⟩) (K + 1) c77) 9 1 (K + 1) (ys.map Sv ++ [Sv [99, 49]]), HA.row (.slice (some ⟨a96, 0, none⟩) (K + 1) c96) 9 1 (K + 1) ((tailM t n).map Sv ++ [Sv [100, 49]])]) (fun i => L - i) 0 (Nat.zero_le _) ⟨rfl, rfl, rfl, rfl, rfl, trivial⟩ (by repeat (first | exact Ent.nil _ | exact Ent.refl _ | (apply Ent.cons; case p => repeat (first | exact Pick.here _ _ | apply Pick.there)) | apply Ent.drop)) ?_
  intro i hi
  repeat (first | apply ES.seq | apply ES.skip | apply ES.region | apply EL.nil | apply ES.block | apply ES.nil | apply ES.exit | apply ES.ret | apply PX.hit | (apply PX.miss; exact rfl) | apply PX.then_x | apply PX.then_r | apply PX.block_n | apply PX.block_r | refine PX.then_n (e := .normal) ?_)
  refine EL.lss rfl rfl rfl rfl ?_
  repeat (first | apply ES.seq | apply ES.skip | apply ES.region | apply EL.nil | apply ES.block | apply ES.nil | apply ES.exit | apply ES.ret | apply PX.hit | (apply PX.miss; exact rfl) | apply PX.then_x | apply PX.then_r | apply PX.block_n | apply PX.block_r | refine PX.then_n (e := .normal) ?_)
  refine ES.condD rfl (fun hlt => ?_) (fun hge => ?_)
  · have hlt' : i < L := by omega
    have hget : (xs.map Sv ++ [Sv [97, 49], Sv [97, 50]])[i]? = some (Sv (xs.getD i [])) := by
      rw [List.getElem?_append_left (by simp; omega)]; exact getElem?_map Sv xs i [] (by omega)
    repeat (first | apply ES.seq | apply ES.skip | apply ES.region | apply EL.nil | apply ES.block | apply ES.nil | apply ES.exit | apply ES.ret | apply PX.hit | (apply PX.miss; exact rfl) | apply PX.then_x | apply PX.then_r | apply PX.block_n | apply PX.block_r | refine PX.then_n (e := .normal) ?_)
    refine EL.move rfl rfl rfl ?_
    refine EL.assign rfl rfl rfl ?_
    repeat (first | apply ES.seq | apply ES.skip | apply ES.region | apply EL.nil | apply ES.block | apply ES.nil | apply ES.exit | apply ES.ret | apply PX.hit | (apply PX.miss; exact rfl) | apply PX.then_x | apply PX.then_r | apply PX.block_n | apply PX.block_r | refine PX.then_n (e := .normal) ?_)
    refine EL.move rfl rfl rfl ?_
    refine EL.move rfl rfl rfl ?_
    refine EL.indexAddrL1 rfl rfl rfl rfl rfl rfl rfl rfl (by omega) ?_
    refine EL.loadR rfl rfl rfl rfl rfl (by repeat (first | exact Mem.here _ _ | apply Mem.there)) hget ?_
    refine EL.neqS rfl rfl rfl rfl ?_
    repeat (first | apply ES.seq | apply ES.skip | apply ES.region | apply EL.nil | apply ES.block | apply ES.nil | apply ES.exit | apply ES.ret | apply PX.hit | (apply PX.miss; exact rfl) | apply PX.then_x | apply PX.then_r | apply PX.block_n | apply PX.block_r | refine PX.then_n (e := .normal) ?_)
    refine ES.condK false rfl (by rw [hmk i hlt']; exact congrArg not (decide_eq_true rfl)) ?_
    repeat (first | apply ES.seq | apply ES.skip | apply ES.region | apply EL.nil | apply ES.block | apply ES.nil | apply ES.exit | apply ES.ret | apply PX.hit | (apply PX.miss; exact rfl) | apply PX.then_x | apply PX.then_r | apply PX.block_n | apply PX.block_r | refine PX.then_n (e := .normal) ?_)
    refine EL.add1 rfl rfl rfl rfl (by omega) ?_
    refine EL.move rfl rfl rfl ?_
    repeat (first | apply ES.seq | apply ES.skip | apply ES.region | apply EL.nil | apply ES.block | apply ES.nil | apply ES.exit | apply ES.ret | apply PX.hit | (apply PX.miss; exact rfl) | apply PX.then_x | apply PX.then_r | apply PX.block_n | apply PX.block_r | refine PX.then_n (e := .normal) ?_)
    exact PX.loop (i + 1) (by omega) (by omega) ⟨rfl, rfl, rfl, rfl, rfl, trivial⟩ (by repeat (first | exact Ent.nil _ | exact Ent.refl _ | (apply Ent.cons; case p => repeat (first | exact Pick.here _ _ | apply Pick.there)) | apply Ent.drop))
  have hb1 : ∀ v v' : Value, ((xs.map Sv) ++ [v, v'])[L + 2 - 2]? = some v := fun v v' => by
    rw [show L + 2 - 2 = (xs.map Sv).length by simp; omega]; simp
  have hb2 : ∀ v v' : Value, ((xs.map Sv) ++ [v, v'])[L + 2 - 1]? = some v' := fun v v' => by
    rw [show L + 2 - 1 = (xs.map Sv).length + 1 by simp; omega, List.getElem?_append_right (by omega)]; simp
  have hb3 : ∀ v : Value, ((ys.map Sv) ++ [v])[K + 1 - 1]? = some v := fun v => by
    rw [show K + 1 - 1 = (ys.map Sv).length by simp; omega]; simp
  have hb4 : ∀ v : Value, (((tailM t n).map Sv) ++ [v])[K + 1 - 1]? = some v := fun v => by
    rw [show K + 1 - 1 = ((tailM t n).map Sv).length by simp; omega]; simp
  repeat (first | apply ES.seq | apply ES.skip | apply ES.region | apply EL.nil | apply ES.block | apply ES.nil | apply ES.exit | apply ES.ret | apply PX.hit | (apply PX.miss; exact rfl) | apply PX.then_x | apply PX.then_r | apply PX.block_n | apply PX.block_r | refine PX.then_n (e := .normal) ?_)
  refine EL.move rfl rfl rfl ?_
  refine EL.move rfl rfl rfl ?_
  refine EL.lenL rfl rfl rfl rfl rfl ?_
  refine EL.subN (n := 2) rfl rfl rfl rfl rfl (by omega) (by omega) ?_
  refine EL.indexAddrL1 rfl rfl rfl rfl rfl rfl rfl rfl (by omega) ?_
  refine EL.loadR rfl rfl rfl rfl rfl (by repeat (first | exact Mem.here _ _ | apply Mem.there)) (hb1 _ _) ?_
  refine EL.eqlS rfl rfl rfl rfl ?_
  refine EL.move rfl rfl rfl ?_
  refine EL.rew (d := 125) (v' := .bool true) rfl (seqT _) ?_
  refine EL.move rfl rfl rfl ?_
  refine EL.move rfl rfl rfl ?_
  refine EL.lenL rfl rfl rfl rfl rfl ?_
  refine EL.sub1 rfl rfl rfl rfl (by omega) (by omega) ?_
  refine EL.indexAddrL1 rfl rfl rfl rfl rfl rfl rfl rfl (by omega) ?_
  refine EL.loadR rfl rfl rfl rfl rfl (by repeat (first | exact Mem.here _ _ | apply Mem.there)) (hb2 _ _) ?_
  refine EL.eqlS rfl rfl rfl rfl ?_
  refine EL.pickT rfl rfl rfl rfl ?_
  refine EL.move rfl rfl rfl ?_
  refine EL.rew (d := 134) (v' := .bool true) rfl (seqT _) ?_
  refine EL.move rfl rfl rfl ?_
  refine EL.move rfl rfl rfl ?_
  refine EL.lenL rfl rfl rfl rfl rfl ?_
  refine EL.sub1 rfl rfl rfl rfl (by omega) (by omega) ?_
  refine EL.indexAddrL1 rfl rfl rfl rfl rfl rfl rfl rfl (by omega) ?_
  refine EL.loadR rfl rfl rfl rfl rfl (by repeat (first | exact Mem.here _ _ | apply Mem.there)) (hb3 _) ?_
  refine EL.eqlS rfl rfl rfl rfl ?_
  refine EL.pickT rfl rfl rfl rfl ?_
  refine EL.move rfl rfl rfl ?_
  refine EL.rew (d := 143) (v' := .bool true) rfl (seqT _) ?_
  refine EL.move rfl rfl rfl ?_
  refine EL.move rfl rfl rfl ?_
  refine EL.lenL rfl rfl rfl rfl rfl ?_
  refine EL.sub1 rfl rfl rfl rfl (by omega) (by omega) ?_
  refine EL.indexAddrL1 rfl rfl rfl rfl rfl rfl rfl rfl (by omega) ?_
  refine EL.loadR rfl rfl rfl rfl rfl (by repeat (first | exact Mem.here _ _ | apply Mem.there)) (hb4 _) ?_
  refine EL.eqlS rfl rfl rfl rfl ?_
  refine EL.pickT rfl rfl rfl rfl ?_
  refine EL.assign rfl rfl rfl ?_
  repeat (first | apply ES.seq | apply ES.skip | apply ES.region | apply EL.nil | apply ES.block | apply ES.nil | apply ES.exit | apply ES.ret | apply PX.hit | (apply PX.miss; exact rfl) | apply PX.then_x | apply PX.then_r | apply PX.block_n | apply PX.block_r | refine PX.then_n (e := .normal) ?_)
  exact PX.ret rfl Try.results8 (.cons (.tmp rfl) .nil) (fun w hs => ⟨(), by simp; rfl, hs.ent (.nil _)⟩)
theorem linesKeeps_lifted (os : Os) (started : os.Started) (H : Type) (enc : TypeId × Value → H) (F : Stop.Interp) :
    ReturnsInHanded {} Try.checked os 8 .any ((Rows.OpenSpec.upto Rows.linesKeepsSpec).pre6 enc Try.prog Try.f8 Rows.linesKeepsUptoRow.domain false) (((Rows.OpenSpec.upto Rows.linesKeepsSpec).at F).post enc Try.prog Try.f8 false true false false) := by
  refine returnsInHanded_of_cond (C := Try.checked) (s := (Rows.OpenSpec.upto Rows.linesKeepsSpec)) (k := Rows.uptoSmall) rfl own started (by kernel_rfl) Try.func8
    (OpenSpec.witness (enc := enc) (C := Try.checked) (s := (Rows.OpenSpec.upto Rows.linesKeepsSpec)) (k := Rows.uptoSmall) rfl false ⟨#[], #[.string ⟨#[]⟩, .slice none 0 0, .int .i64 0], []⟩ 8 (by kernel_rfl) (by kernel_rfl) (by kernel_rfl)
      (x := ([.lit (.string []), .nil, .lit (.int .i64 0)], [], [])) (by kernel_rfl) rfl (by kernel_rfl)) ?_
  intro W base args ds gs before hval0 hW _ hk _
  have hval : ∀ (j : Nat) t v, Try.f8.params[j]? = some t → args[j]? = some v → Value.okWide Try.prog W .any base t v := hval0
  have hW1 : DataW.Whole enc Try.prog Try.f8.params.toList Rows.linesKeepsSpec.vars false W args.toList ds gs before := hW
  have hW' := hW1
  obtain ⟨p, q, hA0, hV, rfl, hfz, hnd⟩ := hW1
  have hA : DataW.TrodAll enc Try.prog W 0 (fun _ => true) true Try.f8.params.toList args.toList ds p := hA0
  rw [Try.params8] at hA hval
  obtain ⟨v0, vs0, d0, ds0, p0, q0, hargs0, rfl, rfl, h0, r0⟩ := trodAll_cons hA
  obtain ⟨v1, vs1, d1, ds1, p1, q1, hargs1, rfl, rfl, h1, r1⟩ := trodAll_cons r0
  obtain ⟨v2, vs2, d2, ds2, p2, q2, hargs2, rfl, rfl, h2, r2⟩ := trodAll_cons r1
  obtain ⟨rfl, rfl, rfl⟩ := trodAll_nil r2
  subst hargs1 hargs2
  obtain rfl : args = #[v0, v1, v2] := by cases args; simp_all
  obtain ⟨rfl, rfl⟩ := trodVars_none hV
  obtain ⟨l0, rfl, rfl⟩ := open_sv Try.underlying9 (hval 0 9 v0 rfl rfl) h0
  obtain ⟨ad1, cap1, xs1, rest1, rfl, hrd1, hd1⟩ := open_svs Try.underlying22 Try.underlying9 (by kernel_rfl) (hval 1 22 v1 rfl rfl) h1
  obtain ⟨n2, rfl, rfl, hnl2, hnh2⟩ := open_iv Try.underlying3 (hval 2 3 v2 rfl rfl) h2
  have hb := of_decide_eq_true hk
  simp only [List.append_nil, Rows.uptoBulkAll, Rows.uptoBulk] at hb
  have hl0 : l0.length ≤ 1048576 := by omega
  have ho1 := svs_bulk xs1 rest1 d1 hd1 (by omega)
  refine (lawKeeps_c l0 ad1 cap1 xs1 n2 (by omega) (by omega) hnl2 hnh2 W hrd1).mono fun e W' ⟨_, he, hs⟩ => ⟨_, he, ?_⟩
  exact law_true (s := Rows.linesKeepsSpec) laidOut rfl Try.underlying4 (by kernel_rfl) rfl false rfl rfl rfl hW' hs.below
theorem linesKeeps_holds : Rows.LinesKeepsUptoSaid :=
  OpenClaim.holds_of_cond 8 Try.f8 rfl rfl rfl rfl rfl rfl rfl ⟨rfl, rfl, rfl, rfl, rfl⟩ rfl rfl rfl rfl rfl (by kernel_rfl) Try.func8 (by kernel_rfl)
    (of_decide_eq_true (by kernel_rfl)) (by unfold Func.isWrapper; first | (rw [if_pos (by decide +kernel)]; kernel_rfl) | (rw [if_neg (by decide +kernel)]; exact ⟨rfl, rfl⟩))
    (fun os started H enc _ F => linesKeeps_lifted os started H enc F)
end Go.Proofs.Ytcaphghkflffgaa
