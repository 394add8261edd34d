/- Layers together: the law WholeClasses. -/
import Derived.Test.YtlianigenfknpaaBi
import Derived.Test.YtlianigenfknpaaSlg
namespace Go.Proofs.Ytlianigenfknpaa
open Go.ChangeShapes Go.WideShapes Go.ChangeAt
open Go Go.RowKit Sl
set_option maxRecDepth 100000
set_option maxHeartbeats 8000000
set_option linter.unusedVariables false
set_option linter.unusedSimpArgs false
attribute [local irreducible] ES EL PX wps
attribute [local irreducible] fillS memGo countS

def n4 : List (List UInt8) := [nCntrl, nAlpha, nDigit, nPunct]
def C4 (i : Nat) : BS := fillS (isB (n4.getD i [])) 256
theorem class4 (i : Nat) (h : i < 4) : classM (n4.getD i []) = (C4 i, 0) := by
  have hk : okM (n4.getD i []) = true := by
    match i, h with
    | 0, _ | 1, _ | 2, _ | 3, _ => decide +kernel
  simp only [classM, hk, if_true, C4]
def sumW : Nat → BS
  | 0 => zeroS
  | i + 1 => orS (sumW i) (C4 i)
def twW : Nat → BS
  | 0 => zeroS
  | i + 1 => orS (twW i) (andS (sumW i) (C4 i))
theorem has_C4 (i k : Nat) (hk : k < 256) : hasS (C4 i) k = isB (n4.getD i []) k := by
  rw [C4, has_fill _ _ hk 256 (Nat.le_refl _)]; simp [hk]
theorem tw_zero : twW 4 = zeroS := bs_ext _ _ fun k hk => by
  simp only [twW, sumW, has_or, has_and, has_zero, has_C4 _ _ hk]
  exact (by decide +kernel : ∀ k : Fin 256, (false || false && isB (n4.getD 0 []) k.val || (false || isB (n4.getD 0 []) k.val) && isB (n4.getD 1 []) k.val || (false || isB (n4.getD 0 []) k.val || isB (n4.getD 1 []) k.val) && isB (n4.getD 2 []) k.val || (false || isB (n4.getD 0 []) k.val || isB (n4.getD 1 []) k.val || isB (n4.getD 2 []) k.val) && isB (n4.getD 3 []) k.val) = false) ⟨k, hk⟩
theorem sum_low : orS (sumW 4) (ofS [32]) = (spanM 0 127).1 := bs_ext _ _ fun k hk => by
  have h2 : (spanM 0 127).1 = fillS (fun b => decide ((0 : UInt8).toNat ≤ b) && decide (b ≤ (127 : UInt8).toNat)) 256 := by simp only [spanM]; rw [if_neg (by decide)]
  rw [h2, has_fill _ _ hk 256 (Nat.le_refl _)]
  simp only [sumW, has_or, has_zero, has_C4 _ _ hk, has_ofS _ _ hk]
  exact (by decide +kernel : ∀ k : Fin 256, (((((false || isB (n4.getD 0 []) k.val) || isB (n4.getD 1 []) k.val) || isB (n4.getD 2 []) k.val) || isB (n4.getD 3 []) k.val) || ([32] : List UInt8).any fun b => b.toNat == k.val) = ((decide ((0 : UInt8).toNat ≤ k.val) && decide (k.val ≤ (127 : UInt8).toNat)) && decide (k.val < 256))) ⟨k, hk⟩
theorem span2 : (spanM 0 127).2 = 0 := by simp only [spanM]; rw [if_neg (by decide)]
theorem of_twice (l : List UInt8) : ofS (l ++ l) = ofS l := bs_ext _ _ fun k hk => by
  rw [has_ofS _ _ hk, has_ofS _ _ hk, List.any_append, Bool.or_self]
theorem and_back (s l : BS) : andS (orS s l) s = s := bs_ext _ _ fun k _ => by rw [has_and, has_or]; cases hasS s k <;> simp
theorem or_full (s : BS) : orS s (notS s) = notS zeroS := bs_ext _ _ fun k _ => by rw [has_or, has_not, has_not, has_zero]; simp
theorem in_both (s : BS) (l : List UInt8) (i : Nat) (h : i < l.length) : hasS (orS s (ofS l)) (l.getD i 0).toNat = true := by
  rw [has_or, has_ofS _ _ (UInt8.toNat_lt _)]
  have : (l.any fun b => b.toNat == (l.getD i 0).toNat) = true := List.any_eq_true.2 ⟨l.getD i 0, by rw [List.getD_eq_getElem?_getD, List.getElem?_eq_getElem h]; exact List.getElem_mem h, by simp⟩
  rw [this]; simp
theorem class_c4 (i : Nat) (h : i < 4) (w : World) : Pure Try.prog 10 #[Sv (n4.getD i [])] (fun _ : Unit => .tuple #[Bs (C4 i), Iv 0]) (fun _ => []) w := by
  have hh := class_c (n4.getD i []) w; rw [class4 i h] at hh; exact hh
theorem span_low (w : World) : Pure Try.prog 8 #[Uv 0, Uv 127] (fun _ : Unit => .tuple #[Bs (spanM 0 127).1, Iv 0]) (fun _ => []) w := by
  have hh := span_c 0 127 w; rw [span2] at hh; exact hh
attribute [local irreducible] sumW twW C4 ofS spanM
theorem whole_c (s : BS) (l : List UInt8) (hl : l.length ≤ 140737488351232) (w : World) : Pure Try.prog 7 #[Bs s, Sv l] (fun _ : Unit => .bool true) (fun _ => []) w := by
  have hs0 : zeroS.cells = (sumW 0).cells := by rw [sumW]
  have ht0 : zeroS.cells = (twW 0).cells := by rw [twW]
  refine calls_of_ES TB Try.func7 rfl _ Try.ntmps7 rfl (Sat.start w) ?_
  repeat (first | apply ES.seq | apply ES.skip | apply ES.region | apply EL.nil | apply ES.block | apply ES.nil | apply ES.exit | apply ES.ret | apply PX.hit | (apply PX.miss; exact rfl) | apply PX.then_x | apply PX.then_r | apply PX.block_n | apply PX.block_r | refine PX.then_n (e := .normal) ?_)
  (refine EL.box rfl rfl rfl ?_; intro g2)
  refine EL.assign rfl rfl rfl ?_
  repeat (first | apply ES.seq | apply ES.skip | apply ES.region | apply EL.nil | apply ES.block | apply ES.nil | apply ES.exit | apply ES.ret | apply PX.hit | (apply PX.miss; exact rfl) | apply PX.then_x | apply PX.then_r | apply PX.block_n | apply PX.block_r | refine PX.then_n (e := .normal) ?_)
  (refine EL.buildSliceS (n4.map Sv) rfl rfl rfl rfl rfl rfl rfl rfl rfl rfl (by intro u hu; obtain ⟨_, _, rfl⟩ := List.mem_map.1 hu; rfl) ?_; intro b16)
  refine EL.assign rfl rfl rfl ?_
  repeat (first | apply ES.seq | apply ES.skip | apply ES.region | apply EL.nil | apply ES.block | apply ES.nil | apply ES.exit | apply ES.ret | apply PX.hit | (apply PX.miss; exact rfl) | apply PX.then_x | apply PX.then_r | apply PX.block_n | apply PX.block_r | refine PX.then_n (e := .normal) ?_)
  (refine EL.alloc rfl rfl rfl ?_; intro g6)
  (refine EL.alloc rfl rfl rfl ?_; intro g7)
  repeat (first | apply ES.seq | apply ES.skip | apply ES.region | apply EL.nil | apply ES.block | apply ES.nil | apply ES.exit | apply ES.ret | apply PX.hit | (apply PX.miss; exact rfl) | apply PX.then_x | apply PX.then_r | apply PX.block_n | apply PX.block_r | refine PX.then_n (e := .normal) ?_)
  refine EL.move rfl rfl rfl ?_
  refine EL.lenL rfl rfl rfl rfl rfl ?_
  refine EL.move rfl rfl rfl ?_
  repeat (first | apply ES.seq | apply ES.skip | apply ES.region | apply EL.nil | apply ES.block | apply ES.nil | apply ES.exit | apply ES.ret | apply PX.hit | (apply PX.miss; exact rfl) | apply PX.then_x | apply PX.then_r | apply PX.block_n | apply PX.block_r | refine PX.then_n (e := .normal) ?_)
  refine ES.blkEq (g := g6) (o' := .cells (sumW 0).cells 24) (by repeat (first | exact PickSet.here _ _ _ | apply PickSet.there)) (by rw [← hs0]; rfl) ?_
  refine ES.blkEq (g := g7) (o' := .cells (twW 0).cells 24) (by repeat (first | exact PickSet.here _ _ _ | apply PickSet.there)) (by rw [← ht0]; rfl) ?_
  refine ES.loop (σ := Nat) (fun i => i ≤ 4) (fun i => [(1, Sv l), (2, Pv g2 0), (6, Pv g6 0), (7, Pv g7 0), (17, .slice (some ⟨b16, 0, none⟩) 4 4), (18, Iv 4), (19, Iv i)]) (fun i => [SB g6 (sumW i), SB g7 (twW i), HA.row (.slice (some ⟨b16, 0, none⟩) 4 4) 9 1 4 (n4.map Sv), SB g2 s]) (fun i => 4 - i) 0 (Nat.zero_le _) ⟨rfl, rfl, rfl, rfl, rfl, rfl, rfl, trivial⟩ (by repeat (first | exact Ent.nil _ | exact Ent.refl _ | (apply Ent.cons; case p => repeat (first | exact Pick.here _ _ | apply Pick.there)) | apply Ent.drop)) ?_
  intro i hi
  repeat (first | apply ES.seq | apply ES.skip | apply ES.region | apply EL.nil | apply ES.block | apply ES.nil | apply ES.exit | apply ES.ret | apply PX.hit | (apply PX.miss; exact rfl) | apply PX.then_x | apply PX.then_r | apply PX.block_n | apply PX.block_r | refine PX.then_n (e := .normal) ?_)
  refine EL.lss rfl rfl rfl rfl ?_
  repeat (first | apply ES.seq | apply ES.skip | apply ES.region | apply EL.nil | apply ES.block | apply ES.nil | apply ES.exit | apply ES.ret | apply PX.hit | (apply PX.miss; exact rfl) | apply PX.then_x | apply PX.then_r | apply PX.block_n | apply PX.block_r | refine PX.then_n (e := .normal) ?_)
  refine ES.condD rfl (fun hlt => ?_) (fun hge => ?_)
  · have hlt' : i < 4 := by omega
    have hs1 : orS (sumW i) (C4 i) = sumW (i + 1) := by rw [sumW]
    have ht1 : orS (twW i) (andS (sumW i) (C4 i)) = twW (i + 1) := by rw [twW]
    repeat (first | apply ES.seq | apply ES.skip | apply ES.region | apply EL.nil | apply ES.block | apply ES.nil | apply ES.exit | apply ES.ret | apply PX.hit | (apply PX.miss; exact rfl) | apply PX.then_x | apply PX.then_r | apply PX.block_n | apply PX.block_r | refine PX.then_n (e := .normal) ?_)
    refine EL.indexAddrL1 rfl rfl rfl rfl rfl rfl rfl rfl hlt' ?_
    refine EL.loadRm Sv [] (l := n4) rfl rfl rfl rfl rfl (by repeat (first | exact Mem.here _ _ | apply Mem.there)) hlt' ?_
    refine EL.assign rfl rfl rfl ?_
    repeat (first | apply ES.seq | apply ES.skip | apply ES.region | apply EL.nil | apply ES.block | apply ES.nil | apply ES.exit | apply ES.ret | apply PX.hit | (apply PX.miss; exact rfl) | apply PX.then_x | apply PX.then_r | apply PX.block_n | apply PX.block_r | refine PX.then_n (e := .normal) ?_)
    refine EL.move rfl rfl rfl ?_
    refine EL.callP rfl rfl rfl ent10 rfl (class_c4 i hlt') ?_
    refine EL.move rfl rfl rfl ?_
    refine EL.extract rfl rfl rfl rfl ?_
    refine EL.extract rfl rfl rfl rfl ?_
    (refine EL.alloc rfl rfl rfl ?_; intro g10)
    (apply EL.storeAll; exact rfl; exact rfl; exact rfl; exact rfl; exact rfl; (case p => (repeat (first | exact PickSet.here _ _ _ | apply PickSet.there))); exact rfl; (case h1 => exact (by first | rfl | (intro u hu; simp only [List.mem_cons, List.not_mem_nil, or_false] at hu; rcases hu with rfl | rfl | rfl | rfl <;> rfl) | (intro u hu; simp at hu; rcases hu with rfl | rfl | rfl | rfl <;> rfl) | (intro u hu; simp at hu; rcases hu with rfl | rfl | rfl <;> rfl) | (intro u hu; simp at hu; rcases hu with rfl | rfl <;> rfl) | (intro u hu; simp at hu; obtain ⟨_, _, rfl⟩ := hu; rfl))))
    refine EL.assign rfl rfl rfl ?_
    repeat (first | apply ES.seq | apply ES.skip | apply ES.region | apply EL.nil | apply ES.block | apply ES.nil | apply ES.exit | apply ES.ret | apply PX.hit | (apply PX.miss; exact rfl) | apply PX.then_x | apply PX.then_r | apply PX.block_n | apply PX.block_r | refine PX.then_n (e := .normal) ?_)
    refine EL.move rfl rfl rfl ?_
    refine EL.neqI rfl rfl rfl rfl ?_
    repeat (first | apply ES.seq | apply ES.skip | apply ES.region | apply EL.nil | apply ES.block | apply ES.nil | apply ES.exit | apply ES.ret | apply PX.hit | (apply PX.miss; exact rfl) | apply PX.then_x | apply PX.then_r | apply PX.block_n | apply PX.block_r | refine PX.then_n (e := .normal) ?_)
    refine ES.condK false rfl rfl ?_
    repeat (first | apply ES.seq | apply ES.skip | apply EL.nil | apply ES.block | apply ES.nil | apply ES.exit | apply ES.ret | apply PX.hit | (apply PX.miss; exact rfl) | apply PX.then_x | apply PX.then_r | apply PX.block_n | apply PX.block_r | refine PX.then_n (e := .normal) ?_)
    refine ES.draw (X := Unit) (fun _ => [(1, Sv l), (2, Pv g2 0), (6, Pv g6 0), (7, Pv g7 0), (10, Pv g10 0), (17, .slice (some ⟨b16, 0, none⟩) 4 4), (18, Iv 4), (19, Iv i)]) (fun _ => [SB g6 (sumW i), SB g7 (twW (i + 1)), SB g10 (C4 i), HA.row (.slice (some ⟨b16, 0, none⟩) 4 4) 9 1 4 (n4.map Sv), SB g2 s]) [SB g6 (sumW i), SB g7 (twW i), SB g10 (C4 i)] mixed (by repeat (first | exact Ent.nil _ | exact Ent.refl _ | (apply Ent.cons; case p => repeat (first | exact Pick.here _ _ | apply Pick.there)) | apply Ent.drop)) ?_ (fun _ => ?_)
    · rw [← ht1]
      refine ED.take 0 rfl (by decide +kernel) CutX.no_panic (by decide +kernel) rfl rfl rfl (RV.loadAggB rfl rfl rfl (by repeat (first | exact Mem.here _ _ | apply Mem.there)) rfl) ?_
      refine ED.take 1 rfl (by decide +kernel) CutX.no_panic (by decide +kernel) rfl rfl rfl (RV.loadAggB rfl rfl rfl (by repeat (first | exact Mem.here _ _ | apply Mem.there)) rfl) ?_
      refine ED.take 2 rfl (by decide +kernel) CutX.no_panic (by decide +kernel) rfl rfl rfl (RV.loadAggB rfl rfl rfl (by repeat (first | exact Mem.here _ _ | apply Mem.there)) rfl) ?_
      refine ED.loud 3 rfl (by decide +kernel) ?_
      refine EL.callP rfl rfl rfl ent16 rfl (and_c (sumW i) (C4 i)) ?_
      refine ED.next (by repeat (first | exact Ent.nil _ | exact Ent.refl _ | (apply Ent.cons; case p => repeat (first | exact Pick.here _ _ | apply Pick.there)) | apply Ent.drop)) ?_
      refine ED.loud 4 rfl (by decide +kernel) ?_
      refine EL.callP rfl rfl rfl ent18 rfl (or_c (twW i) (andS (sumW i) (C4 i))) ?_
      refine ED.next (by repeat (first | exact Ent.nil _ | exact Ent.refl _ | (apply Ent.cons; case p => repeat (first | exact Pick.here _ _ | apply Pick.there)) | apply Ent.drop)) ?_
      refine ED.last 5 rfl (by decide +kernel) (by decide +kernel) (by decide +kernel) ?_
      (apply EL.storeAll; exact rfl; exact rfl; exact rfl; exact rfl; exact rfl; (case p => (repeat (first | exact PickSet.here _ _ _ | apply PickSet.there))); exact rfl; (case h1 => exact (by first | rfl | (intro u hu; simp only [List.mem_cons, List.not_mem_nil, or_false] at hu; rcases hu with rfl | rfl | rfl | rfl <;> rfl) | (intro u hu; simp at hu; rcases hu with rfl | rfl | rfl | rfl <;> rfl) | (intro u hu; simp at hu; rcases hu with rfl | rfl | rfl <;> rfl) | (intro u hu; simp at hu; rcases hu with rfl | rfl <;> rfl) | (intro u hu; simp at hu; obtain ⟨_, _, rfl⟩ := hu; rfl))))
      refine EL.endQ ?_
      exact PX.cutX () ⟨rfl, rfl, rfl, rfl, rfl, rfl, rfl, rfl, trivial⟩ (by repeat (first | exact Ent.nil _ | exact Ent.refl _ | (apply Ent.cons; case p => repeat (first | exact Pick.here _ _ | apply Pick.there)) | apply Ent.drop))
    repeat (first | apply ES.seq | apply ES.skip | apply ES.region | apply EL.nil | apply ES.block | apply ES.nil | apply ES.exit | apply ES.ret | apply PX.hit | (apply PX.miss; exact rfl) | apply PX.then_x | apply PX.then_r | apply PX.block_n | apply PX.block_r | refine PX.then_n (e := .normal) ?_)
    (apply EL.loadAggB; exact rfl; exact rfl; exact rfl; exact rfl; exact rfl; (case hm => (repeat (first | exact Mem.here _ _ | apply Mem.there))); exact rfl)
    (apply EL.loadAggB; exact rfl; exact rfl; exact rfl; exact rfl; exact rfl; (case hm => (repeat (first | exact Mem.here _ _ | apply Mem.there))); exact rfl)
    refine EL.callP rfl rfl rfl ent18 rfl (or_c (sumW i) (C4 i)) ?_
    (apply EL.storeAll; exact rfl; exact rfl; exact rfl; exact rfl; exact rfl; (case p => (repeat (first | exact PickSet.here _ _ _ | apply PickSet.there))); exact rfl; (case h1 => exact (by first | rfl | (intro u hu; simp only [List.mem_cons, List.not_mem_nil, or_false] at hu; rcases hu with rfl | rfl | rfl | rfl <;> rfl) | (intro u hu; simp at hu; rcases hu with rfl | rfl | rfl | rfl <;> rfl) | (intro u hu; simp at hu; rcases hu with rfl | rfl | rfl <;> rfl) | (intro u hu; simp at hu; rcases hu with rfl | rfl <;> rfl) | (intro u hu; simp at hu; obtain ⟨_, _, rfl⟩ := hu; rfl))))
    repeat (first | apply ES.seq | apply ES.skip | apply ES.region | apply EL.nil | apply ES.block | apply ES.nil | apply ES.exit | apply ES.ret | apply PX.hit | (apply PX.miss; exact rfl) | apply PX.then_x | apply PX.then_r | apply PX.block_n | apply PX.block_r | refine PX.then_n (e := .normal) ?_)
    refine EL.add1 rfl rfl rfl rfl (by omega) ?_
    refine EL.move rfl rfl rfl ?_
    repeat (first | apply ES.seq | apply ES.skip | apply ES.region | apply EL.nil | apply ES.block | apply ES.nil | apply ES.exit | apply ES.ret | apply PX.hit | (apply PX.miss; exact rfl) | apply PX.then_x | apply PX.then_r | apply PX.block_n | apply PX.block_r | refine PX.then_n (e := .normal) ?_)
    refine PX.loop (i + 1) (by omega) (by omega) ⟨rfl, rfl, rfl, rfl, rfl, rfl, rfl, trivial⟩ ?_
    rw [← hs1]
    exact (by repeat (first | exact Ent.nil _ | exact Ent.refl _ | (apply Ent.cons; case p => repeat (first | exact Pick.here _ _ | apply Pick.there)) | apply Ent.drop))
  obtain rfl : i = 4 := by omega
  rw [tw_zero]
  repeat (first | apply ES.seq | apply ES.skip | apply EL.nil | apply ES.block | apply ES.nil | apply ES.exit | apply ES.ret | apply PX.hit | (apply PX.miss; exact rfl) | apply PX.then_x | apply PX.then_r | apply PX.block_n | apply PX.block_r | refine PX.then_n (e := .normal) ?_)
  refine ES.draw (X := Unit) (fun _ => [(1, Sv l), (2, Pv g2 0), (6, Pv g6 0), (7, Pv g7 0)]) (fun _ => [SB g6 (spanM 0 127).1, SB g7 zeroS, SB g2 s]) [SB g6 (sumW 4)] mixed (by repeat (first | exact Ent.nil _ | exact Ent.refl _ | (apply Ent.cons; case p => repeat (first | exact Pick.here _ _ | apply Pick.there)) | apply Ent.drop)) ?_ (fun _ => ?_)
  · rw [← sum_low]
    refine ED.take 0 rfl (by decide +kernel) CutX.no_panic (by decide +kernel) rfl rfl rfl (RV.loadAggB rfl rfl rfl (by repeat (first | exact Mem.here _ _ | apply Mem.there)) rfl) ?_
    refine ED.loud 1 rfl (by decide +kernel) ?_
    refine EL.callP rfl rfl rfl ent13 rfl (of_c [32] (by decide)) ?_
    refine ED.next (by repeat (first | exact Ent.nil _ | exact Ent.refl _ | (apply Ent.cons; case p => repeat (first | exact Pick.here _ _ | apply Pick.there)) | apply Ent.drop)) ?_
    refine ED.loud 2 rfl (by decide +kernel) ?_
    refine EL.callP rfl rfl rfl ent18 rfl (or_c (sumW 4) (ofS [32])) ?_
    refine ED.next (by repeat (first | exact Ent.nil _ | exact Ent.refl _ | (apply Ent.cons; case p => repeat (first | exact Pick.here _ _ | apply Pick.there)) | apply Ent.drop)) ?_
    refine ED.last 3 rfl (by decide +kernel) (by decide +kernel) (by decide +kernel) ?_
    (apply EL.storeAll; exact rfl; exact rfl; exact rfl; exact rfl; exact rfl; (case p => (repeat (first | exact PickSet.here _ _ _ | apply PickSet.there))); exact rfl; (case h1 => exact (by first | rfl | (intro u hu; simp only [List.mem_cons, List.not_mem_nil, or_false] at hu; rcases hu with rfl | rfl | rfl | rfl <;> rfl) | (intro u hu; simp at hu; rcases hu with rfl | rfl | rfl | rfl <;> rfl) | (intro u hu; simp at hu; rcases hu with rfl | rfl | rfl <;> rfl) | (intro u hu; simp at hu; rcases hu with rfl | rfl <;> rfl) | (intro u hu; simp at hu; obtain ⟨_, _, rfl⟩ := hu; rfl))))
    refine EL.endQ ?_
    exact PX.cutX () ⟨rfl, rfl, rfl, rfl, trivial⟩ (by repeat (first | exact Ent.nil _ | exact Ent.refl _ | (apply Ent.cons; case p => repeat (first | exact Pick.here _ _ | apply Pick.there)) | apply Ent.drop))
  repeat (first | apply ES.seq | apply ES.skip | apply ES.region | apply EL.nil | apply ES.block | apply ES.nil | apply ES.exit | apply ES.ret | apply PX.hit | (apply PX.miss; exact rfl) | apply PX.then_x | apply PX.then_r | apply PX.block_n | apply PX.block_r | refine PX.then_n (e := .normal) ?_)
  refine EL.callP rfl rfl rfl ent8 rfl span_low ?_
  refine EL.move rfl rfl rfl ?_
  refine EL.extract rfl rfl rfl rfl ?_
  refine EL.extract rfl rfl rfl rfl ?_
  (refine EL.alloc rfl rfl rfl ?_; intro g12)
  (apply EL.storeAll; exact rfl; exact rfl; exact rfl; exact rfl; exact rfl; (case p => (repeat (first | exact PickSet.here _ _ _ | apply PickSet.there))); exact rfl; (case h1 => exact (by first | rfl | (intro u hu; simp only [List.mem_cons, List.not_mem_nil, or_false] at hu; rcases hu with rfl | rfl | rfl | rfl <;> rfl) | (intro u hu; simp at hu; rcases hu with rfl | rfl | rfl | rfl <;> rfl) | (intro u hu; simp at hu; rcases hu with rfl | rfl | rfl <;> rfl) | (intro u hu; simp at hu; rcases hu with rfl | rfl <;> rfl) | (intro u hu; simp at hu; obtain ⟨_, _, rfl⟩ := hu; rfl))))
  refine EL.assign rfl rfl rfl ?_
  repeat (first | apply ES.seq | apply ES.skip | apply ES.region | apply EL.nil | apply ES.block | apply ES.nil | apply ES.exit | apply ES.ret | apply PX.hit | (apply PX.miss; exact rfl) | apply PX.then_x | apply PX.then_r | apply PX.block_n | apply PX.block_r | refine PX.then_n (e := .normal) ?_)
  refine EL.move rfl rfl rfl ?_
  refine EL.neqI rfl rfl rfl rfl ?_
  refine EL.move rfl rfl rfl ?_
  refine EL.rew (d := 48) (v' := .bool false) rfl (by first | rfl | (decide) | (simp)) ?_
  (apply EL.loadAggB; exact rfl; exact rfl; exact rfl; exact rfl; exact rfl; (case hm => (repeat (first | exact Mem.here _ _ | apply Mem.there))); exact rfl)
  refine EL.buildZA rfl rfl rfl rfl rfl ?_
  refine EL.neqBS (v0 := 0) (v1 := 0) (v2 := 0) (v3 := 0) rfl rfl rfl rfl eqg24 rfl rfl rfl rfl rfl ?_
  refine EL.pickF rfl rfl rfl rfl ?_
  refine EL.move rfl rfl rfl ?_
  refine EL.rew (d := 53) (v' := .bool false) rfl (bneE rfl) ?_
  (apply EL.loadAggB; exact rfl; exact rfl; exact rfl; exact rfl; exact rfl; (case hm => (repeat (first | exact Mem.here _ _ | apply Mem.there))); exact rfl)
  (apply EL.loadAggB; exact rfl; exact rfl; exact rfl; exact rfl; exact rfl; (case hm => (repeat (first | exact Mem.here _ _ | apply Mem.there))); exact rfl)
  refine EL.neqBS rfl rfl rfl rfl eqg24 rfl rfl rfl rfl rfl ?_
  refine EL.pickF rfl rfl rfl rfl ?_
  repeat (first | apply ES.seq | apply ES.skip | apply ES.region | apply EL.nil | apply ES.block | apply ES.nil | apply ES.exit | apply ES.ret | apply PX.hit | (apply PX.miss; exact rfl) | apply PX.then_x | apply PX.then_r | apply PX.block_n | apply PX.block_r | refine PX.then_n (e := .normal) ?_)
  refine ES.condK false rfl (by rw [decide_eq_true rfl]; rfl) ?_
  repeat (first | apply ES.seq | apply ES.skip | apply EL.nil | apply ES.block | apply ES.nil | apply ES.exit | apply ES.ret | apply PX.hit | (apply PX.miss; exact rfl) | apply PX.then_x | apply PX.then_r | apply PX.block_n | apply PX.block_r | refine PX.then_n (e := .normal) ?_)
  refine ES.draw (X := Nat) (fun x => [(1, Sv l), (2, Pv g2 0), (14, Pv x 0)]) (fun x => [SB x (orS s (ofS l)), SB g2 s]) [SB g2 s] mixed (by repeat (first | exact Ent.nil _ | exact Ent.refl _ | (apply Ent.cons; case p => repeat (first | exact Pick.here _ _ | apply Pick.there)) | apply Ent.drop)) ?_ (fun g14 => ?_)
  · refine ED.take 0 rfl (by decide +kernel) CutX.no_panic (by decide +kernel) rfl rfl rfl (RV.loadAggB rfl rfl rfl (by repeat (first | exact Mem.here _ _ | apply Mem.there)) rfl) ?_
    refine ED.take 1 rfl (by decide +kernel) CutX.no_panic (by decide +kernel) rfl rfl rfl (RV.move rfl) ?_
    refine ED.fork 2 [4] (by decide +kernel) ⟨⟨_, rfl, ?_⟩, ⟨_, rfl, ?_⟩, trivial⟩
    · refine EL.callP rfl rfl rfl ent13 rfl (of_c l (by omega)) ?_
      refine ED.next (by repeat (first | exact Ent.nil _ | exact Ent.refl _ | (apply Ent.cons; case p => repeat (first | exact Pick.here _ _ | apply Pick.there)) | apply Ent.drop)) ?_
      refine ED.fork 3 [4] (by decide +kernel) ⟨⟨_, rfl, ?_⟩, ⟨_, rfl, ?_⟩, trivial⟩
      · refine EL.callP rfl rfl rfl ent18 rfl (or_c s (ofS l)) ?_
        refine ED.next (by repeat (first | exact Ent.nil _ | exact Ent.refl _ | (apply Ent.cons; case p => repeat (first | exact Pick.here _ _ | apply Pick.there)) | apply Ent.drop)) ?_
        refine ED.loud 4 rfl (by decide +kernel) ?_
        (refine EL.alloc rfl rfl rfl ?_; intro g14)
        refine ED.next (by repeat (first | exact Ent.nil _ | exact Ent.refl _ | (apply Ent.cons; case p => repeat (first | exact Pick.here _ _ | apply Pick.there)) | apply Ent.drop)) ?_
        refine ED.last 5 rfl (by decide +kernel) (by decide +kernel) (by decide +kernel) ?_
        (apply EL.storeAll; exact rfl; exact rfl; exact rfl; exact rfl; exact rfl; (case p => (repeat (first | exact PickSet.here _ _ _ | apply PickSet.there))); exact rfl; (case h1 => exact (by first | rfl | (intro u hu; simp only [List.mem_cons, List.not_mem_nil, or_false] at hu; rcases hu with rfl | rfl | rfl | rfl <;> rfl) | (intro u hu; simp at hu; rcases hu with rfl | rfl | rfl | rfl <;> rfl) | (intro u hu; simp at hu; rcases hu with rfl | rfl | rfl <;> rfl) | (intro u hu; simp at hu; rcases hu with rfl | rfl <;> rfl) | (intro u hu; simp at hu; obtain ⟨_, _, rfl⟩ := hu; rfl))))
        refine EL.endQ ?_
        exact PX.cutX g14 ⟨rfl, rfl, rfl, trivial⟩ (by repeat (first | exact Ent.nil _ | exact Ent.refl _ | (apply Ent.cons; case p => repeat (first | exact Pick.here _ _ | apply Pick.there)) | apply Ent.drop))
      · (refine EL.alloc rfl rfl rfl ?_; intro g14)
        refine ED.next (by repeat (first | exact Ent.nil _ | exact Ent.refl _ | (apply Ent.cons; case p => repeat (first | exact Pick.here _ _ | apply Pick.there)) | apply Ent.drop)) ?_
        refine ED.loud 3 rfl (by decide +kernel) ?_
        refine EL.callP rfl rfl rfl ent18 rfl (or_c s (ofS l)) ?_
        refine ED.next (by repeat (first | exact Ent.nil _ | exact Ent.refl _ | (apply Ent.cons; case p => repeat (first | exact Pick.here _ _ | apply Pick.there)) | apply Ent.drop)) ?_
        refine ED.last 5 rfl (by decide +kernel) (by decide +kernel) (by decide +kernel) ?_
        (apply EL.storeAll; exact rfl; exact rfl; exact rfl; exact rfl; exact rfl; (case p => (repeat (first | exact PickSet.here _ _ _ | apply PickSet.there))); exact rfl; (case h1 => exact (by first | rfl | (intro u hu; simp only [List.mem_cons, List.not_mem_nil, or_false] at hu; rcases hu with rfl | rfl | rfl | rfl <;> rfl) | (intro u hu; simp at hu; rcases hu with rfl | rfl | rfl | rfl <;> rfl) | (intro u hu; simp at hu; rcases hu with rfl | rfl | rfl <;> rfl) | (intro u hu; simp at hu; rcases hu with rfl | rfl <;> rfl) | (intro u hu; simp at hu; obtain ⟨_, _, rfl⟩ := hu; rfl))))
        refine EL.endQ ?_
        exact PX.cutX g14 ⟨rfl, rfl, rfl, trivial⟩ (by repeat (first | exact Ent.nil _ | exact Ent.refl _ | (apply Ent.cons; case p => repeat (first | exact Pick.here _ _ | apply Pick.there)) | apply Ent.drop))
    · (refine EL.alloc rfl rfl rfl ?_; intro g14)
      refine ED.next (by repeat (first | exact Ent.nil _ | exact Ent.refl _ | (apply Ent.cons; case p => repeat (first | exact Pick.here _ _ | apply Pick.there)) | apply Ent.drop)) ?_
      refine ED.loud 2 rfl (by decide +kernel) ?_
      refine EL.callP rfl rfl rfl ent13 rfl (of_c l (by omega)) ?_
      refine ED.next (by repeat (first | exact Ent.nil _ | exact Ent.refl _ | (apply Ent.cons; case p => repeat (first | exact Pick.here _ _ | apply Pick.there)) | apply Ent.drop)) ?_
      refine ED.loud 3 rfl (by decide +kernel) ?_
      refine EL.callP rfl rfl rfl ent18 rfl (or_c s (ofS l)) ?_
      refine ED.next (by repeat (first | exact Ent.nil _ | exact Ent.refl _ | (apply Ent.cons; case p => repeat (first | exact Pick.here _ _ | apply Pick.there)) | apply Ent.drop)) ?_
      refine ED.last 5 rfl (by decide +kernel) (by decide +kernel) (by decide +kernel) ?_
      (apply EL.storeAll; exact rfl; exact rfl; exact rfl; exact rfl; exact rfl; (case p => (repeat (first | exact PickSet.here _ _ _ | apply PickSet.there))); exact rfl; (case h1 => exact (by first | rfl | (intro u hu; simp only [List.mem_cons, List.not_mem_nil, or_false] at hu; rcases hu with rfl | rfl | rfl | rfl <;> rfl) | (intro u hu; simp at hu; rcases hu with rfl | rfl | rfl | rfl <;> rfl) | (intro u hu; simp at hu; rcases hu with rfl | rfl | rfl <;> rfl) | (intro u hu; simp at hu; rcases hu with rfl | rfl <;> rfl) | (intro u hu; simp at hu; obtain ⟨_, _, rfl⟩ := hu; rfl))))
      refine EL.endQ ?_
      exact PX.cutX g14 ⟨rfl, rfl, rfl, trivial⟩ (by repeat (first | exact Ent.nil _ | exact Ent.refl _ | (apply Ent.cons; case p => repeat (first | exact Pick.here _ _ | apply Pick.there)) | apply Ent.drop))
  repeat (first | apply ES.seq | apply ES.skip | apply ES.region | apply EL.nil | apply ES.block | apply ES.nil | apply ES.exit | apply ES.ret | apply PX.hit | (apply PX.miss; exact rfl) | apply PX.then_x | apply PX.then_r | apply PX.block_n | apply PX.block_r | refine PX.then_n (e := .normal) ?_)
  refine EL.assign rfl rfl rfl ?_
  repeat (first | apply ES.seq | apply ES.skip | apply ES.region | apply EL.nil | apply ES.block | apply ES.nil | apply ES.exit | apply ES.ret | apply PX.hit | (apply PX.miss; exact rfl) | apply PX.then_x | apply PX.then_r | apply PX.block_n | apply PX.block_r | refine PX.then_n (e := .normal) ?_)
  refine ES.loop (σ := Nat) (fun i => i ≤ l.length) (fun i => [(1, Sv l), (2, Pv g2 0), (14, Pv g14 0), (15, Iv i)]) (fun i => [SB g14 (orS s (ofS l)), SB g2 s]) (fun i => l.length - i) 0 (Nat.zero_le _) ⟨rfl, rfl, rfl, rfl, trivial⟩ (by repeat (first | exact Ent.nil _ | exact Ent.refl _ | (apply Ent.cons; case p => repeat (first | exact Pick.here _ _ | apply Pick.there)) | apply Ent.drop)) ?_
  intro i hi
  repeat (first | apply ES.seq | apply ES.skip | apply ES.region | apply EL.nil | apply ES.block | apply ES.nil | apply ES.exit | apply ES.ret | apply PX.hit | (apply PX.miss; exact rfl) | apply PX.then_x | apply PX.then_r | apply PX.block_n | apply PX.block_r | refine PX.then_n (e := .normal) ?_)
  refine EL.move rfl rfl rfl ?_
  refine EL.move rfl rfl rfl ?_
  refine EL.lenS rfl rfl rfl rfl rfl ?_
  refine EL.lss rfl rfl rfl rfl ?_
  repeat (first | apply ES.seq | apply ES.skip | apply ES.region | apply EL.nil | apply ES.block | apply ES.nil | apply ES.exit | apply ES.ret | apply PX.hit | (apply PX.miss; exact rfl) | apply PX.then_x | apply PX.then_r | apply PX.block_n | apply PX.block_r | refine PX.then_n (e := .normal) ?_)
  refine ES.condD rfl (fun hlt => ?_) (fun hge => ?_)
  · have hlt' : i < l.length := by omega
    have hin := in_both s l i hlt'
    repeat (first | apply ES.seq | apply ES.skip | apply EL.nil | apply ES.block | apply ES.nil | apply ES.exit | apply ES.ret | apply PX.hit | (apply PX.miss; exact rfl) | apply PX.then_x | apply PX.then_r | apply PX.block_n | apply PX.block_r | refine PX.then_n (e := .normal) ?_)
    refine ES.draw (X := Unit) (fun _ => [(73, .bool false), (1, Sv l), (2, Pv g2 0), (14, Pv g14 0), (15, Iv i)]) (fun i => [SB g14 (orS s (ofS l)), SB g2 s]) [SB g14 (orS s (ofS l))] mixed (by repeat (first | exact Ent.nil _ | exact Ent.refl _ | (apply Ent.cons; case p => repeat (first | exact Pick.here _ _ | apply Pick.there)) | apply Ent.drop)) ?_ (fun _ => ?_)
    · refine ED.take 0 rfl (by decide +kernel) CutX.no_panic (by decide +kernel) rfl rfl rfl (RV.loadAggB rfl rfl rfl (by repeat (first | exact Mem.here _ _ | apply Mem.there)) rfl) ?_
      refine ED.take 1 rfl (by decide +kernel) CutX.no_panic (by decide +kernel) rfl rfl rfl (RV.move rfl) ?_
      refine ED.take 2 rfl (by decide +kernel) CutX.no_panic (by decide +kernel) rfl rfl rfl (RV.move rfl) ?_
      refine ED.take 3 rfl (by decide +kernel) CutX.no_panic (by decide +kernel) rfl rfl rfl (RV.indexSN rfl rfl rfl rfl (by omega)) ?_
      refine ED.loud 4 rfl (by decide +kernel) ?_
      refine EL.callP rfl rfl rfl ent22 rfl (has_c' (orS s (ofS l)) (l.getD i 0) true hin) ?_
      refine ED.next (by repeat (first | exact Ent.nil _ | exact Ent.refl _ | (apply Ent.cons; case p => repeat (first | exact Pick.here _ _ | apply Pick.there)) | apply Ent.drop)) ?_
      refine ED.take 5 rfl (by decide +kernel) CutX.no_panic (by decide +kernel) rfl rfl rfl (RV.not rfl) ?_
      refine ED.done (by decide +kernel) ?_
      exact PX.cutX () ⟨rfl, rfl, rfl, rfl, rfl, trivial⟩ (by repeat (first | exact Ent.nil _ | exact Ent.refl _ | (apply Ent.cons; case p => repeat (first | exact Pick.here _ _ | apply Pick.there)) | apply Ent.drop))
    refine ES.condF rfl ?_
    repeat (first | apply ES.seq | apply ES.skip | apply ES.region | apply EL.nil | apply ES.block | apply ES.nil | apply ES.exit | apply ES.ret | apply PX.hit | (apply PX.miss; exact rfl) | apply PX.then_x | apply PX.then_r | apply PX.block_n | apply PX.block_r | refine PX.then_n (e := .normal) ?_)
    refine EL.move rfl rfl rfl ?_
    refine EL.add1 rfl rfl rfl rfl (by omega) ?_
    refine EL.assign rfl rfl rfl ?_
    repeat (first | apply ES.seq | apply ES.skip | apply ES.region | apply EL.nil | apply ES.block | apply ES.nil | apply ES.exit | apply ES.ret | apply PX.hit | (apply PX.miss; exact rfl) | apply PX.then_x | apply PX.then_r | apply PX.block_n | apply PX.block_r | refine PX.then_n (e := .normal) ?_)
    exact PX.loop (i + 1) (by omega) (by omega) ⟨rfl, rfl, rfl, rfl, trivial⟩ (by repeat (first | exact Ent.nil _ | exact Ent.refl _ | (apply Ent.cons; case p => repeat (first | exact Pick.here _ _ | apply Pick.there)) | apply Ent.drop))
  repeat (first | apply ES.seq | apply ES.skip | apply EL.nil | apply ES.block | apply ES.nil | apply ES.exit | apply ES.ret | apply PX.hit | (apply PX.miss; exact rfl) | apply PX.then_x | apply PX.then_r | apply PX.block_n | apply PX.block_r | refine PX.then_n (e := .normal) ?_)
  refine ES.draw (X := Unit) (fun _ => [(4, .bool true)]) (fun i => []) [SB g14 (orS s (ofS l)), SB g2 s] mixed (by repeat (first | exact Ent.nil _ | exact Ent.refl _ | (apply Ent.cons; case p => repeat (first | exact Pick.here _ _ | apply Pick.there)) | apply Ent.drop)) ?_ (fun _ => ?_)
  · refine ED.take 0 rfl (by decide +kernel) CutX.no_panic (by decide +kernel) rfl rfl rfl (RV.move rfl) ?_
    refine ED.take 1 rfl (by decide +kernel) CutX.no_panic (by decide +kernel) rfl rfl rfl (RV.move rfl) ?_
    refine ED.take 2 rfl (by decide +kernel) CutX.no_panic (by decide +kernel) rfl rfl rfl (RV.cat rfl rfl (by omega)) ?_
    refine ED.take 4 rfl (by decide +kernel) CutX.no_panic (by decide +kernel) rfl rfl rfl (RV.move rfl) ?_
    refine ED.loud 3 rfl (by decide +kernel) ?_
    refine EL.callP rfl rfl rfl ent13 rfl (of_c (l ++ l) (by simp; omega)) ?_
    refine ED.next (by repeat (first | exact Ent.nil _ | exact Ent.refl _ | (apply Ent.cons; case p => repeat (first | exact Pick.here _ _ | apply Pick.there)) | apply Ent.drop)) ?_
    refine ED.loud 5 rfl (by decide +kernel) ?_
    refine EL.callP rfl rfl rfl ent13 rfl (of_c l (by omega)) ?_
    refine ED.next (by repeat (first | exact Ent.nil _ | exact Ent.refl _ | (apply Ent.cons; case p => repeat (first | exact Pick.here _ _ | apply Pick.there)) | apply Ent.drop)) ?_
    refine ED.take 6 rfl (by decide +kernel) CutX.no_panic (by decide +kernel) rfl rfl rfl (RV.eqlBS rfl rfl eqg24 rfl rfl rfl rfl rfl) ?_
    refine ED.take 7 rfl (by decide +kernel) CutX.no_panic (by decide +kernel) rfl rfl rfl (RV.move rfl) ?_
    refine ED.rew (d := 81) (v' := .bool true) rfl (beqE (of_twice l)) ?_
    refine ED.take 8 rfl (by decide +kernel) CutX.no_panic (by decide +kernel) rfl rfl rfl (RV.loadAggB rfl rfl rfl (by repeat (first | exact Mem.here _ _ | apply Mem.there)) rfl) ?_
    refine ED.take 9 rfl (by decide +kernel) CutX.no_panic (by decide +kernel) rfl rfl rfl (RV.loadAggB rfl rfl rfl (by repeat (first | exact Mem.here _ _ | apply Mem.there)) rfl) ?_
    refine ED.take 11 rfl (by decide +kernel) CutX.no_panic (by decide +kernel) rfl rfl rfl (RV.loadAggB rfl rfl rfl (by repeat (first | exact Mem.here _ _ | apply Mem.there)) rfl) ?_
    refine ED.loud 10 rfl (by decide +kernel) ?_
    refine EL.callP rfl rfl rfl ent16 rfl (and_c (orS s (ofS l)) s) ?_
    refine ED.next (by repeat (first | exact Ent.nil _ | exact Ent.refl _ | (apply Ent.cons; case p => repeat (first | exact Pick.here _ _ | apply Pick.there)) | apply Ent.drop)) ?_
    refine ED.take 12 rfl (by decide +kernel) CutX.no_panic (by decide +kernel) rfl rfl rfl (RV.eqlBS rfl rfl eqg24 rfl rfl rfl rfl rfl) ?_
    refine ED.take 13 rfl (by decide +kernel) CutX.no_panic (by decide +kernel) rfl rfl rfl (RV.pickT rfl rfl) ?_
    refine ED.take 14 rfl (by decide +kernel) CutX.no_panic (by decide +kernel) rfl rfl rfl (RV.move rfl) ?_
    refine ED.rew (d := 88) (v' := .bool true) rfl (beqE (and_back s (ofS l))) ?_
    refine ED.take 15 rfl (by decide +kernel) CutX.no_panic (by decide +kernel) rfl rfl rfl (RV.loadAggB rfl rfl rfl (by repeat (first | exact Mem.here _ _ | apply Mem.there)) rfl) ?_
    refine ED.take 16 rfl (by decide +kernel) CutX.no_panic (by decide +kernel) rfl rfl rfl (RV.loadAggB rfl rfl rfl (by repeat (first | exact Mem.here _ _ | apply Mem.there)) rfl) ?_
    refine ED.fork 17 [19] (by decide +kernel) ⟨⟨_, rfl, ?_⟩, ⟨_, rfl, ?_⟩, trivial⟩
    · refine EL.callP rfl rfl rfl ent17 rfl (not_c (orS s (ofS l))) ?_
      refine ED.next (by repeat (first | exact Ent.nil _ | exact Ent.refl _ | (apply Ent.cons; case p => repeat (first | exact Pick.here _ _ | apply Pick.there)) | apply Ent.drop)) ?_
      refine ED.fork 18 [19] (by decide +kernel) ⟨⟨_, rfl, ?_⟩, ⟨_, rfl, ?_⟩, trivial⟩
      · refine EL.callP rfl rfl rfl ent18 rfl (or_c (orS s (ofS l)) (notS (orS s (ofS l)))) ?_
        refine ED.next (by repeat (first | exact Ent.nil _ | exact Ent.refl _ | (apply Ent.cons; case p => repeat (first | exact Pick.here _ _ | apply Pick.there)) | apply Ent.drop)) ?_
        refine ED.loud 19 rfl (by decide +kernel) ?_
        refine EL.buildZA rfl rfl rfl rfl rfl ?_
        refine ED.next (by repeat (first | exact Ent.nil _ | exact Ent.refl _ | (apply Ent.cons; case p => repeat (first | exact Pick.here _ _ | apply Pick.there)) | apply Ent.drop)) ?_
        refine ED.loud 20 rfl (by decide +kernel) ?_
        refine EL.callP rfl rfl rfl ent17 rfl (not_c zeroS) ?_
        refine ED.next (by repeat (first | exact Ent.nil _ | exact Ent.refl _ | (apply Ent.cons; case p => repeat (first | exact Pick.here _ _ | apply Pick.there)) | apply Ent.drop)) ?_
        refine ED.take 21 rfl (by decide +kernel) CutX.no_panic (by decide +kernel) rfl rfl rfl (RV.eqlBS rfl rfl eqg24 rfl rfl rfl rfl rfl) ?_
        refine ED.take 22 rfl (by decide +kernel) CutX.no_panic (by decide +kernel) rfl rfl rfl (RV.pickT rfl rfl) ?_
        refine ED.take 23 rfl (by decide +kernel) CutX.no_panic (by decide +kernel) rfl rfl rfl (RV.assign rfl) ?_
        refine ED.done (by decide +kernel) ?_
        exact PX.cutX () ⟨getA rfl (beqE (or_full _)), trivial⟩ (by repeat (first | exact Ent.nil _ | exact Ent.refl _ | (apply Ent.cons; case p => repeat (first | exact Pick.here _ _ | apply Pick.there)) | apply Ent.drop))
      · refine EL.buildZA rfl rfl rfl rfl rfl ?_
        refine ED.next (by repeat (first | exact Ent.nil _ | exact Ent.refl _ | (apply Ent.cons; case p => repeat (first | exact Pick.here _ _ | apply Pick.there)) | apply Ent.drop)) ?_
        refine ED.loud 18 rfl (by decide +kernel) ?_
        refine EL.callP rfl rfl rfl ent18 rfl (or_c (orS s (ofS l)) (notS (orS s (ofS l)))) ?_
        refine ED.next (by repeat (first | exact Ent.nil _ | exact Ent.refl _ | (apply Ent.cons; case p => repeat (first | exact Pick.here _ _ | apply Pick.there)) | apply Ent.drop)) ?_
        refine ED.loud 20 rfl (by decide +kernel) ?_
        refine EL.callP rfl rfl rfl ent17 rfl (not_c zeroS) ?_
        refine ED.next (by repeat (first | exact Ent.nil _ | exact Ent.refl _ | (apply Ent.cons; case p => repeat (first | exact Pick.here _ _ | apply Pick.there)) | apply Ent.drop)) ?_
        refine ED.take 21 rfl (by decide +kernel) CutX.no_panic (by decide +kernel) rfl rfl rfl (RV.eqlBS rfl rfl eqg24 rfl rfl rfl rfl rfl) ?_
        refine ED.take 22 rfl (by decide +kernel) CutX.no_panic (by decide +kernel) rfl rfl rfl (RV.pickT rfl rfl) ?_
        refine ED.take 23 rfl (by decide +kernel) CutX.no_panic (by decide +kernel) rfl rfl rfl (RV.assign rfl) ?_
        refine ED.done (by decide +kernel) ?_
        exact PX.cutX () ⟨getA rfl (beqE (or_full _)), trivial⟩ (by repeat (first | exact Ent.nil _ | exact Ent.refl _ | (apply Ent.cons; case p => repeat (first | exact Pick.here _ _ | apply Pick.there)) | apply Ent.drop))
    · refine EL.buildZA rfl rfl rfl rfl rfl ?_
      refine ED.next (by repeat (first | exact Ent.nil _ | exact Ent.refl _ | (apply Ent.cons; case p => repeat (first | exact Pick.here _ _ | apply Pick.there)) | apply Ent.drop)) ?_
      refine ED.loud 17 rfl (by decide +kernel) ?_
      refine EL.callP rfl rfl rfl ent17 rfl (not_c (orS s (ofS l))) ?_
      refine ED.next (by repeat (first | exact Ent.nil _ | exact Ent.refl _ | (apply Ent.cons; case p => repeat (first | exact Pick.here _ _ | apply Pick.there)) | apply Ent.drop)) ?_
      refine ED.loud 18 rfl (by decide +kernel) ?_
      refine EL.callP rfl rfl rfl ent18 rfl (or_c (orS s (ofS l)) (notS (orS s (ofS l)))) ?_
      refine ED.next (by repeat (first | exact Ent.nil _ | exact Ent.refl _ | (apply Ent.cons; case p => repeat (first | exact Pick.here _ _ | apply Pick.there)) | apply Ent.drop)) ?_
      refine ED.loud 20 rfl (by decide +kernel) ?_
      refine EL.callP rfl rfl rfl ent17 rfl (not_c zeroS) ?_
      refine ED.next (by repeat (first | exact Ent.nil _ | exact Ent.refl _ | (apply Ent.cons; case p => repeat (first | exact Pick.here _ _ | apply Pick.there)) | apply Ent.drop)) ?_
      refine ED.take 21 rfl (by decide +kernel) CutX.no_panic (by decide +kernel) rfl rfl rfl (RV.eqlBS rfl rfl eqg24 rfl rfl rfl rfl rfl) ?_
      refine ED.take 22 rfl (by decide +kernel) CutX.no_panic (by decide +kernel) rfl rfl rfl (RV.pickT rfl rfl) ?_
      refine ED.take 23 rfl (by decide +kernel) CutX.no_panic (by decide +kernel) rfl rfl rfl (RV.assign rfl) ?_
      refine ED.done (by decide +kernel) ?_
      exact PX.cutX () ⟨getA rfl (beqE (or_full _)), trivial⟩ (by repeat (first | exact Ent.nil _ | exact Ent.refl _ | (apply Ent.cons; case p => repeat (first | exact Pick.here _ _ | apply Pick.there)) | apply Ent.drop))
  repeat (first | apply ES.seq | apply ES.skip | apply ES.region | apply EL.nil | apply ES.block | apply ES.nil | apply ES.exit | apply ES.ret | apply PX.hit | (apply PX.miss; exact rfl) | apply PX.then_x | apply PX.then_r | apply PX.block_n | apply PX.block_r | refine PX.then_n (e := .normal) ?_)
  exact PX.ret rfl Try.results7 (.cons (.tmp rfl) .nil) (fun w hs => ⟨(), rfl, hs.ent (.nil _)⟩)
theorem wholeClasses_lifted (os : Os) (started : os.Started) (H : Type) (enc : TypeId × Value → H) :
    ReturnsInHanded {} Try.checked os 7 .any (Rows.wholeClassesSpec.pre6 enc Try.prog Try.f7 Rows.wholeClassesRow.domain false) (Rows.wholeClassesSpec.post enc Try.prog Try.f7 false true false false) := by
  refine returnsInHanded_of_change_shaped (C := Try.checked) own started (by kernel_rfl) Try.func7
    (ChangeSpec.witness6 (enc := enc) (C := Try.checked) false ⟨#[], #[.agg #[.int .u64 0, .int .u64 0, .int .u64 0, .int .u64 0], .string ⟨#[]⟩], []⟩ 8 (by kernel_rfl) (by kernel_rfl) (by kernel_rfl) (by kernel_rfl)) ?_
  intro W base args ds gs before hval0 hW _ hsz _ _
  have hk : (DataW.weightsEach Try.prog (Try.f7.params.toList ++ []) (ds ++ gs)).all (· ≤ reachBytes) = true := hsz
  have hval : ∀ (j : Nat) t v, Try.f7.params[j]? = some t → args[j]? = some v → Value.okWide Try.prog W .any base t v := hval0
  have hW1 : DataW.Whole enc Try.prog Try.f7.params.toList Rows.wholeClassesSpec.vars false W args.toList ds gs before := hW
  have hW' := hW1
  obtain ⟨p, q, hA0, hV, rfl, hfz, hnd⟩ := hW1
  have hA : DataW.TrodAll enc Try.prog W 0 (fun _ => true) true Try.f7.params.toList args.toList ds p := hA0
  rw [Try.params7] at hA hval hk
  obtain ⟨v0, vs0, d0, ds0, p0, q0, hargs0, rfl, rfl, h0, r0⟩ := trodAll_cons hA
  obtain ⟨v1, vs1, d1, ds1, p1, q1, hargs1, rfl, rfl, h1, r1⟩ := trodAll_cons r0
  obtain ⟨rfl, rfl, rfl⟩ := trodAll_nil r1
  subst hargs1
  obtain rfl : args = #[v0, v1] := by cases args; simp_all
  obtain ⟨rfl, rfl⟩ := trodVars_none hV
  obtain ⟨s0, rfl⟩ := open_bs Try.underlying24 Try.underlying22 (by kernel_rfl) (by kernel_rfl) (hval 0 24 v0 rfl rfl) h0
  obtain ⟨l1, rfl, rfl⟩ := open_sv Try.underlying9 (hval 1 9 v1 rfl rfl) h1
  simp only [List.append_nil, DataW.weightsEach, w_str, w_int, reachBytes, List.nil_append, List.append_nil, List.all_append, List.all_cons, List.all_nil, Bool.and_true, Bool.and_eq_true, decide_eq_true_eq] at hk
  have hl1 : l1.length ≤ 140737488351232 := by first | omega | exact of_decide_eq_true hk | exact of_decide_eq_true hk.1 | exact of_decide_eq_true hk.2 | exact of_decide_eq_true hk.2.1 | exact of_decide_eq_true hk.2.2 | exact of_decide_eq_true hk.2.2.1 | exact of_decide_eq_true hk.2.2.2
  refine (whole_c s0 l1 hl1 W).mono fun e W' ⟨_, he, hs⟩ => ⟨_, he, ?_⟩
  exact law_true (s := Rows.wholeClassesSpec) laidOut rfl Try.underlying4 (by kernel_rfl) rfl false rfl rfl rfl hW' hs.below
theorem wholeClasses_holds : Rows.WholeClassesSaid :=
  OpenClaim.holds_of_wide 7 Try.f7 rfl rfl rfl rfl rfl rfl rfl ⟨rfl, rfl, rfl, rfl, rfl⟩ rfl rfl rfl rfl rfl (by kernel_rfl) Try.func7 (by kernel_rfl)
    (of_decide_eq_true (by kernel_rfl)) (by unfold Func.isWrapper; first | (rw [if_pos (by decide +kernel)]; kernel_rfl) | (rw [if_neg (by decide +kernel)]; exact ⟨rfl, rfl⟩))
    (fun os started H enc _ => wholeClasses_lifted os started H enc)
end Go.Proofs.Ytlianigenfknpaa
