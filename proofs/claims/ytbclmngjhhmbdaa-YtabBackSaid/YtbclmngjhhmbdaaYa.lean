/- Layer 15 (ytab): the contracts of the program's and the reference's functions. -/
import Derived.Test.YtbclmngjhhmbdaaTy
namespace Go.Proofs.Ytbclmngjhhmbdaa
open Go Go.RowKit Sl
set_option maxRecDepth 100000
set_option maxHeartbeats 8000000
set_option linter.unusedVariables false
set_option linter.unusedSimpArgs false
attribute [local irreducible] ES EL PX wps

/-! ### plain -/
def alnumB (c : UInt8) : Bool := (48 ≤ c.toNat && c.toNat ≤ 57) || (97 ≤ c.toNat && c.toNat ≤ 122) || (65 ≤ c.toNat && c.toNat ≤ 90)
/-- Piece: what is left, the place, what has come. -/
def pc : Nat → List UInt8 → Nat → List UInt8 → List UInt8 × Int × Nat
  | 0, _, _, _ => ([], 0, 0)
  | _ + 1, [], _, out => (out, 0, 0)
  | k + 1, b :: r, i, out =>
    if b = 92 then match r with
      | [] => ([], 6, i)
      | c :: r' => if c = 110 then pc k r' (i + 2) (out ++ [10]) else if alnumB c then ([], 12, i) else pc k r' (i + 2) (out ++ [c])
    else pc k r (i + 1) (out ++ [b])
def pieceM (l : List UInt8) : List UInt8 × Int × Nat := pc (l.length + 1) l 0 []
theorem alnum_or (c : UInt8) : (97 ≤ (c ||| 32).toNat ∧ (c ||| 32).toNat ≤ 122) ↔ ((97 ≤ c.toNat ∧ c.toNat ≤ 122) ∨ (65 ≤ c.toNat ∧ c.toNat ≤ 90)) := by
  have key : ∀ n : Fin 256, (97 ≤ (n.val ||| 32) ∧ (n.val ||| 32) ≤ 122) ↔ ((97 ≤ n.val ∧ n.val ≤ 122) ∨ (65 ≤ n.val ∧ n.val ≤ 90)) := by decide +kernel
  have := key ⟨c.toNat, c.toNat_lt⟩
  simpa [UInt8.toNat_or] using this
theorem pc_plain (j : Nat) (b : UInt8) (r : List UInt8) (i : Nat) (out : List UInt8) (h : b ≠ 92) : pc (j + 1) (b :: r) i out = pc j r (i + 1) (out ++ [b]) := by simp only [pc, h, if_false]
theorem pc_end (j : Nat) (i : Nat) (out : List UInt8) : pc (j + 1) [92] i out = ([], 6, i) := by simp [pc]
theorem pc_n (j : Nat) (r : List UInt8) (i : Nat) (out : List UInt8) : pc (j + 1) (92 :: 110 :: r) i out = pc j r (i + 2) (out ++ [10]) := by simp [pc]
theorem pc_bad (j : Nat) (c : UInt8) (r : List UInt8) (i : Nat) (out : List UInt8) (h : c ≠ 110) (ha : alnumB c = true) : pc (j + 1) (92 :: c :: r) i out = ([], 12, i) := by simp [pc, h, ha]
theorem pc_ok (j : Nat) (c : UInt8) (r : List UInt8) (i : Nat) (out : List UInt8) (h : c ≠ 110) (ha : alnumB c = false) : pc (j + 1) (92 :: c :: r) i out = pc j r (i + 2) (out ++ [c]) := by simp [pc, h, ha]
theorem apply_c (t l : List UInt8) (ht : t.length = 256) (hl : l.length ≤ 140737488351232) (w : World) :
    Pure Try.prog 15 #[.agg (t.map Uv).toArray, Sv l] (fun _ : Unit => Sv (l.map fun b => t.getD b.toNat 0)) (fun _ => []) w := by
  refine calls_of_ES TB Try.func15 rfl _ Try.ntmps15 rfl (Sat.start w) ?_
  repeat (first | apply ES.seq | apply ES.skip | apply ES.region | apply EL.nil | apply ES.block | apply ES.nil | apply ES.exit | apply ES.ret | apply PX.hit | (apply PX.miss; exact rfl) | apply PX.then_x | apply PX.then_r | apply PX.block_n | apply PX.block_r | refine PX.then_n (e := .normal) ?_)
  (refine EL.box rfl rfl rfl ?_; intro g2)
  refine EL.assign rfl rfl rfl ?_
  repeat (first | apply ES.seq | apply ES.skip | apply ES.region | apply EL.nil | apply ES.block | apply ES.nil | apply ES.exit | apply ES.ret | apply PX.hit | (apply PX.miss; exact rfl) | apply PX.then_x | apply PX.then_r | apply PX.block_n | apply PX.block_r | refine PX.then_n (e := .normal) ?_)
  refine EL.move rfl rfl rfl ?_
  refine EL.lenS rfl rfl rfl rfl rfl ?_
  refine EL.makeSlice rfl rfl rfl rfl rfl rfl (by first | omega | (show 1 * _ ≤ _; omega) | (show 8 * _ ≤ _; omega) | (show 16 * _ ≤ _; omega) | (show 24 * _ ≤ _; omega) | (show _ * 1 ≤ _; omega) | (show _ * 8 ≤ _; omega) | (show _ * 16 ≤ _; omega) | (show _ * 24 ≤ _; omega)) (by unfold maxLen; omega) ?_
  intro g5
  refine EL.assign rfl rfl rfl ?_
  repeat (first | apply ES.seq | apply ES.skip | apply ES.region | apply EL.nil | apply ES.block | apply ES.nil | apply ES.exit | apply ES.ret | apply PX.hit | (apply PX.miss; exact rfl) | apply PX.then_x | apply PX.then_r | apply PX.block_n | apply PX.block_r | refine PX.then_n (e := .normal) ?_)
  refine EL.move rfl rfl rfl ?_
  refine EL.lenL rfl rfl rfl rfl rfl ?_
  refine EL.move rfl rfl rfl ?_
  repeat (first | apply ES.seq | apply ES.skip | apply ES.region | apply EL.nil | apply ES.block | apply ES.nil | apply ES.exit | apply ES.ret | apply PX.hit | (apply PX.miss; exact rfl) | apply PX.then_x | apply PX.then_r | apply PX.block_n | apply PX.block_r | refine PX.then_n (e := .normal) ?_)
  refine ES.rowEq (by repeat (first | exact PickSet.here _ _ _ | apply PickSet.there)) (cs' := (l.take 0).map (fun b => Uv (t.getD b.toNat 0)) ++ List.replicate (l.length - 0) (Uv 0)) (made1 _ _) ?_
  refine ES.loop (σ := Nat) (fun k => k ≤ l.length) (fun k => [(0, .agg (t.map Uv).toArray), (1, Sv l), (2, Pv g2 0), (5, .slice (some ⟨g5, 0, none⟩) l.length l.length), (11, Iv l.length), (12, Iv k)])
    (fun k => [HA.row (.slice (some ⟨g5, 0, none⟩) l.length l.length) 5 1 l.length ((l.take k).map (fun b => Uv (t.getD b.toNat 0)) ++ List.replicate (l.length - k) (Uv 0)), HA.blk g2 (.cells (t.map Uv).toArray 31 (0, 0))])
    (fun k => l.length - k) 0 (Nat.zero_le _) ⟨rfl, rfl, rfl, rfl, rfl, rfl, trivial⟩ (by repeat (first | exact Ent.nil _ | exact Ent.refl _ | (apply Ent.cons; case p => repeat (first | exact Pick.here _ _ | apply Pick.there)))) ?_
  intro k hk
  repeat (first | apply ES.seq | apply ES.skip | apply ES.region | apply EL.nil | apply ES.block | apply ES.nil | apply ES.exit | apply ES.ret | apply PX.hit | (apply PX.miss; exact rfl) | apply PX.then_x | apply PX.then_r | apply PX.block_n | apply PX.block_r | refine PX.then_n (e := .normal) ?_)
  refine EL.lss rfl rfl rfl rfl ?_
  repeat (first | apply ES.seq | apply ES.skip | apply ES.region | apply EL.nil | apply ES.block | apply ES.nil | apply ES.exit | apply ES.ret | apply PX.hit | (apply PX.miss; exact rfl) | apply PX.then_x | apply PX.then_r | apply PX.block_n | apply PX.block_r | refine PX.then_n (e := .normal) ?_)
  refine ES.condD rfl (fun hlt => ?_) (fun hge => ?_)
  · have hlt' : k < l.length := by omega
    repeat (first | apply ES.seq | apply ES.skip | apply ES.region | apply EL.nil | apply ES.block | apply ES.nil | apply ES.exit | apply ES.ret | apply PX.hit | (apply PX.miss; exact rfl) | apply PX.then_x | apply PX.then_r | apply PX.block_n | apply PX.block_r | refine PX.then_n (e := .normal) ?_)
    refine EL.move rfl rfl rfl ?_
    refine EL.assign rfl rfl rfl ?_
    repeat (first | apply ES.seq | apply ES.skip | apply ES.region | apply EL.nil | apply ES.block | apply ES.nil | apply ES.exit | apply ES.ret | apply PX.hit | (apply PX.miss; exact rfl) | apply PX.then_x | apply PX.then_r | apply PX.block_n | apply PX.block_r | refine PX.then_n (e := .normal) ?_)
    refine EL.move rfl rfl rfl ?_
    refine EL.move rfl rfl rfl ?_
    refine EL.move rfl rfl rfl ?_
    refine EL.move rfl rfl rfl ?_
    refine EL.indexSN rfl rfl rfl rfl rfl rfl (by omega) ?_
    refine EL.indexAddrA1 rfl rfl rfl rfl rfl rfl rfl rfl (UInt8.toNat_lt _) ?_
    refine EL.loadB rfl rfl rfl rfl rfl (by repeat (first | exact Mem.here _ _ | apply Mem.there)) (v := Uv (t.getD (l.getD k 0).toNat 0)) ?_ ?_
    · have := (l.getD k 0).toNat_lt
      have := getElem?_map Uv t (l.getD k 0).toNat 0 (by omega)
      simpa using this
    refine EL.indexAddrL1 rfl rfl rfl rfl rfl rfl rfl rfl (by omega) ?_
    refine EL.storeR rfl rfl rfl rfl rfl rfl (by repeat (first | exact PickSet.here _ _ _ | apply PickSet.there)) (by simp; omega) ?_
    repeat (first | apply ES.seq | apply ES.skip | apply ES.region | apply EL.nil | apply ES.block | apply ES.nil | apply ES.exit | apply ES.ret | apply PX.hit | (apply PX.miss; exact rfl) | apply PX.then_x | apply PX.then_r | apply PX.block_n | apply PX.block_r | refine PX.then_n (e := .normal) ?_)
    refine EL.add1 rfl rfl rfl rfl (by omega) ?_
    refine EL.move rfl rfl rfl ?_
    repeat (first | apply ES.seq | apply ES.skip | apply ES.region | apply EL.nil | apply ES.block | apply ES.nil | apply ES.exit | apply ES.ret | apply PX.hit | (apply PX.miss; exact rfl) | apply PX.then_x | apply PX.then_r | apply PX.block_n | apply PX.block_r | refine PX.then_n (e := .normal) ?_)
    refine PX.loop (k + 1) (by omega) (by omega) ⟨rfl, rfl, rfl, rfl, rfl, rfl, trivial⟩ ?_
    have := fill_step (fun b => Uv (t.getD b.toNat 0)) (Uv 0) l k hlt'
    rw [show l.getD k 0 = l[k] by simp [List.getD_eq_getElem?_getD, List.getElem?_eq_getElem hlt'], this]
    exact (by repeat (first | exact Ent.nil _ | exact Ent.refl _ | (apply Ent.cons; case p => repeat (first | exact Pick.here _ _ | apply Pick.there))))
  · have hkl : k = l.length := by omega
    subst hkl
    repeat (first | apply ES.seq | apply ES.skip | apply ES.region | apply EL.nil | apply ES.block | apply ES.nil | apply ES.exit | apply ES.ret | apply PX.hit | (apply PX.miss; exact rfl) | apply PX.then_x | apply PX.then_r | apply PX.block_n | apply PX.block_r | refine PX.then_n (e := .normal) ?_)
    refine EL.rowEq (by repeat (first | exact PickSet.here _ _ _ | apply PickSet.there)) (cs' := (l.map fun b => t.getD b.toNat 0).map Uv) (by simp [Function.comp_def]) ?_
    repeat (first | apply ES.seq | apply ES.skip | apply ES.region | apply EL.nil | apply ES.block | apply ES.nil | apply ES.exit | apply ES.ret | apply PX.hit | (apply PX.miss; exact rfl) | apply PX.then_x | apply PX.then_r | apply PX.block_n | apply PX.block_r | refine PX.then_n (e := .normal) ?_)
    refine EL.move rfl rfl rfl ?_
    refine EL.bytesS rfl rfl rfl rfl rfl rfl rfl rfl rfl (by repeat (first | exact Mem.here _ _ | apply Mem.there)) ?_
    refine EL.assign rfl rfl rfl ?_
    repeat (first | apply ES.seq | apply ES.skip | apply ES.region | apply EL.nil | apply ES.block | apply ES.nil | apply ES.exit | apply ES.ret | apply PX.hit | (apply PX.miss; exact rfl) | apply PX.then_x | apply PX.then_r | apply PX.block_n | apply PX.block_r | refine PX.then_n (e := .normal) ?_)
    refine PX.ret rfl Try.results15 (.cons (.tmp rfl) .nil) (fun w hs => ⟨(), rfl, hs.ent (.nil _)⟩)

theorem docpiece_c (l : List UInt8) (hl : l.length ≤ 140737488351232) (w : World) :
    Pure Try.prog 11 #[Sv l] (fun _ : Unit => .tuple #[Sv (pieceM l).1, Iv (pieceM l).2.1, Iv (pieceM l).2.2]) (fun _ => []) w := by
  refine calls_of_ES TB Try.func11 rfl _ Try.ntmps11 rfl (Sat.start w) ?_
  repeat (first | apply ES.seq | apply ES.skip | apply ES.region | apply EL.nil | apply ES.block | apply ES.nil | apply ES.exit | apply ES.ret | apply PX.hit | (apply PX.miss; exact rfl) | apply PX.then_x | apply PX.then_r | apply PX.block_n | apply PX.block_r | refine PX.then_n (e := .normal) ?_)
  refine EL.assign rfl rfl rfl ?_
  refine EL.assign rfl rfl rfl ?_
  refine EL.assign rfl rfl rfl ?_
  repeat (first | apply ES.seq | apply ES.skip | apply ES.region | apply EL.nil | apply ES.block | apply ES.nil | apply ES.exit | apply ES.ret | apply PX.hit | (apply PX.miss; exact rfl) | apply PX.then_x | apply PX.then_r | apply PX.block_n | apply PX.block_r | refine PX.then_n (e := .normal) ?_)
  refine EL.assign rfl rfl rfl ?_
  repeat (first | apply ES.seq | apply ES.skip | apply ES.region | apply EL.nil | apply ES.block | apply ES.nil | apply ES.exit | apply ES.ret | apply PX.hit | (apply PX.miss; exact rfl) | apply PX.then_x | apply PX.then_r | apply PX.block_n | apply PX.block_r | refine PX.then_n (e := .normal) ?_)
  refine EL.assign rfl rfl rfl ?_
  repeat (first | apply ES.seq | apply ES.skip | apply ES.region | apply EL.nil | apply ES.block | apply ES.nil | apply ES.exit | apply ES.ret | apply PX.hit | (apply PX.miss; exact rfl) | apply PX.then_x | apply PX.then_r | apply PX.block_n | apply PX.block_r | refine PX.then_n (e := .normal) ?_)
  refine ES.nilRow 5 1 ?_
  refine ES.loop (σ := Nat × List UInt8 × List Value × Nat × Nat × Option Addr) (fun (k, out, cs, n, c, ad) => k ≤ l.length ∧ n ≤ k ∧ cs = out.map Uv ∧ n = out.length ∧ ∃ j, l.length - k < j ∧ pc j (l.drop k) k out = pieceM l)
    (fun (k, out, cs, n, c, ad) => [(0, Sv l), (2, Sv []), (3, Iv 0), (4, Iv 0), (5, .slice ad n c), (6, Iv k)])
    (fun (k, out, cs, n, c, ad) => [HA.row (.slice ad n c) 5 1 n cs])
    (fun (k, out, cs, n, c, ad) => l.length - k) (0, [], [], 0, 0, none) ⟨Nat.zero_le _, Nat.le_refl _, rfl, rfl, _, by omega, rfl⟩ ⟨rfl, rfl, rfl, rfl, rfl, rfl, trivial⟩ (by repeat (first | exact Ent.nil _ | exact Ent.refl _ | (apply Ent.cons; case p => repeat (first | exact Pick.here _ _ | apply Pick.there)))) ?_
  rintro ⟨k, out, cs, n, c, ad⟩ ⟨hk, hnk, hcs, hn, j, hj, hpc⟩
  dsimp only at hk hnk hcs hn hj hpc ⊢
  repeat (first | apply ES.seq | apply ES.skip | apply ES.region | apply EL.nil | apply ES.block | apply ES.nil | apply ES.exit | apply ES.ret | apply PX.hit | (apply PX.miss; exact rfl) | apply PX.then_x | apply PX.then_r | apply PX.block_n | apply PX.block_r | refine PX.then_n (e := .normal) ?_)
  refine EL.move rfl rfl rfl ?_
  refine EL.move rfl rfl rfl ?_
  refine EL.lenS rfl rfl rfl rfl rfl ?_
  refine EL.lss rfl rfl rfl rfl ?_
  repeat (first | apply ES.seq | apply ES.skip | apply ES.region | apply EL.nil | apply ES.block | apply ES.nil | apply ES.exit | apply ES.ret | apply PX.hit | (apply PX.miss; exact rfl) | apply PX.then_x | apply PX.then_r | apply PX.block_n | apply PX.block_r | refine PX.then_n (e := .normal) ?_)
  obtain ⟨j, rfl⟩ : ∃ i, j = i + 1 := ⟨j - 1, by omega⟩
  refine ES.condD rfl (fun hlt => ?_) (fun hge => ?_)
  · have hlt' : k < l.length := by omega
    rw [drop_getD l k 0 hlt'] at hpc
    repeat (first | apply ES.seq | apply ES.skip | apply ES.region | apply EL.nil | apply ES.block | apply ES.nil | apply ES.exit | apply ES.ret | apply PX.hit | (apply PX.miss; exact rfl) | apply PX.then_x | apply PX.then_r | apply PX.block_n | apply PX.block_r | refine PX.then_n (e := .normal) ?_)
    refine EL.move rfl rfl rfl ?_
    refine EL.move rfl rfl rfl ?_
    refine EL.indexSN rfl rfl rfl rfl rfl rfl (by omega) ?_
    refine EL.assign rfl rfl rfl ?_
    repeat (first | apply ES.seq | apply ES.skip | apply ES.region | apply EL.nil | apply ES.block | apply ES.nil | apply ES.exit | apply ES.ret | apply PX.hit | (apply PX.miss; exact rfl) | apply PX.then_x | apply PX.then_r | apply PX.block_n | apply PX.block_r | refine PX.then_n (e := .normal) ?_)
    refine EL.move rfl rfl rfl ?_
    refine EL.eqlI rfl rfl rfl rfl ?_
    repeat (first | apply ES.seq | apply ES.skip | apply ES.region | apply EL.nil | apply ES.block | apply ES.nil | apply ES.exit | apply ES.ret | apply PX.hit | (apply PX.miss; exact rfl) | apply PX.then_x | apply PX.then_r | apply PX.block_n | apply PX.block_r | refine PX.then_n (e := .normal) ?_)
    refine ES.condD rfl (fun hb => ?_) (fun hb => ?_)
    · rw [u8_of _ 92 hb] at hpc
      repeat (first | apply ES.seq | apply ES.skip | apply ES.region | apply EL.nil | apply ES.block | apply ES.nil | apply ES.exit | apply ES.ret | apply PX.hit | (apply PX.miss; exact rfl) | apply PX.then_x | apply PX.then_r | apply PX.block_n | apply PX.block_r | refine PX.then_n (e := .normal) ?_)
      refine EL.move rfl rfl rfl ?_
      refine EL.add1 rfl rfl rfl rfl (by omega) ?_
      refine EL.move rfl rfl rfl ?_
      refine EL.lenS rfl rfl rfl rfl rfl ?_
      refine EL.eqlI rfl rfl rfl rfl ?_
      repeat (first | apply ES.seq | apply ES.skip | apply ES.region | apply EL.nil | apply ES.block | apply ES.nil | apply ES.exit | apply ES.ret | apply PX.hit | (apply PX.miss; exact rfl) | apply PX.then_x | apply PX.then_r | apply PX.block_n | apply PX.block_r | refine PX.then_n (e := .normal) ?_)
      refine ES.condD rfl (fun he => ?_) (fun he => ?_)
      · repeat (first | apply ES.seq | apply ES.skip | apply ES.region | apply EL.nil | apply ES.block | apply ES.nil | apply ES.exit | apply ES.ret | apply PX.hit | (apply PX.miss; exact rfl) | apply PX.then_x | apply PX.then_r | apply PX.block_n | apply PX.block_r | refine PX.then_n (e := .normal) ?_)
        refine EL.move rfl rfl rfl ?_
        refine EL.assign rfl rfl rfl ?_
        refine EL.assign rfl rfl rfl ?_
        refine EL.assign rfl rfl rfl ?_
        repeat (first | apply ES.seq | apply ES.skip | apply ES.region | apply EL.nil | apply ES.block | apply ES.nil | apply ES.exit | apply ES.ret | apply PX.hit | (apply PX.miss; exact rfl) | apply PX.then_x | apply PX.then_r | apply PX.block_n | apply PX.block_r | refine PX.then_n (e := .normal) ?_)
        rw [show l.drop (k + 1) = [] by simp; omega, pc_end] at hpc
        exact PX.ret rfl Try.results11 (.cons (.tmp rfl) (.cons (.tmp rfl) (.cons (.tmp rfl) .nil))) (fun w hs => ⟨(), by rw [← hpc]; rfl, hs.ent (.nil _)⟩)
      · have hlt2 : k + 1 < l.length := by omega
        rw [drop_getD l (k + 1) 0 hlt2] at hpc
        repeat (first | apply ES.seq | apply ES.skip | apply ES.region | apply EL.nil | apply ES.block | apply ES.nil | apply ES.exit | apply ES.ret | apply PX.hit | (apply PX.miss; exact rfl) | apply PX.then_x | apply PX.then_r | apply PX.block_n | apply PX.block_r | refine PX.then_n (e := .normal) ?_)
        refine EL.move rfl rfl rfl ?_
        refine EL.add1 rfl rfl rfl rfl (by omega) ?_
        refine EL.assign rfl rfl rfl ?_
        repeat (first | apply ES.seq | apply ES.skip | apply ES.region | apply EL.nil | apply ES.block | apply ES.nil | apply ES.exit | apply ES.ret | apply PX.hit | (apply PX.miss; exact rfl) | apply PX.then_x | apply PX.then_r | apply PX.block_n | apply PX.block_r | refine PX.then_n (e := .normal) ?_)
        refine EL.move rfl rfl rfl ?_
        refine EL.move rfl rfl rfl ?_
        refine EL.indexSN rfl rfl rfl rfl rfl rfl (by omega) ?_
        refine EL.assign rfl rfl rfl ?_
        repeat (first | apply ES.seq | apply ES.skip | apply ES.region | apply EL.nil | apply ES.block | apply ES.nil | apply ES.exit | apply ES.ret | apply PX.hit | (apply PX.miss; exact rfl) | apply PX.then_x | apply PX.then_r | apply PX.block_n | apply PX.block_r | refine PX.then_n (e := .normal) ?_)
        refine EL.move rfl rfl rfl ?_
        refine EL.eqlI rfl rfl rfl rfl ?_
        repeat (first | apply ES.seq | apply ES.skip | apply ES.region | apply EL.nil | apply ES.block | apply ES.nil | apply ES.exit | apply ES.ret | apply PX.hit | (apply PX.miss; exact rfl) | apply PX.then_x | apply PX.then_r | apply PX.block_n | apply PX.block_r | refine PX.then_n (e := .normal) ?_)
        generalize l.getD (k + 1) 0 = b2 at *
        refine ES.condD rfl (fun h110 => ?_) (fun h110 => ?_)
        · rw [u8_of _ 110 h110, pc_n] at hpc
          repeat (first | apply ES.seq | apply ES.skip | apply ES.region | apply EL.nil | apply ES.block | apply ES.nil | apply ES.exit | apply ES.ret | apply PX.hit | (apply PX.miss; exact rfl) | apply PX.then_x | apply PX.then_r | apply PX.block_n | apply PX.block_r | refine PX.then_n (e := .normal) ?_)
          refine EL.assign rfl rfl rfl ?_
          repeat (first | apply ES.seq | apply ES.skip | apply ES.region | apply EL.nil | apply ES.block | apply ES.nil | apply ES.exit | apply ES.ret | apply PX.hit | (apply PX.miss; exact rfl) | apply PX.then_x | apply PX.then_r | apply PX.block_n | apply PX.block_r | refine PX.then_n (e := .normal) ?_)
          refine EL.move rfl rfl rfl ?_
          refine EL.move rfl rfl rfl ?_
          (refine EL.buildSlice1 rfl rfl rfl rfl rfl rfl rfl rfl rfl rfl ?_; intro b58)
          (refine EL.append1 rfl rfl rfl rfl rfl rfl rfl rfl rfl (by repeat (first | exact Mem.here _ _ | apply Mem.there)) (by repeat (first | exact Pick.here _ _ | apply Pick.there)) (by intro u hu; simp [Value.cells] at hu; subst hu; rfl) (by rfl) (by unfold maxLen; omega) (by first | omega | (show 1 * _ ≤ _; omega) | (show 8 * _ ≤ _; omega) | (show 16 * _ ≤ _; omega) | (show 24 * _ ≤ _; omega) | (show _ * 1 ≤ _; omega) | (show _ * 8 ≤ _; omega) | (show _ * 16 ≤ _; omega) | (show _ * 24 ≤ _; omega)) ?_; intro a59 c59)
          refine EL.assign rfl rfl rfl ?_
          repeat (first | apply ES.seq | apply ES.skip | apply ES.region | apply EL.nil | apply ES.block | apply ES.nil | apply ES.exit | apply ES.ret | apply PX.hit | (apply PX.miss; exact rfl) | apply PX.then_x | apply PX.then_r | apply PX.block_n | apply PX.block_r | refine PX.then_n (e := .normal) ?_)
          refine EL.move rfl rfl rfl ?_
          refine EL.add1 rfl rfl rfl rfl (by omega) ?_
          refine EL.assign rfl rfl rfl ?_
          repeat (first | apply ES.seq | apply ES.skip | apply ES.region | apply EL.nil | apply ES.block | apply ES.nil | apply ES.exit | apply ES.ret | apply PX.hit | (apply PX.miss; exact rfl) | apply PX.then_x | apply PX.then_r | apply PX.block_n | apply PX.block_r | refine PX.then_n (e := .normal) ?_)
          exact PX.loop (k + 2, out ++ [10], cs ++ [Uv 10], n + 1, c59, some ⟨a59, 0, none⟩) ⟨by simp only; omega, by simp only; omega, by simp [hcs], by simp [hn], j, by simp only; omega, hpc⟩ (by simp only; omega) ⟨rfl, rfl, rfl, rfl, rfl, rfl, trivial⟩ (by repeat (first | exact Ent.nil _ | exact Ent.refl _ | (apply Ent.cons; case p => repeat (first | exact Pick.here _ _ | apply Pick.there))))
        · have h110' : b2 ≠ 110 := fun e => h110 (by rw [e]; rfl)
          repeat (first | apply ES.seq | apply ES.skip | apply ES.region | apply EL.nil | apply ES.block | apply ES.nil | apply ES.exit | apply ES.ret | apply PX.hit | (apply PX.miss; exact rfl) | apply PX.then_x | apply PX.then_r | apply PX.block_n | apply PX.block_r | refine PX.then_n (e := .normal) ?_)
          refine EL.cut [(53, .bool (alnumB b2)), (0, Sv l), (2, Sv []), (3, Iv 0), (4, Iv 0), (5, .slice ad n c), (6, Iv (k + 1 : Nat)), (7, Uv b2)] [HA.row (.slice ad n c) 5 1 n cs] ?_ ?_
          · repeat (first | apply ES.seq | apply ES.skip | apply ES.region | apply EL.nil | apply ES.block | apply ES.nil | apply ES.exit | apply ES.ret | apply PX.hit | (apply PX.miss; exact rfl) | apply PX.then_x | apply PX.then_r | apply PX.block_n | apply PX.block_r | refine PX.then_n (e := .normal) ?_)
            refine EL.move rfl rfl rfl ?_
            refine EL.geq rfl rfl rfl rfl ?_
            refine EL.move rfl rfl rfl ?_
            first | refine EL.splitD (d := 34) rfl (fun hp34 => ?_) (fun hp34 => ?_) | refine EL.splitN (d := 34) rfl (fun hp34 => ?_) (fun hp34 => ?_) | refine EL.splitB (d := 34) rfl (fun hp34 => ?_) (fun hp34 => ?_)
            · refine EL.move rfl rfl rfl ?_
              refine EL.leq rfl rfl rfl rfl ?_
              refine EL.pickT rfl rfl rfl rfl ?_
              refine EL.move rfl rfl rfl ?_
              first | refine EL.splitD (d := 38) rfl (fun hp38 => ?_) (fun hp38 => ?_) | refine EL.splitN (d := 38) rfl (fun hp38 => ?_) (fun hp38 => ?_) | refine EL.splitB (d := 38) rfl (fun hp38 => ?_) (fun hp38 => ?_)
              · refine EL.pass rfl rfl rfl ?_
                refine EL.pass rfl rfl rfl ?_
                refine EL.pass rfl rfl rfl ?_
                refine EL.pass rfl rfl rfl ?_
                refine EL.pass rfl rfl rfl ?_
                refine EL.pass rfl rfl rfl ?_
                refine EL.pickT rfl rfl rfl rfl ?_
                refine EL.move rfl rfl rfl ?_
                refine EL.pass rfl rfl rfl ?_
                refine EL.pass rfl rfl rfl ?_
                refine EL.pass rfl rfl rfl ?_
                refine EL.pass rfl rfl rfl ?_
                refine EL.pass rfl rfl rfl ?_
                refine EL.pass rfl rfl rfl ?_
                refine EL.pickT rfl rfl rfl rfl ?_
                exact EL.endK ⟨getB rfl (by rw [Bool.eq_iff_iff]; simp [alnumB]; omega), rfl, rfl, rfl, rfl, rfl, rfl, rfl, trivial⟩ (by repeat (first | exact Ent.nil _ | exact Ent.refl _ | (apply Ent.cons; case p => repeat (first | exact Pick.here _ _ | apply Pick.there))))
              · refine EL.move rfl rfl rfl ?_
                refine EL.geq rfl rfl rfl rfl ?_
                refine EL.move rfl rfl rfl ?_
                first | refine EL.splitD (d := 41) rfl (fun hp41 => ?_) (fun hp41 => ?_) | refine EL.splitN (d := 41) rfl (fun hp41 => ?_) (fun hp41 => ?_) | refine EL.splitB (d := 41) rfl (fun hp41 => ?_) (fun hp41 => ?_)
                · refine EL.move rfl rfl rfl ?_
                  refine EL.leq rfl rfl rfl rfl ?_
                  refine EL.pickT rfl rfl rfl rfl ?_
                  refine EL.pickF rfl rfl rfl rfl ?_
                  refine EL.move rfl rfl rfl ?_
                  first | refine EL.splitD (d := 46) rfl (fun hp46 => ?_) (fun hp46 => ?_) | refine EL.splitN (d := 46) rfl (fun hp46 => ?_) (fun hp46 => ?_) | refine EL.splitB (d := 46) rfl (fun hp46 => ?_) (fun hp46 => ?_)
                  · refine EL.pass rfl rfl rfl ?_
                    refine EL.pass rfl rfl rfl ?_
                    refine EL.pass rfl rfl rfl ?_
                    refine EL.pass rfl rfl rfl ?_
                    refine EL.pass rfl rfl rfl ?_
                    refine EL.pass rfl rfl rfl ?_
                    refine EL.pickT rfl rfl rfl rfl ?_
                    exact EL.endK ⟨getB rfl (by rw [Bool.eq_iff_iff]; simp [alnumB]; omega), rfl, rfl, rfl, rfl, rfl, rfl, rfl, trivial⟩ (by repeat (first | exact Ent.nil _ | exact Ent.refl _ | (apply Ent.cons; case p => repeat (first | exact Pick.here _ _ | apply Pick.there))))
                  · refine EL.move rfl rfl rfl ?_
                    refine EL.geq rfl rfl rfl rfl ?_
                    refine EL.move rfl rfl rfl ?_
                    first | refine EL.splitD (d := 49) rfl (fun hp49 => ?_) (fun hp49 => ?_) | refine EL.splitN (d := 49) rfl (fun hp49 => ?_) (fun hp49 => ?_) | refine EL.splitB (d := 49) rfl (fun hp49 => ?_) (fun hp49 => ?_)
                    · refine EL.move rfl rfl rfl ?_
                      refine EL.leq rfl rfl rfl rfl ?_
                      refine EL.pickT rfl rfl rfl rfl ?_
                      refine EL.pickF rfl rfl rfl rfl ?_
                      exact EL.endK ⟨getB rfl (by rw [Bool.eq_iff_iff]; simp [alnumB]; omega), rfl, rfl, rfl, rfl, rfl, rfl, rfl, trivial⟩ (by repeat (first | exact Ent.nil _ | exact Ent.refl _ | (apply Ent.cons; case p => repeat (first | exact Pick.here _ _ | apply Pick.there))))
                    · refine EL.pass rfl rfl rfl ?_
                      refine EL.pass rfl rfl rfl ?_
                      refine EL.pickF rfl rfl rfl rfl ?_
                      refine EL.pickF rfl rfl rfl rfl ?_
                      exact EL.endK ⟨getB rfl (by rw [Bool.eq_iff_iff]; simp [alnumB]; omega), rfl, rfl, rfl, rfl, rfl, rfl, rfl, trivial⟩ (by repeat (first | exact Ent.nil _ | exact Ent.refl _ | (apply Ent.cons; case p => repeat (first | exact Pick.here _ _ | apply Pick.there))))
                · refine EL.pass rfl rfl rfl ?_
                  refine EL.pass rfl rfl rfl ?_
                  refine EL.pickF rfl rfl rfl rfl ?_
                  refine EL.pickF rfl rfl rfl rfl ?_
                  refine EL.move rfl rfl rfl ?_
                  refine EL.move rfl rfl rfl ?_
                  refine EL.geq rfl rfl rfl rfl ?_
                  refine EL.move rfl rfl rfl ?_
                  first | refine EL.splitD (d := 49) rfl (fun hp49 => ?_) (fun hp49 => ?_) | refine EL.splitN (d := 49) rfl (fun hp49 => ?_) (fun hp49 => ?_) | refine EL.splitB (d := 49) rfl (fun hp49 => ?_) (fun hp49 => ?_)
                  · refine EL.move rfl rfl rfl ?_
                    refine EL.leq rfl rfl rfl rfl ?_
                    refine EL.pickT rfl rfl rfl rfl ?_
                    refine EL.pickF rfl rfl rfl rfl ?_
                    exact EL.endK ⟨getB rfl (by rw [Bool.eq_iff_iff]; simp [alnumB]; omega), rfl, rfl, rfl, rfl, rfl, rfl, rfl, trivial⟩ (by repeat (first | exact Ent.nil _ | exact Ent.refl _ | (apply Ent.cons; case p => repeat (first | exact Pick.here _ _ | apply Pick.there))))
                  · refine EL.pass rfl rfl rfl ?_
                    refine EL.pass rfl rfl rfl ?_
                    refine EL.pickF rfl rfl rfl rfl ?_
                    refine EL.pickF rfl rfl rfl rfl ?_
                    exact EL.endK ⟨getB rfl (by rw [Bool.eq_iff_iff]; simp [alnumB]; omega), rfl, rfl, rfl, rfl, rfl, rfl, rfl, trivial⟩ (by repeat (first | exact Ent.nil _ | exact Ent.refl _ | (apply Ent.cons; case p => repeat (first | exact Pick.here _ _ | apply Pick.there))))
            · refine EL.pass rfl rfl rfl ?_
              refine EL.pass rfl rfl rfl ?_
              refine EL.pickF rfl rfl rfl rfl ?_
              refine EL.move rfl rfl rfl ?_
              refine EL.move rfl rfl rfl ?_
              refine EL.geq rfl rfl rfl rfl ?_
              refine EL.move rfl rfl rfl ?_
              first | refine EL.splitD (d := 41) rfl (fun hp41 => ?_) (fun hp41 => ?_) | refine EL.splitN (d := 41) rfl (fun hp41 => ?_) (fun hp41 => ?_) | refine EL.splitB (d := 41) rfl (fun hp41 => ?_) (fun hp41 => ?_)
              · refine EL.move rfl rfl rfl ?_
                refine EL.leq rfl rfl rfl rfl ?_
                refine EL.pickT rfl rfl rfl rfl ?_
                refine EL.pickF rfl rfl rfl rfl ?_
                refine EL.move rfl rfl rfl ?_
                first | refine EL.splitD (d := 46) rfl (fun hp46 => ?_) (fun hp46 => ?_) | refine EL.splitN (d := 46) rfl (fun hp46 => ?_) (fun hp46 => ?_) | refine EL.splitB (d := 46) rfl (fun hp46 => ?_) (fun hp46 => ?_)
                · refine EL.pass rfl rfl rfl ?_
                  refine EL.pass rfl rfl rfl ?_
                  refine EL.pass rfl rfl rfl ?_
                  refine EL.pass rfl rfl rfl ?_
                  refine EL.pass rfl rfl rfl ?_
                  refine EL.pass rfl rfl rfl ?_
                  refine EL.pickT rfl rfl rfl rfl ?_
                  exact EL.endK ⟨getB rfl (by rw [Bool.eq_iff_iff]; simp [alnumB]; omega), rfl, rfl, rfl, rfl, rfl, rfl, rfl, trivial⟩ (by repeat (first | exact Ent.nil _ | exact Ent.refl _ | (apply Ent.cons; case p => repeat (first | exact Pick.here _ _ | apply Pick.there))))
                · refine EL.move rfl rfl rfl ?_
                  refine EL.geq rfl rfl rfl rfl ?_
                  refine EL.move rfl rfl rfl ?_
                  first | refine EL.splitD (d := 49) rfl (fun hp49 => ?_) (fun hp49 => ?_) | refine EL.splitN (d := 49) rfl (fun hp49 => ?_) (fun hp49 => ?_) | refine EL.splitB (d := 49) rfl (fun hp49 => ?_) (fun hp49 => ?_)
                  · refine EL.move rfl rfl rfl ?_
                    refine EL.leq rfl rfl rfl rfl ?_
                    refine EL.pickT rfl rfl rfl rfl ?_
                    refine EL.pickF rfl rfl rfl rfl ?_
                    exact EL.endK ⟨getB rfl (by rw [Bool.eq_iff_iff]; simp [alnumB]; omega), rfl, rfl, rfl, rfl, rfl, rfl, rfl, trivial⟩ (by repeat (first | exact Ent.nil _ | exact Ent.refl _ | (apply Ent.cons; case p => repeat (first | exact Pick.here _ _ | apply Pick.there))))
                  · refine EL.pass rfl rfl rfl ?_
                    refine EL.pass rfl rfl rfl ?_
                    refine EL.pickF rfl rfl rfl rfl ?_
                    refine EL.pickF rfl rfl rfl rfl ?_
                    exact EL.endK ⟨getB rfl (by rw [Bool.eq_iff_iff]; simp [alnumB]; omega), rfl, rfl, rfl, rfl, rfl, rfl, rfl, trivial⟩ (by repeat (first | exact Ent.nil _ | exact Ent.refl _ | (apply Ent.cons; case p => repeat (first | exact Pick.here _ _ | apply Pick.there))))
              · refine EL.pass rfl rfl rfl ?_
                refine EL.pass rfl rfl rfl ?_
                refine EL.pickF rfl rfl rfl rfl ?_
                refine EL.pickF rfl rfl rfl rfl ?_
                refine EL.move rfl rfl rfl ?_
                refine EL.move rfl rfl rfl ?_
                refine EL.geq rfl rfl rfl rfl ?_
                refine EL.move rfl rfl rfl ?_
                first | refine EL.splitD (d := 49) rfl (fun hp49 => ?_) (fun hp49 => ?_) | refine EL.splitN (d := 49) rfl (fun hp49 => ?_) (fun hp49 => ?_) | refine EL.splitB (d := 49) rfl (fun hp49 => ?_) (fun hp49 => ?_)
                · refine EL.move rfl rfl rfl ?_
                  refine EL.leq rfl rfl rfl rfl ?_
                  refine EL.pickT rfl rfl rfl rfl ?_
                  refine EL.pickF rfl rfl rfl rfl ?_
                  exact EL.endK ⟨getB rfl (by rw [Bool.eq_iff_iff]; simp [alnumB]; omega), rfl, rfl, rfl, rfl, rfl, rfl, rfl, trivial⟩ (by repeat (first | exact Ent.nil _ | exact Ent.refl _ | (apply Ent.cons; case p => repeat (first | exact Pick.here _ _ | apply Pick.there))))
                · refine EL.pass rfl rfl rfl ?_
                  refine EL.pass rfl rfl rfl ?_
                  refine EL.pickF rfl rfl rfl rfl ?_
                  refine EL.pickF rfl rfl rfl rfl ?_
                  exact EL.endK ⟨getB rfl (by rw [Bool.eq_iff_iff]; simp [alnumB]; omega), rfl, rfl, rfl, rfl, rfl, rfl, rfl, trivial⟩ (by repeat (first | exact Ent.nil _ | exact Ent.refl _ | (apply Ent.cons; case p => repeat (first | exact Pick.here _ _ | apply Pick.there))))
          refine ES.cond rfl (fun ha => ?_) (fun ha => ?_)
          · rw [pc_bad _ _ _ _ _ h110' ha] at hpc
            repeat (first | apply ES.seq | apply ES.skip | apply ES.region | apply EL.nil | apply ES.block | apply ES.nil | apply ES.exit | apply ES.ret | apply PX.hit | (apply PX.miss; exact rfl) | apply PX.then_x | apply PX.then_r | apply PX.block_n | apply PX.block_r | refine PX.then_n (e := .normal) ?_)
            refine EL.move rfl rfl rfl ?_
            refine EL.sub1 rfl rfl rfl rfl (by omega) (by omega) ?_
            refine EL.assign rfl rfl rfl ?_
            refine EL.assign rfl rfl rfl ?_
            refine EL.assign rfl rfl rfl ?_
            repeat (first | apply ES.seq | apply ES.skip | apply ES.region | apply EL.nil | apply ES.block | apply ES.nil | apply ES.exit | apply ES.ret | apply PX.hit | (apply PX.miss; exact rfl) | apply PX.then_x | apply PX.then_r | apply PX.block_n | apply PX.block_r | refine PX.then_n (e := .normal) ?_)
            exact PX.ret rfl Try.results11 (.cons (.tmp rfl) (.cons (.tmp rfl) (.cons (.tmp rfl) .nil))) (fun w hs => ⟨(), by rw [← hpc]; rfl, hs.ent (.nil _)⟩)
          · rw [pc_ok _ _ _ _ _ h110' ha] at hpc
            repeat (first | apply ES.seq | apply ES.skip | apply ES.region | apply EL.nil | apply ES.block | apply ES.nil | apply ES.exit | apply ES.ret | apply PX.hit | (apply PX.miss; exact rfl) | apply PX.then_x | apply PX.then_r | apply PX.block_n | apply PX.block_r | refine PX.then_n (e := .normal) ?_)
            refine EL.move rfl rfl rfl ?_
            refine EL.move rfl rfl rfl ?_
            (refine EL.buildSlice1 rfl rfl rfl rfl rfl rfl rfl rfl rfl rfl ?_; intro b58)
            (refine EL.append1 rfl rfl rfl rfl rfl rfl rfl rfl rfl (by repeat (first | exact Mem.here _ _ | apply Mem.there)) (by repeat (first | exact Pick.here _ _ | apply Pick.there)) (by intro u hu; simp [Value.cells] at hu; subst hu; rfl) (by rfl) (by unfold maxLen; omega) (by first | omega | (show 1 * _ ≤ _; omega) | (show 8 * _ ≤ _; omega) | (show 16 * _ ≤ _; omega) | (show 24 * _ ≤ _; omega) | (show _ * 1 ≤ _; omega) | (show _ * 8 ≤ _; omega) | (show _ * 16 ≤ _; omega) | (show _ * 24 ≤ _; omega)) ?_; intro a59 c59)
            refine EL.assign rfl rfl rfl ?_
            repeat (first | apply ES.seq | apply ES.skip | apply ES.region | apply EL.nil | apply ES.block | apply ES.nil | apply ES.exit | apply ES.ret | apply PX.hit | (apply PX.miss; exact rfl) | apply PX.then_x | apply PX.then_r | apply PX.block_n | apply PX.block_r | refine PX.then_n (e := .normal) ?_)
            refine EL.move rfl rfl rfl ?_
            refine EL.add1 rfl rfl rfl rfl (by omega) ?_
            refine EL.assign rfl rfl rfl ?_
            repeat (first | apply ES.seq | apply ES.skip | apply ES.region | apply EL.nil | apply ES.block | apply ES.nil | apply ES.exit | apply ES.ret | apply PX.hit | (apply PX.miss; exact rfl) | apply PX.then_x | apply PX.then_r | apply PX.block_n | apply PX.block_r | refine PX.then_n (e := .normal) ?_)
            exact PX.loop (k + 2, out ++ [b2], cs ++ [Uv b2], n + 1, c59, some ⟨a59, 0, none⟩) ⟨by simp only; omega, by simp only; omega, by simp [hcs], by simp [hn], j, by simp only; omega, hpc⟩ (by simp only; omega) ⟨rfl, rfl, rfl, rfl, rfl, rfl, trivial⟩ (by repeat (first | exact Ent.nil _ | exact Ent.refl _ | (apply Ent.cons; case p => repeat (first | exact Pick.here _ _ | apply Pick.there))))
    · rw [pc_plain _ _ _ _ _ (fun e => hb (by rw [e]; rfl))] at hpc
      repeat (first | apply ES.seq | apply ES.skip | apply ES.region | apply EL.nil | apply ES.block | apply ES.nil | apply ES.exit | apply ES.ret | apply PX.hit | (apply PX.miss; exact rfl) | apply PX.then_x | apply PX.then_r | apply PX.block_n | apply PX.block_r | refine PX.then_n (e := .normal) ?_)
      refine EL.move rfl rfl rfl ?_
      refine EL.move rfl rfl rfl ?_
      (refine EL.buildSlice1 rfl rfl rfl rfl rfl rfl rfl rfl rfl rfl ?_; intro b58)
      (refine EL.append1 rfl rfl rfl rfl rfl rfl rfl rfl rfl (by repeat (first | exact Mem.here _ _ | apply Mem.there)) (by repeat (first | exact Pick.here _ _ | apply Pick.there)) (by intro u hu; simp [Value.cells] at hu; subst hu; rfl) (by rfl) (by unfold maxLen; omega) (by first | omega | (show 1 * _ ≤ _; omega) | (show 8 * _ ≤ _; omega) | (show 16 * _ ≤ _; omega) | (show 24 * _ ≤ _; omega) | (show _ * 1 ≤ _; omega) | (show _ * 8 ≤ _; omega) | (show _ * 16 ≤ _; omega) | (show _ * 24 ≤ _; omega)) ?_; intro a59 c59)
      refine EL.assign rfl rfl rfl ?_
      repeat (first | apply ES.seq | apply ES.skip | apply ES.region | apply EL.nil | apply ES.block | apply ES.nil | apply ES.exit | apply ES.ret | apply PX.hit | (apply PX.miss; exact rfl) | apply PX.then_x | apply PX.then_r | apply PX.block_n | apply PX.block_r | refine PX.then_n (e := .normal) ?_)
      refine EL.move rfl rfl rfl ?_
      refine EL.add1 rfl rfl rfl rfl (by omega) ?_
      refine EL.assign rfl rfl rfl ?_
      repeat (first | apply ES.seq | apply ES.skip | apply ES.region | apply EL.nil | apply ES.block | apply ES.nil | apply ES.exit | apply ES.ret | apply PX.hit | (apply PX.miss; exact rfl) | apply PX.then_x | apply PX.then_r | apply PX.block_n | apply PX.block_r | refine PX.then_n (e := .normal) ?_)
      exact PX.loop (k + 1, out ++ [l.getD k 0], cs ++ [Uv (l.getD k 0)], n + 1, c59, some ⟨a59, 0, none⟩) ⟨by simp only; omega, by simp only; omega, by simp [hcs], by simp [hn], j, by simp only; omega, hpc⟩ (by simp only; omega) ⟨rfl, rfl, rfl, rfl, rfl, rfl, trivial⟩ (by repeat (first | exact Ent.nil _ | exact Ent.refl _ | (apply Ent.cons; case p => repeat (first | exact Pick.here _ _ | apply Pick.there))))
  · have hkl : k = l.length := by omega
    subst hkl
    subst hcs
    repeat (first | apply ES.seq | apply ES.skip | apply ES.region | apply EL.nil | apply ES.block | apply ES.nil | apply ES.exit | apply ES.ret | apply PX.hit | (apply PX.miss; exact rfl) | apply PX.then_x | apply PX.then_r | apply PX.block_n | apply PX.block_r | refine PX.then_n (e := .normal) ?_)
    refine EL.move rfl rfl rfl ?_
    refine EL.bytesS rfl rfl rfl rfl rfl rfl rfl rfl rfl (by repeat (first | exact Mem.here _ _ | apply Mem.there)) ?_
    refine EL.assign rfl rfl rfl ?_
    refine EL.assign rfl rfl rfl ?_
    refine EL.assign rfl rfl rfl ?_
    repeat (first | apply ES.seq | apply ES.skip | apply ES.region | apply EL.nil | apply ES.block | apply ES.nil | apply ES.exit | apply ES.ret | apply PX.hit | (apply PX.miss; exact rfl) | apply PX.then_x | apply PX.then_r | apply PX.block_n | apply PX.block_r | refine PX.then_n (e := .normal) ?_)
    rw [List.drop_length] at hpc
    exact PX.ret rfl Try.results11 (.cons (.tmp rfl) (.cons (.tmp rfl) (.cons (.tmp rfl) .nil))) (fun w hs => ⟨(), by rw [← hpc]; rfl, hs.ent (.nil _)⟩)
end Go.Proofs.Ytbclmngjhhmbdaa
