/- THE BASE: words of 64 bits: shifts, and, or, not, sums. -/
import Derived.Test.YtgoopgnnkhpmlaaDoorSlo
namespace Go.Proofs.YtgoopgnnkhpmlaaDoor.Sl
open Go Go.RowKit
set_option linter.unusedVariables false
set_option linter.unusedSimpArgs false

abbrev Wv (x : UInt64) : Value := .int .u64 (x.toNat : Int)
theorem bv64 (b : UInt64) : BitVec.ofInt 64 (b.toNat : Int) = b.toBitVec := by
  rw [BitVec.ofInt_natCast]; apply BitVec.eq_of_toNat_eq; simp
theorem wrapW (b : UInt64) : IntKind.u64.wrap (b.toNat : Int) = b.toNat := wrap_u64 _ b.toNat_lt
theorem wrapW_mod (n : Nat) : IntKind.u64.wrap (n : Int) = ((n % 18446744073709551616 : Nat) : Int) := by
  simp [IntKind.wrap, IntKind.signed, IntKind.bits]
theorem run_andW (a b : UInt64) (P : Program) (w : World) : (Op.intBits .and .u64 (a.toNat : Int) (b.toNat : Int)).run P w = .ok (Wv (a &&& b)) w := by
  simp only [Op.intBits, IntKind.bits, bv64]
  show Result.ok _ _ = _
  congr 2
  rw [wrap_u64 _ (by exact (BitVec.isLt _))]
  rfl
theorem run_orW (a b : UInt64) (P : Program) (w : World) : (Op.intBits .or .u64 (a.toNat : Int) (b.toNat : Int)).run P w = .ok (Wv (a ||| b)) w := by
  simp only [Op.intBits, IntKind.bits, bv64]
  show Result.ok _ _ = _
  congr 2
  rw [wrap_u64 _ (by exact (BitVec.isLt _))]
  rfl
theorem run_notW (a : UInt64) (P : Program) (w : World) : (Op.unary .xor (Wv a)).run P w = .ok (Wv (~~~a)) w := by
  have h0 : BitVec.ofInt 64 IntKind.u64.max = BitVec.allOnes 64 := by decide
  simp only [Op.unary, IntKind.signed, Bool.false_eq_true, if_false, Op.intBits, IntKind.bits, bv64, h0, BitVec.allOnes_xor]
  show Result.ok _ _ = _
  congr 2
  rw [wrap_u64 _ (by exact (BitVec.isLt _))]
  rfl
theorem shlW_eq (a : UInt64) (s : Nat) (hs : s < 64) : IntKind.u64.wrap ((a.toNat : Int) * 2 ^ s) = ((a <<< UInt64.ofNat s).toNat : Int) := by
  have h1 : ((a.toNat : Int) * 2 ^ s) = ((a.toNat * 2 ^ s : Nat) : Int) := by simp
  rw [h1, wrapW_mod, UInt64.toNat_shiftLeft, UInt64.toNat_ofNat_of_lt' (by simp only [UInt64.size]; omega), Nat.mod_eq_of_lt hs, Nat.shiftLeft_eq]
theorem shrW_eq (a : UInt64) (s : Nat) (hs : s < 64) : (a.toNat : Int).fdiv (2 ^ s) = ((a >>> UInt64.ofNat s).toNat : Int) := by
  rw [UInt64.toNat_shiftRight, UInt64.toNat_ofNat_of_lt' (by simp only [UInt64.size]; omega), Nat.mod_eq_of_lt hs, Nat.shiftRight_eq_div_pow]
  have : ((2 : Int) ^ s) = ((2 ^ s : Nat) : Int) := by simp
  rw [this, Int.fdiv_eq_ediv_of_nonneg _ (Int.natCast_nonneg _)]
  exact (Int.natCast_ediv _ _).symm

theorem run_shrW (a : UInt64) (kd : IntKind) (s : Nat) (hs : s < 64) (P : Program) (w : World) : (Op.shift .shr .u64 (a.toNat : Int) kd (s : Nat)).run P w = .ok (Wv (a >>> UInt64.ofNat s)) w := by
  have h1 : min s 64 = s := by omega
  have h3 : ¬ ((s : Int) < 0) := by omega
  unfold Op.shift
  rw [if_neg h3]
  simp only [Int.toNat_natCast, IntKind.bits, h1]
  rw [shrW_eq a s hs]
  rfl
section words
variable {C : Cx} {all : Array Oper} {ops : List Oper} {Q : Qt} {E : Env} {H : List HA} {d ty t t' : Nat} {pos : String} {af : Array Edge} {g : Option (Nat × Bool)} {x y : Operand} {m n : Int}
theorem EL.ofRV {o : Oper} {v : Value} (h : RunV C E H o v) (hg : guardOk all E o.guard = some true) (hd : o.dst = some d) (hdn : Nat.blt d C.n = true) (hop : ∀ c, o.op ≠ .defer c) (k : EL C all ops Q ((d, v) :: E) H) : EL C all (o :: ops) Q E H := EL.val v hg hd hdn hop h k
theorem RV.andW {a b : UInt64} (hx : E.ev x = some (.int .u64 m)) (hy : E.ev y = some (.int .u64 n)) (hm : m = (a.toNat : Int)) (hn : n = (b.toNat : Int)) : RunV C E H ⟨some d, .binOp .and t x y t', ty, pos, af, g⟩ (Wv (a &&& b)) := fun ac w ha => by
  subst hm; subst hn; simp [execOp, ha.1.ev hx, ha.1.ev hy, eqGuard, binOp, run_andW, Result.andThen]
theorem RV.orW {a b : UInt64} (hx : E.ev x = some (.int .u64 m)) (hy : E.ev y = some (.int .u64 n)) (hm : m = (a.toNat : Int)) (hn : n = (b.toNat : Int)) : RunV C E H ⟨some d, .binOp .or t x y t', ty, pos, af, g⟩ (Wv (a ||| b)) := fun ac w ha => by
  subst hm; subst hn; simp [execOp, ha.1.ev hx, ha.1.ev hy, eqGuard, binOp, run_orW, Result.andThen]
theorem RV.addW {a b : UInt64} (hx : E.ev x = some (.int .u64 m)) (hy : E.ev y = some (.int .u64 n)) (hm : m = (a.toNat : Int)) (hn : n = (b.toNat : Int)) : RunV C E H ⟨some d, .binOp .add t x y t', ty, pos, af, g⟩ (Wv (a + b)) := fun ac w ha => by
  subst hm; subst hn
  have h : IntKind.u64.wrap ((a.toNat : Int) + (b.toNat : Int)) = ((a + b).toNat : Int) := by
    rw [show ((a.toNat : Int) + (b.toNat : Int)) = ((a.toNat + b.toNat : Nat) : Int) by push_cast; rfl, wrapW_mod, UInt64.toNat_add]
  simp [execOp, ha.1.ev hx, ha.1.ev hy, eqGuard, binOp, Op.intArith, Result.andThen, h]
theorem RV.notW {a : UInt64} (hx : E.ev x = some (.int .u64 m)) (hm : m = (a.toNat : Int)) : RunV C E H ⟨some d, .unOp .xor t x, ty, pos, af, g⟩ (Wv (~~~a)) := fun ac w ha => by
  subst hm
  simp [execOp, ha.1.ev hx, run_notW, Result.andThen]
theorem RV.shlW {a : UInt64} {kd : IntKind} {s : Nat} (hx : E.ev x = some (.int .u64 m)) (hy : E.ev y = some (.int kd (s : Nat))) (hm : m = (a.toNat : Int)) (hs : s < 64) : RunV C E H ⟨some d, .binOp .shl t x y t', ty, pos, af, g⟩ (Wv (a <<< UInt64.ofNat s)) := fun ac w ha => by
  subst hm
  have h1 : min s 64 = s := by omega
  have h2 := shlW_eq a s hs
  have h3 : ¬ ((s : Int) < 0) := by omega
  simp [execOp, ha.1.ev hx, ha.1.ev hy, eqGuard, binOp, Op.shift, h3, IntKind.bits, h1, h2, Result.andThen]
theorem RV.shrW {a : UInt64} {kd : IntKind} {s : Nat} (hx : E.ev x = some (.int .u64 m)) (hy : E.ev y = some (.int kd (s : Nat))) (hm : m = (a.toNat : Int)) (hs : s < 64) : RunV C E H ⟨some d, .binOp .shr t x y t', ty, pos, af, g⟩ (Wv (a >>> UInt64.ofNat s)) := fun ac w ha => by
  subst hm
  simp only [execOp, ha.1.ev hx, ha.1.ev hy, eqGuard, binOp, Sem.run_bind, Sem.run_pure, run_shrW a kd s hs, Result.andThen]
  rfl
theorem RV.remN {kd : IntKind} {m n : Nat} (hx : E.ev x = some (.int kd (m : Nat))) (hy : E.ev y = some (.int kd (n : Nat))) (h0 : 0 < n) : RunV C E H ⟨some d, .binOp .rem t x y t', ty, pos, af, g⟩ (.int kd ((m % n : Nat) : Int)) := fun a w ha => by
  have h1 : (n : Int) ≠ 0 := by omega
  have h2 : ((m : Int).tmod n) = ((m % n : Nat) : Int) := by rw [Int.tmod_eq_emod_of_nonneg (by omega)]; omega
  have h3 : n ≠ 0 := by omega
  simp [execOp, ha.1.ev hx, ha.1.ev hy, eqGuard, binOp, Op.intDiv, Result.andThen, h1, h2, h3]
theorem RV.convN {kd kd' : IntKind} {n : Nat} {ti ts : TI} (hx : E.ev x = some (.int kd (n : Nat))) (ht : C.T.f t' = some ti) (hu : ti.u = .int kd') (hT0 : C.T.f t = some ts) (hr : n ≤ kmax kd') : RunV C E H ⟨some d, .convert t t' x, ty, pos, af, g⟩ (.int kd' (n : Nat)) :=
  RV.convI (n : Int) hx ht hu hT0 (wrap_of_le kd' n hr)
theorem RV.quoU {kd : IntKind} {m n : Nat} (hx : E.ev x = some (.int kd (m : Nat))) (hy : E.ev y = some (.int kd (n : Nat))) (h0 : 0 < n) (hm : m ≤ kmax kd) : RunV C E H ⟨some d, .binOp .quo t x y t', ty, pos, af, g⟩ (.int kd ((m / n : Nat) : Int)) := fun a w ha => by
  have h1 : (n : Int) ≠ 0 := by omega
  have h3 : m / n ≤ m := Nat.div_le_self _ _
  have h2 : kd.wrap ((m : Int).tdiv n) = ((m / n : Nat) : Int) := by
    rw [Int.tdiv_eq_ediv_of_nonneg (by omega), ← Int.natCast_ediv]
    exact wrap_of_le kd _ (Nat.le_trans h3 hm)
  have h4 : n ≠ 0 := by omega
  have h5 : kd.wrap ((m : Int) / (n : Int)) = (m : Int) / (n : Int) := by rw [Int.tdiv_eq_ediv_of_nonneg (by omega)] at h2; simpa using h2
  simp [execOp, ha.1.ev hx, ha.1.ev hy, eqGuard, binOp, Op.intDiv, Result.andThen, h1, h5, h4]
end words

/-! four words -/
structure BS where
  a : UInt64
  b : UInt64
  c : UInt64
  d : UInt64
theorem BS.ext_iff' (s t : BS) : (s.a = t.a ∧ s.b = t.b ∧ s.c = t.c ∧ s.d = t.d) ↔ s = t := by
  cases s; cases t; simp
instance : DecidableEq BS := fun s t => decidable_of_iff _ (BS.ext_iff' s t)
def BS.get (s : BS) : Nat → UInt64
  | 0 => s.a
  | 1 => s.b
  | 2 => s.c
  | _ => s.d
def BS.set (s : BS) (i : Nat) (x : UInt64) : BS := match i with
  | 0 => { s with a := x }
  | 1 => { s with b := x }
  | 2 => { s with c := x }
  | _ => { s with d := x }
abbrev BS.cells (s : BS) : Array Value := #[Wv s.a, Wv s.b, Wv s.c, Wv s.d]
abbrev Bs (s : BS) : Value := .agg s.cells
theorem BS.cells_get (s : BS) (i : Nat) (hi : i < 4) : s.cells[i]? = some (Wv (s.get i)) := by
  match i, hi with
  | 0, _ => rfl
  | 1, _ => rfl
  | 2, _ => rfl
  | 3, _ => rfl
theorem BS.cells_set (s : BS) (i : Nat) (hi : i < 4) (x : UInt64) : s.cells.setIfInBounds i (Wv x) = (s.set i x).cells := by
  match i, hi with
  | 0, _ => rfl
  | 1, _ => rfl
  | 2, _ => rfl
  | 3, _ => rfl
section fours
variable {C : Cx} {all : Array Oper} {ops : List Oper} {Q : Qt} {E : Env} {H H' : List HA} {d ty t t' e g off : Nat} {pos : String} {af : Array Edge} {gd : Option (Nat × Bool)} {x y : Operand}
theorem RV.loadBS {ti : TI} {w0 w1 w2 w3 : UInt64} {fr : Nat × Nat} (hx : E.ev x = some (Pv g off)) (ht : C.T.f t = some ti) (hu : ti.agg = false) (hm : Mem H (HA.blk g (.cells #[Wv w0, Wv w1, Wv w2, Wv w3] e fr))) (hi : off < 4) :
    RunV C E H ⟨some d, .load t x, ty, pos, af, gd⟩ (Wv (BS.get ⟨w0, w1, w2, w3⟩ off)) :=
  RV.loadB hx ht hu hm (BS.cells_get ⟨w0, w1, w2, w3⟩ off hi)
theorem EL.storeBS {ti : TI} {w0 w1 w2 w3 : UInt64} {b : UInt64} (hg : guardOk all E gd = some true) (hx : E.ev x = some (Pv g off)) (hy : E.ev y = some (Wv b)) (ht : C.T.f t = some ti) (hsz : Nat.beq ti.size 1 = true)
    (p : PickSet H (HA.blk g (.cells #[Wv w0, Wv w1, Wv w2, Wv w3] e (0, 0))) (HA.blk g (.cells (BS.set ⟨w0, w1, w2, w3⟩ off b).cells e (0, 0))) H') (hi : off < 4) (k : EL C all ops Q E H') : EL C all (⟨none, .store t x y, ty, pos, af, gd⟩ :: ops) Q E H :=
  EL.storeB (cs := BS.cells ⟨w0, w1, w2, w3⟩) hg hx hy rfl ht hsz (by rw [BS.cells_set _ _ hi]; exact p) (by simpa using hi) k
theorem RV.indexBS {ti te : TI} {el : TypeId} {kd : IntKind} {i : Nat} {w0 w1 w2 w3 : UInt64} (hx : E.ev x = some (.agg #[Wv w0, Wv w1, Wv w2, Wv w3])) (hy : E.ev y = some (.int kd (i : Nat))) (ht : C.T.f t = some ti) (hu : ti.u = .array 4 el) (hte : C.T.f el = some te) (hua : te.agg = false) (hsz : Nat.beq te.size 1 = true) (hi : i < 4) :
    RunV C E H ⟨some d, .index t x y, ty, pos, af, gd⟩ (Wv (BS.get ⟨w0, w1, w2, w3⟩ i)) :=
  RV.indexA1 hx hy ht hu hte hua hsz hi (BS.cells_get ⟨w0, w1, w2, w3⟩ i hi)
theorem EL.loadBS {ti : TI} {w0 w1 w2 w3 : UInt64} {fr : Nat × Nat} (hg : guardOk all E gd = some true) (hx : E.ev x = some (Pv g off)) (ht : C.T.f t = some ti) (hu : ti.agg = false) (hd : Nat.blt d C.n = true) (hm : Mem H (HA.blk g (.cells #[Wv w0, Wv w1, Wv w2, Wv w3] e fr))) (hi : off < 4)
    (k : EL C all ops Q ((d, Wv (BS.get ⟨w0, w1, w2, w3⟩ off)) :: E) H) : EL C all (⟨some d, .load t x, ty, pos, af, gd⟩ :: ops) Q E H :=
  EL.ofRV (RV.loadBS hx ht hu hm hi) hg rfl hd (by intro c h; cases h) k
theorem EL.indexBS {ti te : TI} {el : TypeId} {kd : IntKind} {i : Nat} {w0 w1 w2 w3 : UInt64} (hg : guardOk all E gd = some true) (hx : E.ev x = some (.agg #[Wv w0, Wv w1, Wv w2, Wv w3])) (hy : E.ev y = some (.int kd (i : Nat))) (ht : C.T.f t = some ti) (hu : ti.u = .array 4 el) (hte : C.T.f el = some te) (hua : te.agg = false) (hsz : Nat.beq te.size 1 = true) (hd : Nat.blt d C.n = true) (hi : i < 4)
    (k : EL C all ops Q ((d, Wv (BS.get ⟨w0, w1, w2, w3⟩ i)) :: E) H) : EL C all (⟨some d, .index t x y, ty, pos, af, gd⟩ :: ops) Q E H :=
  EL.ofRV (RV.indexBS hx hy ht hu hte hua hsz hi) hg rfl hd (by intro c h; cases h) k
theorem run_equal_bs {P : Program} (T : TyTab P) {t el : Nat} {ti te : TI} (ht : T.f t = some ti) (hu : ti.u = .array 4 el) (hte : T.f el = some te) (hue : te.u = .int .u64) (hsz : te.size = 1) (s u : BS) (w : World) :
    (Op.equal t (Bs s) (Bs u)).run P w = .ok (decide (s = u)) w := by
  have h := run_equal_arr T ht hu hte hue hsz [(s.a.toNat : Int), s.b.toNat, s.c.toNat, s.d.toNat] [(u.a.toNat : Int), u.b.toNat, u.c.toNat, u.d.toNat] rfl rfl w
  refine Eq.trans h ?_
  congr 1
  refine decide_eq_decide.2 ⟨fun e => ?_, fun e => by rw [e]⟩
  simp only [List.cons.injEq, Int.natCast_inj, UInt64.toNat_inj, and_true] at e
  exact (BS.ext_iff' s u).1 e
theorem EL.eqlBS {ti te : TI} {el : TypeId} {w0 w1 w2 w3 v0 v1 v2 v3 : UInt64} (hg : guardOk all E gd = some true) (hx : E.ev x = some (.agg #[Wv w0, Wv w1, Wv w2, Wv w3])) (hy : E.ev y = some (.agg #[Wv v0, Wv v1, Wv v2, Wv v3])) (hd : Nat.blt d C.n = true) (hgt : C.P.eqGuardType C.P.depth t = false) (ht : C.T.f t = some ti) (hu : ti.u = .array 4 el) (hte : C.T.f el = some te) (hue : te.u = .int .u64) (hsz : te.size = 1)
    (k : EL C all ops Q ((d, .bool (decide ((⟨w0, w1, w2, w3⟩ : BS) = ⟨v0, v1, v2, v3⟩))) :: E) H) : EL C all (⟨some d, .binOp .eql t x y t', ty, pos, af, gd⟩ :: ops) Q E H :=
  EL.eqlAgg hg hx hy hd hgt (run_equal_bs C.T ht hu hte hue hsz ⟨w0, w1, w2, w3⟩ ⟨v0, v1, v2, v3⟩) k
theorem EL.neqBS {ti te : TI} {el : TypeId} {w0 w1 w2 w3 v0 v1 v2 v3 : UInt64} (hg : guardOk all E gd = some true) (hx : E.ev x = some (.agg #[Wv w0, Wv w1, Wv w2, Wv w3])) (hy : E.ev y = some (.agg #[Wv v0, Wv v1, Wv v2, Wv v3])) (hd : Nat.blt d C.n = true) (hgt : C.P.eqGuardType C.P.depth t = false) (ht : C.T.f t = some ti) (hu : ti.u = .array 4 el) (hte : C.T.f el = some te) (hue : te.u = .int .u64) (hsz : te.size = 1)
    (k : EL C all ops Q ((d, .bool (!decide ((⟨w0, w1, w2, w3⟩ : BS) = ⟨v0, v1, v2, v3⟩))) :: E) H) : EL C all (⟨some d, .binOp .neq t x y t', ty, pos, af, gd⟩ :: ops) Q E H :=
  EL.neqAgg hg hx hy hd hgt (run_equal_bs C.T ht hu hte hue hsz ⟨w0, w1, w2, w3⟩ ⟨v0, v1, v2, v3⟩) k
theorem RV.eqlBS {ti te : TI} {el : TypeId} {w0 w1 w2 w3 v0 v1 v2 v3 : UInt64} (hx : E.ev x = some (.agg #[Wv w0, Wv w1, Wv w2, Wv w3])) (hy : E.ev y = some (.agg #[Wv v0, Wv v1, Wv v2, Wv v3])) (hgt : C.P.eqGuardType C.P.depth t = false) (ht : C.T.f t = some ti) (hu : ti.u = .array 4 el) (hte : C.T.f el = some te) (hue : te.u = .int .u64) (hsz : te.size = 1) :
    RunV C E H ⟨some d, .binOp .eql t x y t', ty, pos, af, gd⟩ (.bool (decide ((⟨w0, w1, w2, w3⟩ : BS) = ⟨v0, v1, v2, v3⟩))) :=
  RV.eqlAgg hx hy hgt (run_equal_bs C.T ht hu hte hue hsz ⟨w0, w1, w2, w3⟩ ⟨v0, v1, v2, v3⟩)
theorem RV.neqBS {ti te : TI} {el : TypeId} {w0 w1 w2 w3 v0 v1 v2 v3 : UInt64} (hx : E.ev x = some (.agg #[Wv w0, Wv w1, Wv w2, Wv w3])) (hy : E.ev y = some (.agg #[Wv v0, Wv v1, Wv v2, Wv v3])) (hgt : C.P.eqGuardType C.P.depth t = false) (ht : C.T.f t = some ti) (hu : ti.u = .array 4 el) (hte : C.T.f el = some te) (hue : te.u = .int .u64) (hsz : te.size = 1) :
    RunV C E H ⟨some d, .binOp .neq t x y t', ty, pos, af, gd⟩ (.bool (!decide ((⟨w0, w1, w2, w3⟩ : BS) = ⟨v0, v1, v2, v3⟩))) :=
  RV.neqAgg hx hy hgt (run_equal_bs C.T ht hu hte hue hsz ⟨w0, w1, w2, w3⟩ ⟨v0, v1, v2, v3⟩)
theorem bv_wrap64 (n : Int) : BitVec.ofInt 64 (IntKind.i64.wrap n) = BitVec.ofInt 64 n := by
  apply BitVec.eq_of_toNat_eq
  simp only [BitVec.toNat_ofInt]
  congr 1
  simp [IntKind.wrap, IntKind.signed, IntKind.bits]
  omega
theorem run_and127 (x : UInt64) (P : Program) (w : World) : (Op.intBits .and .i64 (IntKind.i64.wrap (x.toNat : Int)) 127).run P w = .ok (Iv ((x &&& 127).toNat : Nat)) w := by
  have h0 : BitVec.ofInt 64 127 = (127 : UInt64).toBitVec := by decide
  simp only [Op.intBits, IntKind.bits, bv_wrap64, bv64, h0]
  show Result.ok _ _ = _
  congr 2
  have h1 : (x &&& 127).toNat ≤ 127 := by rw [UInt64.toNat_and]; exact Nat.and_le_right
  have h2 : (x.toBitVec &&& (127 : UInt64).toBitVec).toNat = (x &&& 127).toNat := rfl
  exact wrap_i64 ((x &&& 127).toNat : Int) (by omega) (by omega)
theorem EL.and127 {z : UInt64} {m : Int} (hg : guardOk all E gd = some true) (hx : E.ev x = some (.int .i64 m)) (hm : m = IntKind.i64.wrap (z.toNat : Int)) (hy : E.ev y = some (.int .i64 127)) (hd : Nat.blt d C.n = true)
    (k : EL C all ops Q ((d, Iv ((z &&& 127).toNat : Nat)) :: E) H) : EL C all (⟨some d, .binOp .and t x y t', ty, pos, af, gd⟩ :: ops) Q E H := by
  subst hm
  exact EL.bits rfl _ hg hx hy hd (fun w => run_and127 z C.P w) k
end fours
end Go.Proofs.YtgoopgnnkhpmlaaDoor.Sl
