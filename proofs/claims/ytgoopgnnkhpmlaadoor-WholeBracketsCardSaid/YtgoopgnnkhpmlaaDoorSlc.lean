/- THE BASE, third part: operation by operation. -/
import Derived.Test.YtgoopgnnkhpmlaaDoorSlb
import Derived.Lib.Strings
namespace Go.Proofs.YtgoopgnnkhpmlaaDoor.Sl
open Go Go.RowKit
set_option linter.unusedVariables false
set_option linter.unusedSimpArgs false

/-! ### Values -/
abbrev Sv (l : List UInt8) : Value := .string ⟨l.toArray⟩
abbrev Iv (n : Int) : Value := .int .i64 n
abbrev Uv (b : UInt8) : Value := .int .u8 (b.toNat : Int)
abbrev Pv (g off : Nat) : Value := .pointer (some ⟨g, off, none⟩)
theorem Sv_eta (s : ByteArray) : Value.string s = Sv s.data.toList := by cases s; rfl

def TI.agg (ti : TI) : Bool := match ti.u with | .struct _ | .array _ _ => true | _ => false
theorem TyOk.info {P : Program} {t : Nat} {ti : TI} (h : TyOk P t ti) : ∃ i, P.info? t = some i ∧ i.zero = some ti.zero ∧ i.size = ti.size ∧ i.bytes = ti.bytes := by
  obtain ⟨i, hi, hz⟩ := Option.map_eq_some_iff.1 h.i
  simp only [Prod.mk.injEq] at hz
  exact ⟨i, hi, hz⟩
theorem TyOk.runInfo {P : Program} {t : Nat} {ti : TI} (h : TyOk P t ti) (w : World) : (sizeOf t).run P w = .ok ti.size w ∧ (zeroValue t).run P w = .ok ti.zero w ∧ (underlying t).run P w = .ok ti.u w ∧ (isAgg t).run P w = .ok ti.agg w := by
  obtain ⟨i, hi, hz, hs, hb⟩ := h.info
  refine ⟨by simp [sizeOf, typeInfo, hi, hs, Result.andThen], by simp [zeroValue, typeInfo, hi, hz, Result.andThen], run_underlying h.u w, ?_⟩
  simp only [isAgg, Sem.run_bind, run_underlying h.u, Result.andThen, TI.agg]
  cases ti.u <;> rfl

section pure_ops
variable {C : Cx} {all : Array Oper} {ops : List Oper} {Q : Qt} {E : Env} {H : List HA} {d ty : Nat} {pos : String} {af : Array Edge} {g : Option (Nat × Bool)} {x y z : Operand} {v u : Value}

theorem EL.move (hg : guardOk all E g = some true) (hx : E.ev x = some v) (hd : Nat.blt d C.n = true) (k : EL C all ops Q ((d, v) :: E) H) : EL C all (⟨some d, .move x, ty, pos, af, g⟩ :: ops) Q E H :=
  EL.val v hg rfl hd (by simp) (fun a w ha => by simp [execOp, ha.1.ev hx]) k
theorem EL.assign (hg : guardOk all E g = some true) (hx : E.ev x = some v) (hd : Nat.blt d C.n = true) (k : EL C all ops Q ((d, v) :: E) H) : EL C all (⟨some d, .assign x, ty, pos, af, g⟩ :: ops) Q E H :=
  EL.val v hg rfl hd (by simp) (fun a w ha => by simp [execOp, ha.1.ev hx]) k
theorem EL.pickT {c : Operand} (hg : guardOk all E g = some true) (hc : E.ev c = some (.bool true)) (hx : E.ev x = some v) (hd : Nat.blt d C.n = true) (k : EL C all ops Q ((d, v) :: E) H) : EL C all (⟨some d, .pick c x y, ty, pos, af, g⟩ :: ops) Q E H :=
  EL.val v hg rfl hd (by simp) (fun a w ha => by simp [execOp, ha.1.ev hx, ha.1.ev hc, asBool, Result.andThen]) k
theorem EL.pickF {c : Operand} (hg : guardOk all E g = some true) (hc : E.ev c = some (.bool false)) (hx : E.ev y = some v) (hd : Nat.blt d C.n = true) (k : EL C all ops Q ((d, v) :: E) H) : EL C all (⟨some d, .pick c x y, ty, pos, af, g⟩ :: ops) Q E H :=
  EL.val v hg rfl hd (by simp) (fun a w ha => by simp [execOp, ha.1.ev hx, ha.1.ev hc, asBool, Result.andThen]) k
theorem EL.extract {vs : Array Value} {i : Nat} (hg : guardOk all E g = some true) (hx : E.ev x = some (.tuple vs)) (hi : vs[i]? = some v) (hd : Nat.blt d C.n = true) (k : EL C all ops Q ((d, v) :: E) H) : EL C all (⟨some d, .extract x i, ty, pos, af, g⟩ :: ops) Q E H :=
  EL.val v hg rfl hd (by simp) (fun a w ha => by simp [execOp, ha.1.ev hx, Instr.extract, hi, Result.andThen]) k
theorem EL.not {b : Bool} (hg : guardOk all E g = some true) (hx : E.ev x = some (.bool b)) (hd : Nat.blt d C.n = true) (k : EL C all ops Q ((d, .bool (!b)) :: E) H) : EL C all (⟨some d, .unOp .not ty x, ty, pos, af, g⟩ :: ops) Q E H :=
  EL.val _ hg rfl hd (by simp) (fun a w ha => by simp [execOp, ha.1.ev hx, Op.unary, Result.andThen]) k

/-! integers -/
variable {kd : IntKind} {m n : Int} {t t' : Nat}
theorem EL.add (r : Int) (hg : guardOk all E g = some true) (hx : E.ev x = some (.int kd m)) (hy : E.ev y = some (.int kd n)) (hd : Nat.blt d C.n = true) (hr : kd.wrap (m + n) = r) (k : EL C all ops Q ((d, .int kd r) :: E) H) : EL C all (⟨some d, .binOp .add t x y t', ty, pos, af, g⟩ :: ops) Q E H :=
  EL.val _ hg rfl hd (by simp) (fun a w ha => by subst hr; simp [execOp, ha.1.ev hx, ha.1.ev hy, eqGuard, binOp, Op.intArith, Result.andThen]) k
theorem EL.sub_ (r : Int) (hg : guardOk all E g = some true) (hx : E.ev x = some (.int kd m)) (hy : E.ev y = some (.int kd n)) (hd : Nat.blt d C.n = true) (hr : kd.wrap (m - n) = r) (k : EL C all ops Q ((d, .int kd r) :: E) H) : EL C all (⟨some d, .binOp .sub t x y t', ty, pos, af, g⟩ :: ops) Q E H :=
  EL.val _ hg rfl hd (by simp) (fun a w ha => by subst hr; simp [execOp, ha.1.ev hx, ha.1.ev hy, eqGuard, binOp, Op.intArith, Result.andThen]) k
theorem EL.mul (r : Int) (hg : guardOk all E g = some true) (hx : E.ev x = some (.int kd m)) (hy : E.ev y = some (.int kd n)) (hd : Nat.blt d C.n = true) (hr : kd.wrap (m * n) = r) (k : EL C all ops Q ((d, .int kd r) :: E) H) : EL C all (⟨some d, .binOp .mul t x y t', ty, pos, af, g⟩ :: ops) Q E H :=
  EL.val _ hg rfl hd (by simp) (fun a w ha => by subst hr; simp [execOp, ha.1.ev hx, ha.1.ev hy, eqGuard, binOp, Op.intArith, Result.andThen]) k
theorem EL.lss (hg : guardOk all E g = some true) (hx : E.ev x = some (.int kd m)) (hy : E.ev y = some (.int kd n)) (hd : Nat.blt d C.n = true) (k : EL C all ops Q ((d, .bool (decide (m < n))) :: E) H) : EL C all (⟨some d, .binOp .lss t x y t', ty, pos, af, g⟩ :: ops) Q E H :=
  EL.val _ hg rfl hd (by simp) (fun a w ha => by simp [execOp, ha.1.ev hx, ha.1.ev hy, eqGuard, binOp, Op.intCmp, Result.andThen]) k
theorem EL.leq (hg : guardOk all E g = some true) (hx : E.ev x = some (.int kd m)) (hy : E.ev y = some (.int kd n)) (hd : Nat.blt d C.n = true) (k : EL C all ops Q ((d, .bool (decide (m ≤ n))) :: E) H) : EL C all (⟨some d, .binOp .leq t x y t', ty, pos, af, g⟩ :: ops) Q E H :=
  EL.val _ hg rfl hd (by simp) (fun a w ha => by simp [execOp, ha.1.ev hx, ha.1.ev hy, eqGuard, binOp, Op.intCmp, Result.andThen]) k
theorem EL.gtr (hg : guardOk all E g = some true) (hx : E.ev x = some (.int kd m)) (hy : E.ev y = some (.int kd n)) (hd : Nat.blt d C.n = true) (k : EL C all ops Q ((d, .bool (decide (n < m))) :: E) H) : EL C all (⟨some d, .binOp .gtr t x y t', ty, pos, af, g⟩ :: ops) Q E H :=
  EL.val _ hg rfl hd (by simp) (fun a w ha => by simp [execOp, ha.1.ev hx, ha.1.ev hy, eqGuard, binOp, Op.intCmp, Result.andThen]) k
theorem EL.geq (hg : guardOk all E g = some true) (hx : E.ev x = some (.int kd m)) (hy : E.ev y = some (.int kd n)) (hd : Nat.blt d C.n = true) (k : EL C all ops Q ((d, .bool (decide (n ≤ m))) :: E) H) : EL C all (⟨some d, .binOp .geq t x y t', ty, pos, af, g⟩ :: ops) Q E H :=
  EL.val _ hg rfl hd (by simp) (fun a w ha => by simp [execOp, ha.1.ev hx, ha.1.ev hy, eqGuard, binOp, Op.intCmp, Result.andThen]) k
theorem EL.eqlI (hg : guardOk all E g = some true) (hx : E.ev x = some (.int kd m)) (hy : E.ev y = some (.int kd n)) (hd : Nat.blt d C.n = true) (k : EL C all ops Q ((d, .bool (decide (m = n))) :: E) H) : EL C all (⟨some d, .binOp .eql t x y t', ty, pos, af, g⟩ :: ops) Q E H :=
  EL.val _ hg rfl hd (by simp) (fun a w ha => by simp [execOp, ha.1.ev hx, ha.1.ev hy, eqGuard, binOp, Op.intCmp, Result.andThen]; rfl) k
theorem EL.neqI (hg : guardOk all E g = some true) (hx : E.ev x = some (.int kd m)) (hy : E.ev y = some (.int kd n)) (hd : Nat.blt d C.n = true) (k : EL C all ops Q ((d, .bool (!decide (m = n))) :: E) H) : EL C all (⟨some d, .binOp .neq t x y t', ty, pos, af, g⟩ :: ops) Q E H :=
  EL.val _ hg rfl hd (by simp) (fun a w ha => by simp [execOp, ha.1.ev hx, ha.1.ev hy, eqGuard, binOp, Op.intCmp, Result.andThen]; rfl) k
theorem EL.bits {op : BinOp} (hop : (match op with | .and | .or | .xor | .andNot => true | _ => false) = true) (r : Value) (hg : guardOk all E g = some true) (hx : E.ev x = some (.int kd m)) (hy : E.ev y = some (.int kd n)) (hd : Nat.blt d C.n = true)
    (hr : ∀ w, (Op.intBits op kd m n).run C.P w = .ok r w) (k : EL C all ops Q ((d, r) :: E) H) : EL C all (⟨some d, .binOp op t x y t', ty, pos, af, g⟩ :: ops) Q E H :=
  EL.val _ hg rfl hd (by simp) (fun a w ha => by
    cases op <;> first | (cases hop; done) | simp [execOp, ha.1.ev hx, ha.1.ev hy, eqGuard, binOp, hr, Result.andThen]) k

/-! strings -/
variable {l l' : List UInt8}
theorem size_sv (l : List UInt8) : (⟨l.toArray⟩ : ByteArray).size = l.length := rfl
theorem append_sv (l l' : List UInt8) : (⟨l.toArray⟩ : ByteArray) ++ ⟨l'.toArray⟩ = ⟨(l ++ l').toArray⟩ := by
  apply ByteArray.ext
  rw [ByteArray.data_append]
  simp
theorem get_sv (l : List UInt8) (i : Nat) (h : i < l.length) : (⟨l.toArray⟩ : ByteArray)[i]? = some (l.getD i 0) := by
  rw [ByteArray.getElem?_lt' _ _ h]
  simp [List.getD_eq_getElem?_getD, List.getElem?_eq_getElem h]
  rfl
theorem extract_sv (l : List UInt8) (a b : Nat) : (⟨l.toArray⟩ : ByteArray).extract a b = ⟨((l.drop a).take (b - a)).toArray⟩ := Lib.extract_eq _ a b
theorem beq_dec (l l' : List UInt8) : (l == l') = decide (l = l') := by
  by_cases h : l = l' <;> simp [h]
theorem EL.lenS {ti : TI} (hg : guardOk all E g = some true) (hx : E.ev x = some (Sv l)) (ht : C.T.f t = some ti) (hu : ti.u = .string) (hd : Nat.blt d C.n = true) (k : EL C all ops Q ((d, Iv (l.length : Nat)) :: E) H) : EL C all (⟨some d, .call { callee := .builtin .len, args := #[x], argTypes := #[t] }, ty, pos, af, g⟩ :: ops) Q E H :=
  EL.val _ hg rfl hd (by simp) (fun a w ha => by
    have hT := (C.T.ok t ti ht).u
    rw [hu] at hT
    simp [execOp, ha.1.ev hx, resolve, invoke, builtin, Builtin.len_, run_underlying hT, Result.andThen, goInt, size_sv]) k
theorem EL.lenL {ti : TI} {e : TypeId} {ad : Option Addr} {n c : Nat} (hg : guardOk all E g = some true) (hx : E.ev x = some (.slice ad n c)) (ht : C.T.f t = some ti) (hu : ti.u = .slice e) (hd : Nat.blt d C.n = true) (k : EL C all ops Q ((d, Iv (n : Nat)) :: E) H) : EL C all (⟨some d, .call { callee := .builtin .len, args := #[x], argTypes := #[t] }, ty, pos, af, g⟩ :: ops) Q E H :=
  EL.val _ hg rfl hd (by simp) (fun a w ha => by
    have hT := (C.T.ok t ti ht).u
    rw [hu] at hT
    simp [execOp, ha.1.ev hx, resolve, invoke, builtin, Builtin.len_, run_underlying hT, Result.andThen, goInt]) k
theorem EL.cat (hg : guardOk all E g = some true) (hx : E.ev x = some (Sv l)) (hy : E.ev y = some (Sv l')) (hd : Nat.blt d C.n = true) (hs : l.length + l'.length ≤ 9223372036854775807) (k : EL C all ops Q ((d, Sv (l ++ l')) :: E) H) : EL C all (⟨some d, .binOp .add t x y t', ty, pos, af, g⟩ :: ops) Q E H :=
  EL.val _ hg rfl hd (by simp) (fun a w ha => by
    have h1 : ¬ (9223372036854775807 : Int) < (l.length : Int) + (l'.length : Int) := by omega
    simp [execOp, ha.1.ev hx, ha.1.ev hy, eqGuard, binOp, Op.stringOp, size_sv, append_sv, Result.andThen, h1]) k
theorem EL.eqlS (hg : guardOk all E g = some true) (hx : E.ev x = some (Sv l)) (hy : E.ev y = some (Sv l')) (hd : Nat.blt d C.n = true) (k : EL C all ops Q ((d, .bool (decide (l = l'))) :: E) H) : EL C all (⟨some d, .binOp .eql t x y t', ty, pos, af, g⟩ :: ops) Q E H :=
  EL.val _ hg rfl hd (by simp) (fun a w ha => by simp [execOp, ha.1.ev hx, ha.1.ev hy, eqGuard, binOp, Op.stringOp, Result.andThen, beq_dec]) k
theorem EL.neqS (hg : guardOk all E g = some true) (hx : E.ev x = some (Sv l)) (hy : E.ev y = some (Sv l')) (hd : Nat.blt d C.n = true) (k : EL C all ops Q ((d, .bool (!decide (l = l'))) :: E) H) : EL C all (⟨some d, .binOp .neq t x y t', ty, pos, af, g⟩ :: ops) Q E H :=
  EL.val _ hg rfl hd (by simp) (fun a w ha => by simp [execOp, ha.1.ev hx, ha.1.ev hy, eqGuard, binOp, Op.stringOp, Result.andThen, beq_dec]) k
theorem EL.indexS {i : Int} {ti : TI} (hg : guardOk all E g = some true) (hx : E.ev x = some (Sv l)) (hy : E.ev y = some (.int kd i)) (ht : C.T.f t = some ti) (hu : ti.u = .string) (hd : Nat.blt d C.n = true) (h0 : 0 ≤ i) (h1 : i < l.length)
    (k : EL C all ops Q ((d, Uv (l.getD i.toNat 0)) :: E) H) : EL C all (⟨some d, .index t x y, ty, pos, af, g⟩ :: ops) Q E H :=
  EL.val _ hg rfl hd (by simp) (fun a w ha => by
    have hT := (C.T.ok t ti ht).u
    have hl : i.toNat < l.length := by omega
    simp [execOp, ha.1.ev hx, ha.1.ev hy, Instr.index, asIntOf, run_underlying hT, hu, h0, get_sv l _ hl, Result.andThen]) k
theorem EL.indexSN {i : Nat} {ti : TI} (hg : guardOk all E g = some true) (hx : E.ev x = some (Sv l)) (hy : E.ev y = some (.int kd (i : Nat))) (ht : C.T.f t = some ti) (hu : ti.u = .string) (hd : Nat.blt d C.n = true) (h1 : i < l.length)
    (k : EL C all ops Q ((d, Uv (l.getD i 0)) :: E) H) : EL C all (⟨some d, .index t x y, ty, pos, af, g⟩ :: ops) Q E H :=
  EL.indexS hg hx hy ht hu hd (by omega) (by omega) k
def bnd (E : Env) (dflt : Nat) (o : Option Operand) (n : Nat) : Prop := match o with | none => n = dflt | some x => ∃ kd, E.ev x = some (.int kd (n : Int))
/-- s[lo:hi] of a string. -/
theorem EL.sliceS {lo hi : Option Operand} {m n : Nat} {ti : TI} (hg : guardOk all E g = some true) (hx : E.ev x = some (Sv l)) (ht : C.T.f t = some ti) (hu : ti.u = .string) (hd : Nat.blt d C.n = true)
    (hlo : bnd E 0 lo m) (hhi : bnd E l.length hi n) (h0 : m ≤ n) (h1 : n ≤ l.length)
    (k : EL C all ops Q ((d, Sv ((l.drop m).take (n - m))) :: E) H) : EL C all (⟨some d, .slice t x lo hi none, ty, pos, af, g⟩ :: ops) Q E H :=
  EL.val _ hg rfl hd (by simp) (fun a w ha => by
    have hT := (C.T.ok t ti ht).u
    cases lo with
    | none =>
      cases hi with
      | none =>
        obtain rfl : m = 0 := hlo
        obtain rfl : n = l.length := hhi
        simp [execOp, ha.1.ev hx, Instr.sliceAt, Instr.slice, Instr.sliceBounds, run_underlying hT, hu, Result.andThen, extract_sv, size_sv]
      | some hi =>
        obtain rfl : m = 0 := hlo
        obtain ⟨kd, hhi⟩ := hhi
        simp [execOp, ha.1.ev hx, ha.1.ev hhi, Instr.sliceAt, Instr.slice, Instr.sliceBounds, Instr.sliceBound, asIntOf, run_underlying hT, hu, Result.andThen, extract_sv, size_sv, h1]
    | some lo =>
      obtain ⟨kd, hlo⟩ := hlo
      cases hi with
      | none =>
        obtain rfl : n = l.length := hhi
        simp [execOp, ha.1.ev hx, ha.1.ev hlo, Instr.sliceAt, Instr.slice, Instr.sliceBounds, Instr.sliceBound, asIntOf, run_underlying hT, hu, Result.andThen, extract_sv, size_sv, h0]
      | some hi =>
        obtain ⟨kd', hhi⟩ := hhi
        simp [execOp, ha.1.ev hx, ha.1.ev hlo, ha.1.ev hhi, Instr.sliceAt, Instr.slice, Instr.sliceBounds, Instr.sliceBound, asIntOf, run_underlying hT, hu, Result.andThen, extract_sv, size_sv, h0, h1]) k
/-! bools, conversions between integers -/
theorem EL.convI {kd' : IntKind} {ti ts : TI} (r : Int) (hg : guardOk all E g = some true) (hx : E.ev x = some (.int kd m)) (ht : C.T.f t' = some ti) (hu : ti.u = .int kd') (hT0 : C.T.f t = some ts) (hd : Nat.blt d C.n = true) (hr : kd'.wrap m = r)
    (k : EL C all ops Q ((d, .int kd' r) :: E) H) : EL C all (⟨some d, .convert t t' x, ty, pos, af, g⟩ :: ops) Q E H :=
  EL.val _ hg rfl hd (by simp) (fun a w ha => by
    have hT := (C.T.ok t' ti ht).u
    rw [hu] at hT
    have hs := (C.T.ok t ts hT0).u
    subst hr
    simp [execOp, ha.1.ev hx, convert, run_underlying hT, run_underlying hs, Conv.intToInt, Result.andThen]) k
end pure_ops

/-! ### Memory -/
section mem
variable {C : Cx} {all : Array Oper} {ops : List Oper} {Q : Qt} {E : Env} {H H' : List HA} {d ty : Nat} {pos : String} {af : Array Edge} {gd : Option (Nat × Bool)} {x y z : Operand} {v u : Value} {t e g off : Nat}
theorem add_zero' (g off : Nat) : (⟨g, off, none⟩ : Addr).add 0 = ⟨g, off, none⟩ := by simp [Addr.add]
theorem add_n (g off n : Nat) : (⟨g, off, none⟩ : Addr).add n = ⟨g, off + n, none⟩ := by unfold Addr.add; split <;> simp_all

/-- A new variable: its block has a number that nobody knew. -/
theorem EL.box (hg : guardOk all E gd = some true) (hx : E.ev x = some v) (hd : Nat.blt d C.n = true) (k : ∀ g, EL C all ops Q ((d, Pv g 0) :: E) (HA.blk g (.cells v.cells e (0, 0)) :: H)) :
    EL C all (⟨some d, .box e x, ty, pos, af, gd⟩ :: ops) Q E H := by
  intro a w ha
  simp only [wpListIn, guardOk_wanted (o := ⟨some d, .box e x, ty, pos, af, gd⟩) hg ha.1, if_true]
  refine ⟨fun _ _ => trivial, ?_⟩
  rw [sem_plain (by simp)]
  have hr : (execOp a.eval ⟨some d, .box e x, ty, pos, af, gd⟩).run C.P w = .ok (.value (Pv w.heap.size 0)) (w.alloc (.cells v.cells e)) := by
    simp [execOp, ha.1.ev hx, Instr.box, newVar, newRow, Result.andThen]
  rw [hr]
  exact k w.heap.size _ _ ⟨ha.1.put (by simpa using hd) _, ha.2.alloc _⟩
theorem EL.alloc {ti : TI} (hg : guardOk all E gd = some true) (ht : C.T.f e = some ti) (hd : Nat.blt d C.n = true) (k : ∀ g, EL C all ops Q ((d, Pv g 0) :: E) (HA.blk g (.cells ti.zero.cells e (0, 0)) :: H)) :
    EL C all (⟨some d, .alloc e, ty, pos, af, gd⟩ :: ops) Q E H := by
  intro a w ha
  simp only [wpListIn, guardOk_wanted (o := ⟨some d, .alloc e, ty, pos, af, gd⟩) hg ha.1, if_true]
  refine ⟨fun _ _ => trivial, ?_⟩
  rw [sem_plain (by simp)]
  have hT := ((C.T.ok e ti ht).runInfo w).2.1
  have hr : (execOp a.eval ⟨some d, .alloc e, ty, pos, af, gd⟩).run C.P w = .ok (.value (Pv w.heap.size 0)) (w.alloc (.cells ti.zero.cells e)) := by
    simp [execOp, Instr.alloc, newVar, newRow, hT, Result.andThen]
  rw [hr]
  exact k w.heap.size _ _ ⟨ha.1.put (by simpa using hd) _, ha.2.alloc _⟩
theorem EL.nilCheck {ad : Addr} (hg : guardOk all E gd = some true) (hx : E.ev x = some (.pointer (some ad))) (hd : Nat.blt d C.n = true) (k : EL C all ops Q ((d, .pointer (some ad)) :: E) H) : EL C all (⟨some d, .nilCheck x, ty, pos, af, gd⟩ :: ops) Q E H :=
  EL.val _ hg rfl hd (by simp) (fun a w ha => by simp [execOp, ha.1.ev hx]) k
/-- The place of a field. -/
theorem EL.fieldAddr {ti tf : TI} {fs : Array Field} {i : Nat} {f : Field} (hg : guardOk all E gd = some true) (hx : E.ev x = some (Pv g off)) (ht : C.T.f t = some ti) (hu : ti.u = .struct fs) (hf : fs[i]? = some f)
    (htf : C.T.f f.type = some tf) (hsz : Nat.beq tf.size 0 = false) (hd : Nat.blt d C.n = true) (k : EL C all ops Q ((d, Pv g (off + f.offset)) :: E) H) : EL C all (⟨some d, .fieldAddr t x i, ty, pos, af, gd⟩ :: ops) Q E H :=
  EL.val _ hg rfl hd (by simp) (fun a w ha => by
    have hT := (C.T.ok t ti ht).u
    rw [hu] at hT
    have hs := ((C.T.ok _ tf htf).runInfo w).1
    have hz : tf.size ≠ 0 := fun e => by rw [e] at hsz; cases hsz
    simp [execOp, ha.1.ev hx, Instr.fieldAt, run_underlying hT, hf, Instr.sureAddr, fieldPlace, hs, hz, Result.andThen, add_n]) k
/-- The place of an element: of an array, of a slice. -/
theorem EL.indexAddrA {ti te : TI} {len : Nat} {el : TypeId} {kd : IntKind} {i : Nat} (hg : guardOk all E gd = some true) (hx : E.ev x = some (Pv g off)) (hy : E.ev y = some (.int kd (i : Nat))) (ht : C.T.f t = some ti) (hu : ti.u = .array len el)
    (hte : C.T.f el = some te) (hd : Nat.blt d C.n = true) (hi : i < len) (k : EL C all ops Q ((d, Pv g (off + i * te.size)) :: E) H) : EL C all (⟨some d, .indexAddr t x y, ty, pos, af, gd⟩ :: ops) Q E H :=
  EL.val _ hg rfl hd (by simp) (fun a w ha => by
    have hT := (C.T.ok t ti ht).u
    rw [hu] at hT
    have hs := ((C.T.ok _ te hte).runInfo w).1
    have h1 : (0 : Int) ≤ (i : Int) ∧ (i : Int) < (len : Int) := by omega
    simp [execOp, ha.1.ev hx, ha.1.ev hy, Instr.indexAt, run_underlying hT, asIntOf, Instr.sureAddr, hs, hi, Result.andThen, add_n]) k
theorem EL.indexAddrL {ti te : TI} {len cap : Nat} {el : TypeId} {kd : IntKind} {i : Nat} (hg : guardOk all E gd = some true) (hx : E.ev x = some (.slice (some ⟨g, off, none⟩) len cap)) (hy : E.ev y = some (.int kd (i : Nat))) (ht : C.T.f t = some ti) (hu : ti.u = .slice el)
    (hte : C.T.f el = some te) (hd : Nat.blt d C.n = true) (hi : i < len) (k : EL C all ops Q ((d, Pv g (off + i * te.size)) :: E) H) : EL C all (⟨some d, .indexAddr t x y, ty, pos, af, gd⟩ :: ops) Q E H :=
  EL.val _ hg rfl hd (by simp) (fun a w ha => by
    have hT := (C.T.ok t ti ht).u
    rw [hu] at hT
    have hs := ((C.T.ok _ te hte).runInfo w).1
    simp [execOp, ha.1.ev hx, ha.1.ev hy, Instr.indexAt, run_underlying hT, asIntOf, Instr.sureAddr, hs, hi, Result.andThen, add_n]) k

/-! loads -/
theorem EL.load {ti : TI} {ad : Addr} (hg : guardOk all E gd = some true) (hx : E.ev x = some (.pointer (some ad))) (ht : C.T.f t = some ti) (hu : ti.agg = false) (hd : Nat.blt d C.n = true) (hc : ∀ w, Sat C.w0 C.B H w → w.cell? ad = some v)
    (k : EL C all ops Q ((d, v) :: E) H) : EL C all (⟨some d, .load t x, ty, pos, af, gd⟩ :: ops) Q E H :=
  EL.val _ hg rfl hd (by simp) (fun a w ha => by
    have hT := ((C.T.ok t ti ht).runInfo w).2.2.2
    simp [execOp, ha.1.ev hx, Instr.loadAt, Instr.sureAddr, loadVar, hT, hu, hc w ha.2, Result.andThen]) k
theorem blk_cell {w : World} {cs : Array Value} {fr : Nat × Nat} (h : w.heap[g]? = some (.cells cs e fr)) (i : Nat) : w.cell? ⟨g, i, none⟩ = cs[i]? := by simp [World.cell?, h]
theorem EL.loadB {ti : TI} {cs : Array Value} {fr : Nat × Nat} (hg : guardOk all E gd = some true) (hx : E.ev x = some (Pv g off)) (ht : C.T.f t = some ti) (hu : ti.agg = false) (hd : Nat.blt d C.n = true) (hm : Mem H (HA.blk g (.cells cs e fr))) (hc : cs[off]? = some v)
    (k : EL C all ops Q ((d, v) :: E) H) : EL C all (⟨some d, .load t x, ty, pos, af, gd⟩ :: ops) Q E H :=
  EL.load hg hx ht hu hd (fun w hs => (blk_cell (hs.all _ hm.mem) off).trans hc) k
theorem row_cell {w : World} {len cap sz n : Nat} {cs : List Value} (h : w.ownsRow 0 e sz (.slice (some ⟨g, 0, none⟩) len cap) n cs) (i : Nat) (u : Value) (hc : cs[i]? = some u) : w.cell? ⟨g, i, none⟩ = some u := by
  have := h.cells (g := g) rfl i u hc
  rwa [add_n, Nat.zero_add] at this
theorem EL.loadR {ti : TI} {len cap sz n : Nat} {cs : List Value} (hg : guardOk all E gd = some true) (hx : E.ev x = some (Pv g off)) (ht : C.T.f t = some ti) (hu : ti.agg = false) (hd : Nat.blt d C.n = true) (hm : Mem H (HA.row (.slice (some ⟨g, 0, none⟩) len cap) e sz n cs)) (hc : cs[off]? = some v)
    (k : EL C all ops Q ((d, v) :: E) H) : EL C all (⟨some d, .load t x, ty, pos, af, gd⟩ :: ops) Q E H :=
  EL.load hg hx ht hu hd (fun w hs => row_cell (hs.all _ hm.mem) off v hc) k
/-- A whole struct or array out of memory. -/
theorem EL.loadAgg {ti : TI} {ad : Addr} {cs : List Value} (hg : guardOk all E gd = some true) (hx : E.ev x = some (.pointer (some ad))) (ht : C.T.f t = some ti) (hu : ti.agg = true) (hl : ti.size = cs.length) (hd : Nat.blt d C.n = true)
    (hc : ∀ w, Sat C.w0 C.B H w → ∀ j u, cs[j]? = some u → w.cell? (ad.add j) = some u) (k : EL C all ops Q ((d, .agg cs.toArray) :: E) H) : EL C all (⟨some d, .load t x, ty, pos, af, gd⟩ :: ops) Q E H :=
  EL.val _ hg rfl hd (by simp) (fun a w ha => by
    have hT := ((C.T.ok t ti ht).runInfo w)
    have hl' := run_loadCells_list (P := C.P) w ad cs (hc w ha.2)
    simp [execOp, ha.1.ev hx, Instr.loadAt, Instr.sureAddr, loadVar, hT.2.2.2, hu, hT.1, hl, hl', Result.andThen]) k
theorem EL.loadAggB {ti : TI} {cs : Array Value} {fr : Nat × Nat} (hg : guardOk all E gd = some true) (hx : E.ev x = some (Pv g 0)) (ht : C.T.f t = some ti) (hu : ti.agg = true) (hd : Nat.blt d C.n = true) (hm : Mem H (HA.blk g (.cells cs e fr))) (hl : ti.size = cs.size)
    (k : EL C all ops Q ((d, .agg cs) :: E) H) : EL C all (⟨some d, .load t x, ty, pos, af, gd⟩ :: ops) Q E H :=
  EL.loadAgg (cs := cs.toList) hg hx ht hu (by simpa using hl) hd (fun w hs j u hj => by rw [add_n, Nat.zero_add, blk_cell (hs.all _ hm.mem)]; simpa using hj) (by simpa using k)
/-! stores -/
theorem run_store1 {w : World} {cs : Array Value} (h : w.heap[g]? = some (.cells cs e (0, 0))) (P : Program) (hv : v.oneCell' = true) (hi : off < cs.size) : (store ⟨g, off, none⟩ v).run P w = .ok () (w.setCell ⟨g, off, none⟩ v) := by
  rw [run_store P w _ v _ hv]
  rw [blk_cell h off, Array.getElem?_eq_getElem hi]
  have : w.frozen? ⟨g, off, none⟩ = false := by simp [World.frozen?, h]
  simp [this]
theorem cells_one (hv : v.oneCell' = true) : v.cells = #[v] := by cases v <;> simp_all [Value.cells, Value.oneCell']
theorem setCell_blk {w : World} {cs : Array Value} (h : w.heap[g]? = some (.cells cs e (0, 0))) (u : Value) : (w.setCell ⟨g, off, none⟩ u).heap[g]? = some (.cells (cs.setIfInBounds off u) e (0, 0)) := by
  have hlt := (Array.getElem?_eq_some_iff.1 h).1
  simp [World.setCell, Array.getElem?_modify, h]
theorem Sat.setBlk {w0 : World} {B : Nat} {w : World} {cs : Array Value} (hs : Sat w0 B H w) (p : PickSet H (HA.blk g (.cells cs e (0, 0))) (HA.blk g (.cells (cs.setIfInBounds off u) e (0, 0))) H') : Sat w0 B H' (w.setCell ⟨g, off, none⟩ u) := by
  obtain ⟨R, p1, p2⟩ := p.split
  have h1 := hs.perm p1
  have hb : w.heap[g]? = some (.cells cs e (0, 0)) := h1.head
  refine Sat.perm (H := HA.blk g (.cells (cs.setIfInBounds off u) e (0, 0)) :: R) ?_ p2.symm
  refine h1.step rfl rfl rfl (by simp [World.setCell]) (fun k _ hk => Below.heap_setCell w _ u k (by simpa [HA.blk] using hk)) (setCell_blk hb u) (fun g' hg' => ?_) (by simp [HA.blk])
  simp only [HA.blk, List.mem_singleton] at hg'
  subst hg'
  exact ⟨by simpa [World.setCell] using (Array.getElem?_eq_some_iff.1 hb).1, .inl (by simp [HA.blk])⟩
theorem EL.storeB {ti : TI} {cs : Array Value} (hg : guardOk all E gd = some true) (hx : E.ev x = some (Pv g off)) (hy : E.ev y = some u) (hu : u.oneCell' = true) (ht : C.T.f t = some ti) (hsz : Nat.beq ti.size 1 = true)
    (p : PickSet H (HA.blk g (.cells cs e (0, 0))) (HA.blk g (.cells (cs.setIfInBounds off u) e (0, 0))) H') (hi : off < cs.size) (k : EL C all ops Q E H') : EL C all (⟨none, .store t x y, ty, pos, af, gd⟩ :: ops) Q E H :=
  EL.unit hg rfl (by simp) (fun a w ha => by
    have hT := ((C.T.ok t ti ht).runInfo w)
    have hb : w.heap[g]? = some (.cells cs e (0, 0)) := by
      obtain ⟨R, p1, p2⟩ := p.split
      exact (ha.2.perm p1).head
    have hz : ti.size = 1 := Nat.eq_of_beq_eq_true hsz
    refine ⟨_, ?_, ha.2.setBlk p⟩
    simp [execOp, ha.1.ev hx, ha.1.ev hy, Instr.storeAt, Instr.sureAddr, storeVar, hT.1, hz, cells_one hu, storeCells, add_zero', run_store1 hb C.P hu hi, Result.andThen]) k
end mem
end Go.Proofs.YtgoopgnnkhpmlaaDoor.Sl
