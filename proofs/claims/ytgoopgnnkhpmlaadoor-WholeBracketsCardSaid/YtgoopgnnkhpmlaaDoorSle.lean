/- THE BASE, fifth part: tables. -/
import Derived.Test.YtgoopgnnkhpmlaaDoorSld
namespace Go.Proofs.YtgoopgnnkhpmlaaDoor.Sl
open Go Go.RowKit
set_option linter.unusedVariables false
set_option linter.unusedSimpArgs false
def tget : List (Nat × TI) → Nat → Option TI
  | [], _ => none
  | (k, v) :: r, d => bif Nat.beq k d then some v else tget r d
def AllOk (P : Program) : List (Nat × TI) → Prop
  | [] => True
  | (k, v) :: r => TyOk P k v ∧ AllOk P r
theorem AllOk.get {P : Program} : ∀ {l : List (Nat × TI)}, AllOk P l → ∀ t ti, tget l t = some ti → TyOk P t ti
  | [], _, t, ti, h => by simp [tget] at h
  | (k, v) :: r, ho, t, ti, h => by
    simp only [tget] at h
    cases hb : Nat.beq k t with
    | true =>
      rw [hb] at h
      obtain rfl := Nat.eq_of_beq_eq_true hb
      simp only [cond_true, Option.some.injEq] at h
      subst h
      exact ho.1
    | false =>
      rw [hb] at h
      exact ho.2.get t ti h
def tabOf {P : Program} (l : List (Nat × TI)) (h : AllOk P l) : TyTab P := ⟨tget l, fun t ti ht => h.get t ti ht⟩

section more
variable {C : Cx} {all : Array Oper} {ops : List Oper} {Q : Qt} {E : Env} {H H' : List HA} {d ty : Nat} {pos : String} {af : Array Edge} {g : Option (Nat × Bool)} {x y z : Operand} {v u : Value} {t t' : Nat}
theorem wrap_i64 (n : Int) (h0 : -9223372036854775808 ≤ n) (h1 : n ≤ 9223372036854775807) : IntKind.i64.wrap n = n := IntWalk.i64_in _ ⟨h0, h1⟩
theorem EL.addN {m n : Nat} (hg : guardOk all E g = some true) (hx : E.ev x = some (Iv (m : Nat))) (hy : E.ev y = some (Iv (n : Nat))) (hd : Nat.blt d C.n = true) (h0 : True = True) (hr : m + n ≤ 9223372036854775807) (k : EL C all ops Q ((d, Iv ((m + n : Nat) : Int)) :: E) H) : EL C all (⟨some d, .binOp .add t x y t', ty, pos, af, g⟩ :: ops) Q E H :=
  EL.add _ hg hx hy hd (by rw [wrap_i64 _ (by omega) (by omega)]; omega) k
theorem EL.add1 {m : Nat} (hg : guardOk all E g = some true) (hx : E.ev x = some (Iv (m : Nat))) (hy : E.ev y = some (Iv 1)) (hd : Nat.blt d C.n = true) (hr : m + 1 ≤ 9223372036854775807) (k : EL C all ops Q ((d, Iv ((m + 1 : Nat) : Int)) :: E) H) : EL C all (⟨some d, .binOp .add t x y t', ty, pos, af, g⟩ :: ops) Q E H :=
  EL.add _ hg hx hy hd (by rw [wrap_i64 _ (by omega) (by omega)]; omega) k
theorem EL.sub1 {m : Nat} (hg : guardOk all E g = some true) (hx : E.ev x = some (Iv (m : Nat))) (hy : E.ev y = some (Iv 1)) (hd : Nat.blt d C.n = true) (hr : 1 ≤ m) (hm : m ≤ 9223372036854775807) (k : EL C all ops Q ((d, Iv ((m - 1 : Nat) : Int)) :: E) H) : EL C all (⟨some d, .binOp .sub t x y t', ty, pos, af, g⟩ :: ops) Q E H :=
  EL.sub_ _ hg hx hy hd (by rw [wrap_i64 _ (by omega) (by omega)]; omega) k
theorem EL.subN {m n : Nat} (hg : guardOk all E g = some true) (hx : E.ev x = some (Iv (m : Nat))) (hy : E.ev y = some (Iv (n : Nat))) (hd : Nat.blt d C.n = true) (h0 : True = True) (hr : n ≤ m) (hm : m ≤ 9223372036854775807) (k : EL C all ops Q ((d, Iv ((m - n : Nat) : Int)) :: E) H) : EL C all (⟨some d, .binOp .sub t x y t', ty, pos, af, g⟩ :: ops) Q E H :=
  EL.sub_ _ hg hx hy hd (by rw [wrap_i64 _ (by omega) (by omega)]; omega) k
theorem EL.remN {m n : Nat} {kd : IntKind} (hg : guardOk all E g = some true) (hx : E.ev x = some (.int kd (m : Nat))) (hy : E.ev y = some (.int kd (n : Nat))) (hd : Nat.blt d C.n = true) (h0 : 0 < n) (k : EL C all ops Q ((d, .int kd ((m % n : Nat) : Int)) :: E) H) : EL C all (⟨some d, .binOp .rem t x y t', ty, pos, af, g⟩ :: ops) Q E H :=
  EL.val _ hg rfl hd (by simp) (fun a w ha => by
    have h1 : (n : Int) ≠ 0 := by omega
    have h2 : ((m : Int).tmod n) = ((m % n : Nat) : Int) := by rw [Int.tmod_eq_emod_of_nonneg (by omega)]; omega
    have h3 : n ≠ 0 := by omega
    simp [execOp, ha.1.ev hx, ha.1.ev hy, eqGuard, binOp, Op.intDiv, Result.andThen, h1, h2, h3]) k
theorem EL.quoN {m n : Nat} (hg : guardOk all E g = some true) (hx : E.ev x = some (Iv (m : Nat))) (hy : E.ev y = some (Iv (n : Nat))) (hd : Nat.blt d C.n = true) (h0 : 0 < n) (hm : m ≤ 9223372036854775807) (k : EL C all ops Q ((d, Iv ((m / n : Nat) : Int)) :: E) H) : EL C all (⟨some d, .binOp .quo t x y t', ty, pos, af, g⟩ :: ops) Q E H :=
  EL.val _ hg rfl hd (by simp) (fun a w ha => by
    have h1 : (n : Int) ≠ 0 := by omega
    have h3 : m / n ≤ m := Nat.div_le_self _ _
    have h2 : IntKind.i64.wrap ((m : Int).tdiv n) = ((m / n : Nat) : Int) := by
      rw [Int.tdiv_eq_ediv_of_nonneg (by omega), ← Int.natCast_ediv]
      generalize m / n = q at h3
      exact wrap_i64 _ (by omega) (by omega)
    have h4 : n ≠ 0 := by omega
    have h5 : IntKind.i64.wrap ((m : Int) / (n : Int)) = (m : Int) / (n : Int) := by rw [Int.tdiv_eq_ediv_of_nonneg (by omega)] at h2; simpa using h2
    simp [execOp, ha.1.ev hx, ha.1.ev hy, eqGuard, binOp, Op.intDiv, Result.andThen, h1, h5, h4]) k
theorem EL.mulN {m n : Nat} (hg : guardOk all E g = some true) (hx : E.ev x = some (Iv (m : Nat))) (hy : E.ev y = some (Iv (n : Nat))) (hd : Nat.blt d C.n = true) (h0 : True = True) (hr : m * n ≤ 9223372036854775807) (k : EL C all ops Q ((d, Iv ((m * n : Nat) : Int)) :: E) H) : EL C all (⟨some d, .binOp .mul t x y t', ty, pos, af, g⟩ :: ops) Q E H :=
  EL.mul _ hg hx hy hd (by rw [← Int.natCast_mul]; generalize m * n = q at *; exact wrap_i64 _ (by omega) (by omega)) k
theorem run_equal_bool {P : Program} {t : Nat} (hT : P.underlying t = some .bool) (b c : Bool) (w : World) : (Op.equal t (.bool b) (.bool c)).run P w = .ok (b == c) w := by
  have key : ∀ d, (Op.equalIn (d + 1) t (.bool b) (.bool c)).run P w = .ok (b == c) w := fun d => by
    simp only [Op.equalIn, Sem.run_bind, run_underlying hT, Result.andThen, Sem.run_pure]
  exact key 9999
theorem EL.eqlB {b c : Bool} {ti : TI} (hg : guardOk all E g = some true) (hx : E.ev x = some (.bool b)) (hy : E.ev y = some (.bool c)) (ht : C.T.f t = some ti) (hu : ti.u = .bool) (hd : Nat.blt d C.n = true) (k : EL C all ops Q ((d, .bool (b == c)) :: E) H) : EL C all (⟨some d, .binOp .eql t x y t', ty, pos, af, g⟩ :: ops) Q E H :=
  EL.val _ hg rfl hd (by simp) (fun a w ha => by
    have hT := (C.T.ok t ti ht).u
    rw [hu] at hT
    simp only [execOp, ha.1.ev hx, ha.1.ev hy, eqGuard, binOp, Sem.run_bind, Sem.run_pure, run_equal_bool hT, Result.andThen]
    rfl) k
theorem EL.neqB {b c : Bool} {ti : TI} (hg : guardOk all E g = some true) (hx : E.ev x = some (.bool b)) (hy : E.ev y = some (.bool c)) (ht : C.T.f t = some ti) (hu : ti.u = .bool) (hd : Nat.blt d C.n = true) (k : EL C all ops Q ((d, .bool (!(b == c))) :: E) H) : EL C all (⟨some d, .binOp .neq t x y t', ty, pos, af, g⟩ :: ops) Q E H :=
  EL.val _ hg rfl hd (by simp) (fun a w ha => by
    have hT := (C.T.ok t ti ht).u
    rw [hu] at hT
    simp only [execOp, ha.1.ev hx, ha.1.ev hy, eqGuard, binOp, Sem.run_bind, Sem.run_pure, run_equal_bool hT, Result.andThen]
    rfl) k
theorem PickSet.same {A : HA} : ∀ {H H' : List HA}, PickSet H A A H' → H' = H
  | _, _, .here _ _ _ => rfl
  | _, _, .there p => by rw [PickSet.same p]
/-- A row's cells written otherwise. -/
theorem ES.rowEq {cds : List Code} {e sz n : Nat} {cs cs' : List Value} (p : PickSet H (HA.row v e sz n cs) (HA.row v e sz n cs') H') (h : cs = cs') (k : ES C cds Q E H') : ES C cds Q E H := by
  subst h
  exact p.same ▸ k
theorem EL.rowEq {e sz n : Nat} {cs cs' : List Value} (p : PickSet H (HA.row v e sz n cs) (HA.row v e sz n cs') H') (h : cs = cs') (k : EL C all ops Q E H') : EL C all ops Q E H := by
  subst h
  exact p.same ▸ k
theorem EL.indexAddrA1 {ti te : TI} {len gb : Nat} {el : TypeId} {kd : IntKind} {i : Nat} (hg : guardOk all E g = some true) (hx : E.ev x = some (Pv gb 0)) (hy : E.ev y = some (.int kd (i : Nat))) (ht : C.T.f t = some ti) (hu : ti.u = .array len el)
    (hte : C.T.f el = some te) (hsz : Nat.beq te.size 1 = true) (hd : Nat.blt d C.n = true) (hi : i < len) (k : EL C all ops Q ((d, Pv gb i) :: E) H) : EL C all (⟨some d, .indexAddr t x y, ty, pos, af, g⟩ :: ops) Q E H :=
  EL.indexAddrA hg hx hy ht hu hte hd hi (by rw [Nat.eq_of_beq_eq_true hsz, Nat.mul_one, Nat.zero_add]; exact k)
theorem EL.indexAddrL1 {ti te : TI} {len cap gb : Nat} {el : TypeId} {kd : IntKind} {i : Nat} (hg : guardOk all E g = some true) (hx : E.ev x = some (.slice (some ⟨gb, 0, none⟩) len cap)) (hy : E.ev y = some (.int kd (i : Nat))) (ht : C.T.f t = some ti) (hu : ti.u = .slice el)
    (hte : C.T.f el = some te) (hsz : Nat.beq te.size 1 = true) (hd : Nat.blt d C.n = true) (hi : i < len) (k : EL C all ops Q ((d, Pv gb i) :: E) H) : EL C all (⟨some d, .indexAddr t x y, ty, pos, af, g⟩ :: ops) Q E H :=
  EL.indexAddrL hg hx hy ht hu hte hd hi (by rw [Nat.eq_of_beq_eq_true hsz, Nat.mul_one, Nat.zero_add]; exact k)
theorem getElem?_map {α β : Type} (f : α → β) (l : List α) (i : Nat) (d0 : α) (h : i < l.length) : (l.map f)[i]? = some (f (l.getD i d0)) := by
  simp [List.getElem?_eq_getElem h, List.getD_eq_getElem?_getD]
theorem wrap_u8 (n : Nat) (h : n < 256) : IntKind.u8.wrap (n : Int) = n := by
  simp [IntKind.wrap, IntKind.signed, IntKind.bits]; omega
theorem wrap_u64 (n : Nat) (h : n < 18446744073709551616) : IntKind.u64.wrap (n : Int) = n := by
  simp [IntKind.wrap, IntKind.signed, IntKind.bits]; omega
def kmax : IntKind → Nat
  | .i8 => 127 | .i16 => 32767 | .i32 => 2147483647 | .i64 => 9223372036854775807 | .u8 => 255 | .u16 => 65535 | .u32 => 4294967295 | .u64 => 18446744073709551615
theorem wrap_of_le (kd : IntKind) (n : Nat) (h : n ≤ kmax kd) : kd.wrap (n : Int) = n := by
  cases kd <;> simp only [kmax] at h <;> simp [IntKind.wrap, IntKind.signed, IntKind.bits] <;> omega
def bigK : IntKind → Bool | .i64 | .u64 | .u32 | .i32 | .u16 | .i16 | .u8 => true | _ => false
theorem le_big8 (b : UInt8) (kd : IntKind) (h : bigK kd = true := by rfl) : b.toNat ≤ kmax kd := by
  have := b.toNat_lt
  cases kd <;> simp [kmax] <;> first | omega | (simp [bigK] at h)
theorem EL.convN {C : Cx} {all : Array Oper} {ops : List Oper} {Q : Qt} {E : Env} {H : List HA} {d ty t t' : Nat} {pos : String} {af : Array Edge} {g : Option (Nat × Bool)} {x : Operand} {kd kd' : IntKind} {n : Nat} {ti ts : TI}
    (hg : guardOk all E g = some true) (hx : E.ev x = some (.int kd (n : Nat))) (ht : C.T.f t' = some ti) (hu : ti.u = .int kd') (hT0 : C.T.f t = some ts) (hd : Nat.blt d C.n = true) (hr : n ≤ kmax kd')
    (k : EL C all ops Q ((d, .int kd' (n : Nat)) :: E) H) : EL C all (⟨some d, .convert t t' x, ty, pos, af, g⟩ :: ops) Q E H :=
  EL.convI (n : Int) hg hx ht hu hT0 hd (wrap_of_le kd' n hr) k
theorem bv8 (b : UInt8) : BitVec.ofInt 8 (b.toNat : Int) = b.toBitVec := by
  rw [BitVec.ofInt_natCast]; apply BitVec.eq_of_toNat_eq; simp
theorem or_u8 (b c : UInt8) (P : Program) (w : World) : (Op.intBits .or .u8 (b.toNat : Int) (c.toNat : Int)).run P w = .ok (Uv (b ||| c)) w := by
  simp only [Op.intBits, IntKind.bits, bv8]
  show Result.ok _ _ = _
  congr 2
  rw [wrap_u8 _ (by exact (BitVec.isLt _))]
  rfl
theorem and_u8 (b c : UInt8) (P : Program) (w : World) : (Op.intBits .and .u8 (b.toNat : Int) (c.toNat : Int)).run P w = .ok (Uv (b &&& c)) w := by
  simp only [Op.intBits, IntKind.bits, bv8]
  show Result.ok _ _ = _
  congr 2
  rw [wrap_u8 _ (by exact (BitVec.isLt _))]
  rfl
theorem u8_of (b c : UInt8) (h : (b.toNat : Int) = (c.toNat : Int)) : b = c := UInt8.toNat_inj.1 (by omega)
theorem EL.orU8 {C : Cx} {all : Array Oper} {ops : List Oper} {Q : Qt} {E : Env} {H : List HA} {d ty t t' : Nat} {pos : String} {af : Array Edge} {g : Option (Nat × Bool)} {x y : Operand} {b : UInt8} {n : Int} (c : UInt8)
    (hg : guardOk all E g = some true) (hx : E.ev x = some (Uv b)) (hy : E.ev y = some (.int .u8 n)) (hc : n = (c.toNat : Int)) (hd : Nat.blt d C.n = true) (k : EL C all ops Q ((d, Uv (b ||| c)) :: E) H) : EL C all (⟨some d, .binOp .or t x y t', ty, pos, af, g⟩ :: ops) Q E H := by
  subst hc
  exact EL.bits rfl (Uv (b ||| c)) hg hx hy hd (fun w => or_u8 b c C.P w) k
theorem EL.andU8 {C : Cx} {all : Array Oper} {ops : List Oper} {Q : Qt} {E : Env} {H : List HA} {d ty t t' : Nat} {pos : String} {af : Array Edge} {g : Option (Nat × Bool)} {x y : Operand} {b : UInt8} {n : Int} (c : UInt8)
    (hg : guardOk all E g = some true) (hx : E.ev x = some (Uv b)) (hy : E.ev y = some (.int .u8 n)) (hc : n = (c.toNat : Int)) (hd : Nat.blt d C.n = true) (k : EL C all ops Q ((d, Uv (b &&& c)) :: E) H) : EL C all (⟨some d, .binOp .and t x y t', ty, pos, af, g⟩ :: ops) Q E H := by
  subst hc
  exact EL.bits rfl (Uv (b &&& c)) hg hx hy hd (fun w => and_u8 b c C.P w) k
theorem drop_getD {α : Type} (l : List α) (k : Nat) (d : α) (h : k < l.length) : l.drop k = l.getD k d :: l.drop (k + 1) := by
  rw [List.drop_eq_getElem_cons h]
  simp [List.getD_eq_getElem?_getD, List.getElem?_eq_getElem h]
theorem made1 (z : Value) (n : Nat) : (madeCells #[z] (n * 1)).toList = List.replicate n z := by rw [Nat.mul_one]; exact toList_madeCells_one z n
theorem fill_step {α : Type} (f : α → Value) (z : Value) (l : List α) (k : Nat) (hk : k < l.length) : ((l.take k).map f ++ List.replicate (l.length - k) z).set k (f l[k]) = (l.take (k + 1)).map f ++ List.replicate (l.length - (k + 1)) z := by
  have hl : ((l.take k).map f).length = k := by simp; omega
  rw [List.take_succ_eq_append_getElem hk, List.map_append, List.append_assoc, List.set_append_right _ _ (by omega), hl, Nat.sub_self]
  rw [show l.length - k = (l.length - (k + 1)) + 1 by omega, List.replicate_succ]
  rfl
end more
end Go.Proofs.YtgoopgnnkhpmlaaDoor.Sl
