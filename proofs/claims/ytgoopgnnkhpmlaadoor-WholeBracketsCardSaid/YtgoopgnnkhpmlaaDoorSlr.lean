/- THE BASE, PRINTED BY rv.py OUT OF ITS OTHER PARTS: what an operation yields, no continuation beside it. -/
import Derived.Test.YtgoopgnnkhpmlaaDoorSlf
namespace Go.Proofs.YtgoopgnnkhpmlaaDoor.Sl
open Go Go.RowKit
set_option linter.unusedVariables false
set_option linter.unusedSimpArgs false
def RunV (C : Cx) (E : Env) (H : List HA) (o : Oper) (v : Value) : Prop := ∀ a w, At C E H a w → (execOp a.eval o).run C.P w = .ok (.value v) w
section rv2
variable {C : Cx} {all : Array Oper} {ops : List Oper} {Q : Qt} {E : Env} {H H' : List HA} {d ty : Nat} {pos : String} {af : Array Edge} {gd : Option (Nat × Bool)} {x y z : Operand} {v u : Value} {t t' e g off : Nat}
theorem RV.nilCheck {ad : Addr} (hx : E.ev x = some (.pointer (some ad))) : RunV C E H ⟨some d, .nilCheck x, ty, pos, af, gd⟩ (.pointer (some ad)) :=
  (fun a w ha => by simp [execOp, ha.1.ev hx])
theorem RV.fieldAddr {ti tf : TI} {fs : Array Field} {i : Nat} {f : Field} (hx : E.ev x = some (Pv g off)) (ht : C.T.f t = some ti) (hu : ti.u = .struct fs) (hf : fs[i]? = some f) (htf : C.T.f f.type = some tf) (hsz : Nat.beq tf.size 0 = false) : RunV C E H ⟨some d, .fieldAddr t x i, ty, pos, af, gd⟩ (Pv g (off + f.offset)) :=
  (fun a w ha => by
    have hT := (C.T.ok t ti ht).u
    rw [hu] at hT
    have hs := ((C.T.ok _ tf htf).runInfo w).1
    have hz : tf.size ≠ 0 := fun e => by rw [e] at hsz; cases hsz
    simp [execOp, ha.1.ev hx, Instr.fieldAt, run_underlying hT, hf, Instr.sureAddr, fieldPlace, hs, hz, Result.andThen, add_n])
theorem RV.indexAddrA {ti te : TI} {len : Nat} {el : TypeId} {kd : IntKind} {i : Nat} (hx : E.ev x = some (Pv g off)) (hy : E.ev y = some (.int kd (i : Nat))) (ht : C.T.f t = some ti) (hu : ti.u = .array len el) (hte : C.T.f el = some te) (hi : i < len) : RunV C E H ⟨some d, .indexAddr t x y, ty, pos, af, gd⟩ (Pv g (off + i * te.size)) :=
  (fun a w ha => by
    have hT := (C.T.ok t ti ht).u
    rw [hu] at hT
    have hs := ((C.T.ok _ te hte).runInfo w).1
    have h1 : (0 : Int) ≤ (i : Int) ∧ (i : Int) < (len : Int) := by omega
    simp [execOp, ha.1.ev hx, ha.1.ev hy, Instr.indexAt, run_underlying hT, asIntOf, Instr.sureAddr, hs, hi, Result.andThen, add_n])
theorem RV.indexAddrL {ti te : TI} {len cap : Nat} {el : TypeId} {kd : IntKind} {i : Nat} (hx : E.ev x = some (.slice (some ⟨g, off, none⟩) len cap)) (hy : E.ev y = some (.int kd (i : Nat))) (ht : C.T.f t = some ti) (hu : ti.u = .slice el) (hte : C.T.f el = some te) (hi : i < len) : RunV C E H ⟨some d, .indexAddr t x y, ty, pos, af, gd⟩ (Pv g (off + i * te.size)) :=
  (fun a w ha => by
    have hT := (C.T.ok t ti ht).u
    rw [hu] at hT
    have hs := ((C.T.ok _ te hte).runInfo w).1
    simp [execOp, ha.1.ev hx, ha.1.ev hy, Instr.indexAt, run_underlying hT, asIntOf, Instr.sureAddr, hs, hi, Result.andThen, add_n])
theorem RV.load {ti : TI} {ad : Addr} (hx : E.ev x = some (.pointer (some ad))) (ht : C.T.f t = some ti) (hu : ti.agg = false) (hc : ∀ w, Sat C.w0 C.B H w → w.cell? ad = some v) : RunV C E H ⟨some d, .load t x, ty, pos, af, gd⟩ v :=
  (fun a w ha => by
    have hT := ((C.T.ok t ti ht).runInfo w).2.2.2
    simp [execOp, ha.1.ev hx, Instr.loadAt, Instr.sureAddr, loadVar, hT, hu, hc w ha.2, Result.andThen])
theorem RV.loadB {ti : TI} {cs : Array Value} {fr : Nat × Nat} (hx : E.ev x = some (Pv g off)) (ht : C.T.f t = some ti) (hu : ti.agg = false) (hm : Mem H (HA.blk g (.cells cs e fr))) (hc : cs[off]? = some v) : RunV C E H ⟨some d, .load t x, ty, pos, af, gd⟩ v :=
  RV.load hx ht hu (fun w hs => (blk_cell (hs.all _ hm.mem) off).trans hc)
theorem RV.loadR {ti : TI} {len cap sz n : Nat} {cs : List Value} (hx : E.ev x = some (Pv g off)) (ht : C.T.f t = some ti) (hu : ti.agg = false) (hm : Mem H (HA.row (.slice (some ⟨g, 0, none⟩) len cap) e sz n cs)) (hc : cs[off]? = some v) : RunV C E H ⟨some d, .load t x, ty, pos, af, gd⟩ v :=
  RV.load hx ht hu (fun w hs => row_cell (hs.all _ hm.mem) off v hc)
theorem RV.loadAgg {ti : TI} {ad : Addr} {cs : List Value} (hx : E.ev x = some (.pointer (some ad))) (ht : C.T.f t = some ti) (hu : ti.agg = true) (hl : ti.size = cs.length) (hc : ∀ w, Sat C.w0 C.B H w → ∀ j u, cs[j]? = some u → w.cell? (ad.add j) = some u) : RunV C E H ⟨some d, .load t x, ty, pos, af, gd⟩ (.agg cs.toArray) :=
  (fun a w ha => by
    have hT := ((C.T.ok t ti ht).runInfo w)
    have hl' := run_loadCells_list (P := C.P) w ad cs (hc w ha.2)
    simp [execOp, ha.1.ev hx, Instr.loadAt, Instr.sureAddr, loadVar, hT.2.2.2, hu, hT.1, hl, hl', Result.andThen])
theorem RV.bytesS {ti ts te : TI} {el : TypeId} {ad : Option Addr} {n cap : Nat} {bs : List UInt8} (hx : E.ev x = some (.slice ad n cap)) (ht : C.T.f t = some ti) (hu : ti.u = .slice el) (hte : C.T.f el = some te) (hue : te.u = .int .u8) {t2 : Nat} (hts : C.T.f t2 = some ts) (hus : ts.u = .string) (hm : Mem H (HA.row (.slice ad n cap) el 1 n (bs.map Uv))) : RunV C E H ⟨some d, .convert t t2 x, ty, pos, af, gd⟩ (Sv bs) :=
  (fun a w ha => by
    have hT := (C.T.ok t ti ht).u
    rw [hu] at hT
    have hE := (C.T.ok el te hte).u
    rw [hue] at hE
    have hS := (C.T.ok t2 ts hts).u
    rw [hus] at hS
    have hown := ha.2.all _ hm.mem
    obtain ⟨_, _, _, hl, hform⟩ := row_form hown
    have hln : bs.length = n := by simpa using hl
    have : (convert t t2 (.slice ad n cap)).run C.P w = .ok (Sv bs) w := by
      by_cases h0 : 0 < n
      · obtain ⟨g, rfl⟩ := hform h0
        have hc := run_convert_bytes_arg (P := C.P) w t el hT hE g 0 n cap (bs.map fun b => (b.toNat : Int)) (by simp [hln]) (fun i hi => by
          rw [Nat.zero_add]
          refine row_cell hown i _ ?_
          simp [List.getElem?_eq_getElem (show i < bs.length by omega), List.getD_eq_getElem?_getD]) t2 hS
        rw [hc]
        simp only [strOfNums, List.map_map]
        congr 3
        apply congrArg List.toArray
        conv => rhs; rw [← List.map_id bs]
        apply List.map_congr_left
        intro b _
        simp
      · have hn0 : n = 0 := by omega
        subst hn0
        obtain rfl : bs = [] := List.eq_nil_of_length_eq_zero hln
        cases ad with
        | none => exact run_convert_bytes_nil (P := C.P) w t el hT hE 0 cap t2 hS
        | some b => 
          rcases hown.2 with ⟨h', _⟩ | ⟨g', cap', cur, hv, _⟩
          · cases h'
          · simp only [Value.slice.injEq, Option.some.injEq] at hv
            obtain ⟨rfl, _, _⟩ := hv
            exact run_convert_bytes_arg (P := C.P) w t el hT hE g' 0 0 cap [] rfl (fun i hi => absurd hi (by omega)) t2 hS
    simp [execOp, ha.1.ev hx, this, Result.andThen])
theorem RV.buildS {ti : TI} {fs : Array Field} {pl : List (Nat × Nat)} {ps : Array (Nat × Operand)} {vs : List (Nat × Value)} (cells : Array Value) (hx : E.evp ps.toList = some vs) (ht : C.T.f t = some ti) (hu : ti.u = .struct fs) (hpl : placesOf C.T.f fs.toList = some pl) (hf : Instr.fill (fun i => pl.toArray[i]?) ti.zero.cells vs = some cells) : RunV C E H ⟨some d, .build t ps, ty, pos, af, gd⟩ (.agg cells) :=
  (fun a w ha => by
    have hT := (C.T.ok t ti ht)
    have hI := hT.runInfo w
    have hu' := hT.u
    rw [hu] at hu'
    have hp := run_places C.T w fs.toList pl hpl
    have hm : (ps.map fun (p : Nat × Operand) => (p.1, a.eval p.2)).toList = vs := by
      have := ha.1.evp hx
      simpa using this
    have hmA : (fs.mapM fun f => do pure (f.offset, ← sizeOf f.type) : Sem (Array (Nat × Nat))).run C.P w = .ok pl.toArray w := by
      rw [show fs = fs.toList.toArray by simp, List.mapM_toArray]
      simp only [Sem.run_map, hp, Result.andThen]
    simp only [execOp, Instr.build, Sem.run_bind, hI.2.1, Result.andThen, run_underlying hu', hmA, hm, hf, Sem.run_pure])
theorem RV.field1 {ti tf : TI} {fs : Array Field} {i : Nat} {f : Field} {cs : Array Value} (hx : E.ev x = some (.agg cs)) (ht : C.T.f t = some ti) (hu : ti.u = .struct fs) (hf : fs[i]? = some f) (htf : C.T.f f.type = some tf) (hua : tf.agg = false) (hc : cs[f.offset]? = some v) : RunV C E H ⟨some d, .field t x i, ty, pos, af, gd⟩ v :=
  (fun a w ha => by
    have hT := (C.T.ok t ti ht).u
    rw [hu] at hT
    have hI := ((C.T.ok _ _ htf).runInfo w).2.2.2
    simp only [execOp, ha.1.ev hx, Instr.field, Sem.run_bind, run_underlying hT, Result.andThen, hf, asAgg, Sem.run_pure, Go.part, hI, hua, Bool.false_eq_true, if_false, hc])
theorem RV.fieldA {ti tf : TI} {fs : Array Field} {i : Nat} {f : Field} {cs : Array Value} (hx : E.ev x = some (.agg cs)) (ht : C.T.f t = some ti) (hu : ti.u = .struct fs) (hf : fs[i]? = some f) (htf : C.T.f f.type = some tf) (hua : tf.agg = true) : RunV C E H ⟨some d, .field t x i, ty, pos, af, gd⟩ (.agg (cs.extract f.offset (f.offset + tf.size))) :=
  (fun a w ha => by
    have hT := (C.T.ok t ti ht).u
    rw [hu] at hT
    have hI := ((C.T.ok _ _ htf).runInfo w)
    simp only [execOp, ha.1.ev hx, Instr.field, Sem.run_bind, run_underlying hT, Result.andThen, hf, asAgg, Sem.run_pure, Go.part, hI.2.2.2, hua, if_true, hI.1])
theorem RV.indexA1 {ti te : TI} {len : Nat} {el : TypeId} {kd : IntKind} {i : Nat} {cs : Array Value} (hx : E.ev x = some (.agg cs)) (hy : E.ev y = some (.int kd (i : Nat))) (ht : C.T.f t = some ti) (hu : ti.u = .array len el) (hte : C.T.f el = some te) (hua : te.agg = false) (hsz : Nat.beq te.size 1 = true) (hi : i < len) (hc : cs[i]? = some v) : RunV C E H ⟨some d, .index t x y, ty, pos, af, gd⟩ v :=
  (fun a w ha => by
    have hT := (C.T.ok t ti ht).u
    rw [hu] at hT
    have hI := ((C.T.ok _ _ hte).runInfo w)
    have h1 : (0 : Int) ≤ (i : Int) ∧ (i : Int) < (len : Int) := by omega
    have hz : te.size = 1 := Nat.eq_of_beq_eq_true hsz
    simp only [execOp, ha.1.ev hx, ha.1.ev hy, Instr.index, asIntOf, Sem.run_bind, Sem.run_pure, run_underlying hT, Result.andThen, h1, and_self, if_true, hI.1, hz, Nat.mul_one, Int.toNat_natCast, Go.part, hI.2.2.2, hua, Bool.false_eq_true, if_false, hc])
theorem RV.build1 {ti : TI} {fs : Array Field} {x0 : Operand} {v0 z0 : Value} (h0 : E.ev x0 = some v0) (ht : C.T.f t = some ti) (hu : ti.u = .struct fs) (hpl : placesOf C.T.f fs.toList = some [(0, 1)]) (hz : ti.zero.cells = #[z0]) (o0 : v0.oneCell' = true) : RunV C E H ⟨some d, .build t #[(0, x0)], ty, pos, af, gd⟩ (.agg #[v0]) :=
  RV.buildS (vs := [(0, v0)]) #[v0] (by simp [Env.evp, h0]) ht hu hpl (by simp [Instr.fill, hz, cells_one o0]) 
theorem RV.build2 {ti : TI} {fs : Array Field} {x0 x1 : Operand} {v0 v1 z0 z1 : Value} (h0 : E.ev x0 = some v0) (h1 : E.ev x1 = some v1) (ht : C.T.f t = some ti) (hu : ti.u = .struct fs) (hpl : placesOf C.T.f fs.toList = some [(0, 1), (1, 1)]) (hz : ti.zero.cells = #[z0, z1]) (o0 : v0.oneCell' = true) (o1 : v1.oneCell' = true) : RunV C E H ⟨some d, .build t #[(0, x0), (1, x1)], ty, pos, af, gd⟩ (.agg #[v0, v1]) :=
  RV.buildS (vs := [(0, v0), (1, v1)]) #[v0, v1] (by simp [Env.evp, h0, h1]) ht hu hpl (by simp [Instr.fill, hz, cells_one o0, cells_one o1]) 
theorem RV.build3 {ti : TI} {fs : Array Field} {x0 x1 x2 : Operand} {v0 v1 v2 z0 z1 z2 : Value} (h0 : E.ev x0 = some v0) (h1 : E.ev x1 = some v1) (h2 : E.ev x2 = some v2) (ht : C.T.f t = some ti) (hu : ti.u = .struct fs) (hpl : placesOf C.T.f fs.toList = some [(0, 1), (1, 1), (2, 1)]) (hz : ti.zero.cells = #[z0, z1, z2]) (o0 : v0.oneCell' = true) (o1 : v1.oneCell' = true) (o2 : v2.oneCell' = true) : RunV C E H ⟨some d, .build t #[(0, x0), (1, x1), (2, x2)], ty, pos, af, gd⟩ (.agg #[v0, v1, v2]) :=
  RV.buildS (vs := [(0, v0), (1, v1), (2, v2)]) #[v0, v1, v2] (by simp [Env.evp, h0, h1, h2]) ht hu hpl (by simp [Instr.fill, hz, cells_one o0, cells_one o1, cells_one o2]) 
theorem RV.build4 {ti : TI} {fs : Array Field} {x0 x1 x2 x3 : Operand} {v0 v1 v2 v3 z0 z1 z2 z3 : Value} (h0 : E.ev x0 = some v0) (h1 : E.ev x1 = some v1) (h2 : E.ev x2 = some v2) (h3 : E.ev x3 = some v3) (ht : C.T.f t = some ti) (hu : ti.u = .struct fs) (hpl : placesOf C.T.f fs.toList = some [(0, 1), (1, 1), (2, 1), (3, 1)]) (hz : ti.zero.cells = #[z0, z1, z2, z3]) (o0 : v0.oneCell' = true) (o1 : v1.oneCell' = true) (o2 : v2.oneCell' = true) (o3 : v3.oneCell' = true) : RunV C E H ⟨some d, .build t #[(0, x0), (1, x1), (2, x2), (3, x3)], ty, pos, af, gd⟩ (.agg #[v0, v1, v2, v3]) :=
  RV.buildS (vs := [(0, v0), (1, v1), (2, v2), (3, v3)]) #[v0, v1, v2, v3] (by simp [Env.evp, h0, h1, h2, h3]) ht hu hpl (by simp [Instr.fill, hz, cells_one o0, cells_one o1, cells_one o2, cells_one o3]) 
theorem RV.build5 {ti : TI} {fs : Array Field} {x0 x1 x2 x3 x4 : Operand} {v0 v1 v2 v3 v4 z0 z1 z2 z3 z4 : Value} (h0 : E.ev x0 = some v0) (h1 : E.ev x1 = some v1) (h2 : E.ev x2 = some v2) (h3 : E.ev x3 = some v3) (h4 : E.ev x4 = some v4) (ht : C.T.f t = some ti) (hu : ti.u = .struct fs) (hpl : placesOf C.T.f fs.toList = some [(0, 1), (1, 1), (2, 1), (3, 1), (4, 1)]) (hz : ti.zero.cells = #[z0, z1, z2, z3, z4]) (o0 : v0.oneCell' = true) (o1 : v1.oneCell' = true) (o2 : v2.oneCell' = true) (o3 : v3.oneCell' = true) (o4 : v4.oneCell' = true) : RunV C E H ⟨some d, .build t #[(0, x0), (1, x1), (2, x2), (3, x3), (4, x4)], ty, pos, af, gd⟩ (.agg #[v0, v1, v2, v3, v4]) :=
  RV.buildS (vs := [(0, v0), (1, v1), (2, v2), (3, v3), (4, v4)]) #[v0, v1, v2, v3, v4] (by simp [Env.evp, h0, h1, h2, h3, h4]) ht hu hpl (by simp [Instr.fill, hz, cells_one o0, cells_one o1, cells_one o2, cells_one o3, cells_one o4]) 
theorem RV.build6 {ti : TI} {fs : Array Field} {x0 x1 x2 x3 x4 x5 : Operand} {v0 v1 v2 v3 v4 v5 z0 z1 z2 z3 z4 z5 : Value} (h0 : E.ev x0 = some v0) (h1 : E.ev x1 = some v1) (h2 : E.ev x2 = some v2) (h3 : E.ev x3 = some v3) (h4 : E.ev x4 = some v4) (h5 : E.ev x5 = some v5) (ht : C.T.f t = some ti) (hu : ti.u = .struct fs) (hpl : placesOf C.T.f fs.toList = some [(0, 1), (1, 1), (2, 1), (3, 1), (4, 1), (5, 1)]) (hz : ti.zero.cells = #[z0, z1, z2, z3, z4, z5]) (o0 : v0.oneCell' = true) (o1 : v1.oneCell' = true) (o2 : v2.oneCell' = true) (o3 : v3.oneCell' = true) (o4 : v4.oneCell' = true) (o5 : v5.oneCell' = true) : RunV C E H ⟨some d, .build t #[(0, x0), (1, x1), (2, x2), (3, x3), (4, x4), (5, x5)], ty, pos, af, gd⟩ (.agg #[v0, v1, v2, v3, v4, v5]) :=
  RV.buildS (vs := [(0, v0), (1, v1), (2, v2), (3, v3), (4, v4), (5, v5)]) #[v0, v1, v2, v3, v4, v5] (by simp [Env.evp, h0, h1, h2, h3, h4, h5]) ht hu hpl (by simp [Instr.fill, hz, cells_one o0, cells_one o1, cells_one o2, cells_one o3, cells_one o4, cells_one o5]) 
theorem RV.eqlAgg {cs cs' : Array Value} {b : Bool} (hx : E.ev x = some (.agg cs)) (hy : E.ev y = some (.agg cs')) (hgt : C.P.eqGuardType C.P.depth t = false) (hq : ∀ w, (Op.equal t (.agg cs) (.agg cs')).run C.P w = .ok b w) : RunV C E H ⟨some d, .binOp .eql t x y t', ty, pos, af, gd⟩ (.bool b) :=
  (fun a w ha => by
    have hpr : (program).run C.P w = .ok C.P w := rfl
    simp [execOp, ha.1.ev hx, ha.1.ev hy, eqGuard, hgt, hpr, binOp, hq, Result.andThen])
theorem RV.neqAgg {cs cs' : Array Value} {b : Bool} (hx : E.ev x = some (.agg cs)) (hy : E.ev y = some (.agg cs')) (hgt : C.P.eqGuardType C.P.depth t = false) (hq : ∀ w, (Op.equal t (.agg cs) (.agg cs')).run C.P w = .ok b w) : RunV C E H ⟨some d, .binOp .neq t x y t', ty, pos, af, gd⟩ (.bool (!b)) :=
  (fun a w ha => by
    have hpr : (program).run C.P w = .ok C.P w := rfl
    simp [execOp, ha.1.ev hx, ha.1.ev hy, eqGuard, hgt, hpr, binOp, hq, Result.andThen])
end rv2
section rv
variable {C : Cx} {all : Array Oper} {ops : List Oper} {Q : Qt} {E : Env} {H H' : List HA} {d ty : Nat} {pos : String} {af : Array Edge} {g : Option (Nat × Bool)} {x y z : Operand} {v u : Value} {t t' : Nat} {kd : IntKind} {m n : Int} {l l' : List UInt8}
theorem RV.move (hx : E.ev x = some v) : RunV C E H ⟨some d, .move x, ty, pos, af, g⟩ v :=
  (fun a w ha => by simp [execOp, ha.1.ev hx])
theorem RV.assign (hx : E.ev x = some v) : RunV C E H ⟨some d, .assign x, ty, pos, af, g⟩ v :=
  (fun a w ha => by simp [execOp, ha.1.ev hx])
theorem RV.pickT {c : Operand} (hc : E.ev c = some (.bool true)) (hx : E.ev x = some v) : RunV C E H ⟨some d, .pick c x y, ty, pos, af, g⟩ v :=
  (fun a w ha => by simp [execOp, ha.1.ev hx, ha.1.ev hc, asBool, Result.andThen])
theorem RV.pickF {c : Operand} (hc : E.ev c = some (.bool false)) (hx : E.ev y = some v) : RunV C E H ⟨some d, .pick c x y, ty, pos, af, g⟩ v :=
  (fun a w ha => by simp [execOp, ha.1.ev hx, ha.1.ev hc, asBool, Result.andThen])
theorem RV.extract {vs : Array Value} {i : Nat} (hx : E.ev x = some (.tuple vs)) (hi : vs[i]? = some v) : RunV C E H ⟨some d, .extract x i, ty, pos, af, g⟩ v :=
  (fun a w ha => by simp [execOp, ha.1.ev hx, Instr.extract, hi, Result.andThen])
theorem RV.not {b : Bool} (hx : E.ev x = some (.bool b)) : RunV C E H ⟨some d, .unOp .not ty x, ty, pos, af, g⟩ (.bool (!b)) :=
  (fun a w ha => by simp [execOp, ha.1.ev hx, Op.unary, Result.andThen])
theorem RV.add (r : Int) (hx : E.ev x = some (.int kd m)) (hy : E.ev y = some (.int kd n)) (hr : kd.wrap (m + n) = r) : RunV C E H ⟨some d, .binOp .add t x y t', ty, pos, af, g⟩ (.int kd r) :=
  (fun a w ha => by subst hr; simp [execOp, ha.1.ev hx, ha.1.ev hy, eqGuard, binOp, Op.intArith, Result.andThen])
theorem RV.sub_ (r : Int) (hx : E.ev x = some (.int kd m)) (hy : E.ev y = some (.int kd n)) (hr : kd.wrap (m - n) = r) : RunV C E H ⟨some d, .binOp .sub t x y t', ty, pos, af, g⟩ (.int kd r) :=
  (fun a w ha => by subst hr; simp [execOp, ha.1.ev hx, ha.1.ev hy, eqGuard, binOp, Op.intArith, Result.andThen])
theorem RV.mul (r : Int) (hx : E.ev x = some (.int kd m)) (hy : E.ev y = some (.int kd n)) (hr : kd.wrap (m * n) = r) : RunV C E H ⟨some d, .binOp .mul t x y t', ty, pos, af, g⟩ (.int kd r) :=
  (fun a w ha => by subst hr; simp [execOp, ha.1.ev hx, ha.1.ev hy, eqGuard, binOp, Op.intArith, Result.andThen])
theorem RV.lss (hx : E.ev x = some (.int kd m)) (hy : E.ev y = some (.int kd n)) : RunV C E H ⟨some d, .binOp .lss t x y t', ty, pos, af, g⟩ (.bool (decide (m < n))) :=
  (fun a w ha => by simp [execOp, ha.1.ev hx, ha.1.ev hy, eqGuard, binOp, Op.intCmp, Result.andThen])
theorem RV.leq (hx : E.ev x = some (.int kd m)) (hy : E.ev y = some (.int kd n)) : RunV C E H ⟨some d, .binOp .leq t x y t', ty, pos, af, g⟩ (.bool (decide (m ≤ n))) :=
  (fun a w ha => by simp [execOp, ha.1.ev hx, ha.1.ev hy, eqGuard, binOp, Op.intCmp, Result.andThen])
theorem RV.gtr (hx : E.ev x = some (.int kd m)) (hy : E.ev y = some (.int kd n)) : RunV C E H ⟨some d, .binOp .gtr t x y t', ty, pos, af, g⟩ (.bool (decide (n < m))) :=
  (fun a w ha => by simp [execOp, ha.1.ev hx, ha.1.ev hy, eqGuard, binOp, Op.intCmp, Result.andThen])
theorem RV.geq (hx : E.ev x = some (.int kd m)) (hy : E.ev y = some (.int kd n)) : RunV C E H ⟨some d, .binOp .geq t x y t', ty, pos, af, g⟩ (.bool (decide (n ≤ m))) :=
  (fun a w ha => by simp [execOp, ha.1.ev hx, ha.1.ev hy, eqGuard, binOp, Op.intCmp, Result.andThen])
theorem RV.eqlI (hx : E.ev x = some (.int kd m)) (hy : E.ev y = some (.int kd n)) : RunV C E H ⟨some d, .binOp .eql t x y t', ty, pos, af, g⟩ (.bool (decide (m = n))) :=
  (fun a w ha => by simp [execOp, ha.1.ev hx, ha.1.ev hy, eqGuard, binOp, Op.intCmp, Result.andThen]; rfl)
theorem RV.neqI (hx : E.ev x = some (.int kd m)) (hy : E.ev y = some (.int kd n)) : RunV C E H ⟨some d, .binOp .neq t x y t', ty, pos, af, g⟩ (.bool (!decide (m = n))) :=
  (fun a w ha => by simp [execOp, ha.1.ev hx, ha.1.ev hy, eqGuard, binOp, Op.intCmp, Result.andThen]; rfl)
theorem RV.bits {op : BinOp} (hop : (match op with | .and | .or | .xor | .andNot => true | _ => false) = true) (r : Value) (hx : E.ev x = some (.int kd m)) (hy : E.ev y = some (.int kd n)) (hr : ∀ w, (Op.intBits op kd m n).run C.P w = .ok r w) : RunV C E H ⟨some d, .binOp op t x y t', ty, pos, af, g⟩ r :=
  (fun a w ha => by
    cases op <;> first | (cases hop; done) | simp [execOp, ha.1.ev hx, ha.1.ev hy, eqGuard, binOp, hr, Result.andThen])
theorem RV.lenS {ti : TI} (hx : E.ev x = some (Sv l)) (ht : C.T.f t = some ti) (hu : ti.u = .string) : RunV C E H ⟨some d, .call { callee := .builtin .len, args := #[x], argTypes := #[t] }, ty, pos, af, g⟩ (Iv (l.length : Nat)) :=
  (fun a w ha => by
    have hT := (C.T.ok t ti ht).u
    rw [hu] at hT
    simp [execOp, ha.1.ev hx, resolve, invoke, builtin, Builtin.len_, run_underlying hT, Result.andThen, goInt, size_sv])
theorem RV.lenL {ti : TI} {e : TypeId} {ad : Option Addr} {n c : Nat} (hx : E.ev x = some (.slice ad n c)) (ht : C.T.f t = some ti) (hu : ti.u = .slice e) : RunV C E H ⟨some d, .call { callee := .builtin .len, args := #[x], argTypes := #[t] }, ty, pos, af, g⟩ (Iv (n : Nat)) :=
  (fun a w ha => by
    have hT := (C.T.ok t ti ht).u
    rw [hu] at hT
    simp [execOp, ha.1.ev hx, resolve, invoke, builtin, Builtin.len_, run_underlying hT, Result.andThen, goInt])
theorem RV.cat (hx : E.ev x = some (Sv l)) (hy : E.ev y = some (Sv l')) (hs : l.length + l'.length ≤ 9223372036854775807) : RunV C E H ⟨some d, .binOp .add t x y t', ty, pos, af, g⟩ (Sv (l ++ l')) :=
  (fun a w ha => by
    have h1 : ¬ (9223372036854775807 : Int) < (l.length : Int) + (l'.length : Int) := by omega
    simp [execOp, ha.1.ev hx, ha.1.ev hy, eqGuard, binOp, Op.stringOp, size_sv, append_sv, Result.andThen, h1])
theorem RV.eqlS (hx : E.ev x = some (Sv l)) (hy : E.ev y = some (Sv l')) : RunV C E H ⟨some d, .binOp .eql t x y t', ty, pos, af, g⟩ (.bool (decide (l = l'))) :=
  (fun a w ha => by simp [execOp, ha.1.ev hx, ha.1.ev hy, eqGuard, binOp, Op.stringOp, Result.andThen, beq_dec])
theorem RV.neqS (hx : E.ev x = some (Sv l)) (hy : E.ev y = some (Sv l')) : RunV C E H ⟨some d, .binOp .neq t x y t', ty, pos, af, g⟩ (.bool (!decide (l = l'))) :=
  (fun a w ha => by simp [execOp, ha.1.ev hx, ha.1.ev hy, eqGuard, binOp, Op.stringOp, Result.andThen, beq_dec])
theorem RV.indexS {i : Int} {ti : TI} (hx : E.ev x = some (Sv l)) (hy : E.ev y = some (.int kd i)) (ht : C.T.f t = some ti) (hu : ti.u = .string) (h0 : 0 ≤ i) (h1 : i < l.length) : RunV C E H ⟨some d, .index t x y, ty, pos, af, g⟩ (Uv (l.getD i.toNat 0)) :=
  (fun a w ha => by
    have hT := (C.T.ok t ti ht).u
    have hl : i.toNat < l.length := by omega
    simp [execOp, ha.1.ev hx, ha.1.ev hy, Instr.index, asIntOf, run_underlying hT, hu, h0, get_sv l _ hl, Result.andThen])
theorem RV.indexSN {i : Nat} {ti : TI} (hx : E.ev x = some (Sv l)) (hy : E.ev y = some (.int kd (i : Nat))) (ht : C.T.f t = some ti) (hu : ti.u = .string) (h1 : i < l.length) : RunV C E H ⟨some d, .index t x y, ty, pos, af, g⟩ (Uv (l.getD i 0)) :=
  RV.indexS hx hy ht hu (by omega) (by omega)
theorem RV.sliceS {lo hi : Option Operand} {m n : Nat} {ti : TI} (hx : E.ev x = some (Sv l)) (ht : C.T.f t = some ti) (hu : ti.u = .string) (hlo : bnd E 0 lo m) (hhi : bnd E l.length hi n) (h0 : m ≤ n) (h1 : n ≤ l.length) : RunV C E H ⟨some d, .slice t x lo hi none, ty, pos, af, g⟩ (Sv ((l.drop m).take (n - m))) :=
  (fun a w ha => by
    have hT := (C.T.ok t ti ht).u
    cases lo with
    | none =>
      cases hi with
      | none =>
        obtain rfl : m = 0 := hlo
        obtain rfl : n = l.length := hhi
        simp [execOp, ha.1.ev hx, Instr.sliceAt, Instr.slice, Instr.sliceBounds, run_underlying hT, hu, Result.andThen, extract_sv, size_sv]
      | some hi =>
        obtain rfl : m = 0 := hlo
        obtain ⟨kd, hhi⟩ := hhi
        simp [execOp, ha.1.ev hx, ha.1.ev hhi, Instr.sliceAt, Instr.slice, Instr.sliceBounds, Instr.sliceBound, asIntOf, run_underlying hT, hu, Result.andThen, extract_sv, size_sv, h1]
    | some lo =>
      obtain ⟨kd, hlo⟩ := hlo
      cases hi with
      | none =>
        obtain rfl : n = l.length := hhi
        simp [execOp, ha.1.ev hx, ha.1.ev hlo, Instr.sliceAt, Instr.slice, Instr.sliceBounds, Instr.sliceBound, asIntOf, run_underlying hT, hu, Result.andThen, extract_sv, size_sv, h0]
      | some hi =>
        obtain ⟨kd', hhi⟩ := hhi
        simp [execOp, ha.1.ev hx, ha.1.ev hlo, ha.1.ev hhi, Instr.sliceAt, Instr.slice, Instr.sliceBounds, Instr.sliceBound, asIntOf, run_underlying hT, hu, Result.andThen, extract_sv, size_sv, h0, h1])
theorem RV.convI {kd' : IntKind} {ti ts : TI} (r : Int) (hx : E.ev x = some (.int kd m)) (ht : C.T.f t' = some ti) (hu : ti.u = .int kd') (hT0 : C.T.f t = some ts) (hr : kd'.wrap m = r) : RunV C E H ⟨some d, .convert t t' x, ty, pos, af, g⟩ (.int kd' r) :=
  (fun a w ha => by
    have hT := (C.T.ok t' ti ht).u
    rw [hu] at hT
    have hs := (C.T.ok t ts hT0).u
    subst hr
    simp [execOp, ha.1.ev hx, convert, run_underlying hT, run_underlying hs, Conv.intToInt, Result.andThen])
theorem RV.addN {m n : Nat} (hx : E.ev x = some (Iv (m : Nat))) (hy : E.ev y = some (Iv (n : Nat))) (h0 : True = True) (hr : m + n ≤ 9223372036854775807) : RunV C E H ⟨some d, .binOp .add t x y t', ty, pos, af, g⟩ (Iv ((m + n : Nat) : Int)) :=
  RV.add _ hx hy (by rw [wrap_i64 _ (by omega) (by omega)]; omega)
theorem RV.add1 {m : Nat} (hx : E.ev x = some (Iv (m : Nat))) (hy : E.ev y = some (Iv 1)) (hr : m + 1 ≤ 9223372036854775807) : RunV C E H ⟨some d, .binOp .add t x y t', ty, pos, af, g⟩ (Iv ((m + 1 : Nat) : Int)) :=
  RV.add _ hx hy (by rw [wrap_i64 _ (by omega) (by omega)]; omega)
theorem RV.sub1 {m : Nat} (hx : E.ev x = some (Iv (m : Nat))) (hy : E.ev y = some (Iv 1)) (hr : 1 ≤ m) (hm : m ≤ 9223372036854775807) : RunV C E H ⟨some d, .binOp .sub t x y t', ty, pos, af, g⟩ (Iv ((m - 1 : Nat) : Int)) :=
  RV.sub_ _ hx hy (by rw [wrap_i64 _ (by omega) (by omega)]; omega)
theorem RV.subN {m n : Nat} (hx : E.ev x = some (Iv (m : Nat))) (hy : E.ev y = some (Iv (n : Nat))) (h0 : True = True) (hr : n ≤ m) (hm : m ≤ 9223372036854775807) : RunV C E H ⟨some d, .binOp .sub t x y t', ty, pos, af, g⟩ (Iv ((m - n : Nat) : Int)) :=
  RV.sub_ _ hx hy (by rw [wrap_i64 _ (by omega) (by omega)]; omega)
theorem RV.eqlB {b c : Bool} {ti : TI} (hx : E.ev x = some (.bool b)) (hy : E.ev y = some (.bool c)) (ht : C.T.f t = some ti) (hu : ti.u = .bool) : RunV C E H ⟨some d, .binOp .eql t x y t', ty, pos, af, g⟩ (.bool (b == c)) :=
  (fun a w ha => by
    have hT := (C.T.ok t ti ht).u
    rw [hu] at hT
    simp only [execOp, ha.1.ev hx, ha.1.ev hy, eqGuard, binOp, Sem.run_bind, Sem.run_pure, run_equal_bool hT, Result.andThen]
    rfl)
theorem RV.neqB {b c : Bool} {ti : TI} (hx : E.ev x = some (.bool b)) (hy : E.ev y = some (.bool c)) (ht : C.T.f t = some ti) (hu : ti.u = .bool) : RunV C E H ⟨some d, .binOp .neq t x y t', ty, pos, af, g⟩ (.bool (!(b == c))) :=
  (fun a w ha => by
    have hT := (C.T.ok t ti ht).u
    rw [hu] at hT
    simp only [execOp, ha.1.ev hx, ha.1.ev hy, eqGuard, binOp, Sem.run_bind, Sem.run_pure, run_equal_bool hT, Result.andThen]
    rfl)
theorem RV.indexAddrA1 {ti te : TI} {len gb : Nat} {el : TypeId} {kd : IntKind} {i : Nat} (hx : E.ev x = some (Pv gb 0)) (hy : E.ev y = some (.int kd (i : Nat))) (ht : C.T.f t = some ti) (hu : ti.u = .array len el) (hte : C.T.f el = some te) (hsz : Nat.beq te.size 1 = true) (hi : i < len) : RunV C E H ⟨some d, .indexAddr t x y, ty, pos, af, g⟩ (Pv gb i) :=
  by have h_ := RV.indexAddrA (C := C) (E := E) (H := H) (d := d) (ty := ty) (pos := pos) (af := af) (gd := g) hx hy ht hu hte hi; rw [Nat.eq_of_beq_eq_true hsz, Nat.mul_one, Nat.zero_add] at h_; exact h_
theorem RV.indexAddrL1 {ti te : TI} {len cap gb : Nat} {el : TypeId} {kd : IntKind} {i : Nat} (hx : E.ev x = some (.slice (some ⟨gb, 0, none⟩) len cap)) (hy : E.ev y = some (.int kd (i : Nat))) (ht : C.T.f t = some ti) (hu : ti.u = .slice el) (hte : C.T.f el = some te) (hsz : Nat.beq te.size 1 = true) (hi : i < len) : RunV C E H ⟨some d, .indexAddr t x y, ty, pos, af, g⟩ (Pv gb i) :=
  by have h_ := RV.indexAddrL (C := C) (E := E) (H := H) (d := d) (ty := ty) (pos := pos) (af := af) (gd := g) hx hy ht hu hte hi; rw [Nat.eq_of_beq_eq_true hsz, Nat.mul_one, Nat.zero_add] at h_; exact h_
end rv
end Go.Proofs.YtgoopgnnkhpmlaaDoor.Sl
