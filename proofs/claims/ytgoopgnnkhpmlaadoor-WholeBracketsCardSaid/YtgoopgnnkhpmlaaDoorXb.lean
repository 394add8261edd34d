/- Layer 3 (bracket): the walk of Text. -/
import Derived.Test.YtgoopgnnkhpmlaaDoorXa
import Derived.Test.YtgoopgnnkhpmlaaDoorDm
import Derived.Test.YtgoopgnnkhpmlaaDoorSlt
import Derived.Test.YtgoopgnnkhpmlaaDoorSly
namespace Go.Proofs.YtgoopgnnkhpmlaaDoor
open Go Go.RowKit Sl
set_option maxRecDepth 100000
set_option maxHeartbeats 8000000
set_option linter.unusedVariables false
set_option linter.unusedSimpArgs false
attribute [local irreducible] ES EL PX wps

section
variable {C : Cx} {all : Array Oper} {ops : List Oper} {Q : Qt} {E : Env} {H R : List HA} {d ty t t' : Nat} {pos : String} {af : Array Edge} {gd : Option (Nat × Bool)} {x y : Operand}
/-- A call of a function with what it captured. -/
theorem EL.callK {X : Type} {fo : Operand} {ar : Array Operand} {tys : Array TypeId} {f : FuncId} {cap argv : Array Value} {vs : List Value} {Hq : List HA} {val : X → Value} {HX : X → List HA} (hg : guardOk all E gd = some true) (hf : E.ev fo = some (.func (.func f) #[] cap)) (ha : E.evl ar.toList = some vs) (hargv : vs.toArray ++ cap = argv)
    (he : Enters C.P f) (hd : Nat.blt d C.n = true) (hc : Mut C.P f argv Hq val HX) (tk : Takes H Hq R)
    (k : ∀ x, EL C all ops Q ((d, val x) :: E) (HX x ++ R)) : EL C all (⟨some d, .call { callee := .value fo, args := ar, argTypes := tys }, ty, pos, af, gd⟩ :: ops) Q E H :=
  EL.call val (fun x => HX x ++ R) hg hf ha hargv he hd (fun w hs => hc _ _ R w (hs.perm tk.perm)) k
theorem wrap_u8 (b : UInt8) : IntKind.u8.wrap ((b.toNat : Int) + 1) = ((b + 1).toNat : Int) := by
  rw [UInt8.toNat_add]
  simp [IntKind.wrap, IntKind.signed, IntKind.bits]
theorem RV.addOneB {b : UInt8} (hx : E.ev x = some (Uv b)) (hy : E.ev y = some (.int .u8 1)) : RunV C E H ⟨some d, .binOp .add t x y t', ty, pos, af, gd⟩ (Uv (b + 1)) :=
  RV.add _ hx hy (wrap_u8 b)
end
/-- A box with a list of bytes of one's own. -/
abbrev BX (g : Nat) (ad : Option Addr) (cap : Nat) (l : List UInt8) : List HA := [HA.blk g (.cells #[.slice ad l.length cap] 39), HA.row (.slice ad l.length cap) 5 1 l.length (l.map Uv)]
theorem BX_of {g : Nat} {ad : Option Addr} {cap n : Nat} {l : List UInt8} {cs : List Value} (hn : l.length = n) (hc : l.map Uv = cs) : BX g ad cap l = [HA.blk g (.cells #[.slice ad n cap] 39), HA.row (.slice ad n cap) 5 1 n cs] := by
  subst hn hc
  rfl
theorem flush_len (out run : List UInt8) : (flushM out run).length ≤ out.length + run.length := by
  unfold flushM
  split
  · simp; omega
  · simp
theorem flush_c (g4 g3 : Nat) (ra : Option Addr) (rc : Nat) (run : List UInt8) (oa : Option Addr) (oc : Nat) (out : List UInt8) (hr : run.length ≤ 65536) (ho : out.length ≤ 65536) :
    Mut Tryd.prog 11 #[Pv g4 0, Pv g3 0] (BX g4 ra rc run ++ BX g3 oa oc out) (fun _ : Option Addr × Nat => .tuple #[]) (fun x => [HA.blk g4 (.cells #[.slice none 0 0] 39), HA.row (.slice none 0 0) 5 1 0 []] ++ BX g3 x.1 x.2 (flushM out run)) := by
  intro w0 B R w h
  replace h : Sat w0 B (HA.blk g4 (.cells #[.slice ra run.length rc] 39) :: HA.row (.slice ra run.length rc) 5 1 run.length (run.map Uv) :: HA.blk g3 (.cells #[.slice oa out.length oc] 39) :: HA.row (.slice oa out.length oc) 5 1 out.length (out.map Uv) :: R) w := h
  refine calls_of_ES TB Tryd.func11 rfl _ Tryd.ntmps11 rfl h ?_
  refine .gr ?_; repeat constructor
  (apply EL.loadB; exact rfl; exact rfl; exact rfl; exact rfl; exact rfl; (case hm => repeat constructor); exact rfl)
  refine EL.lenL rfl rfl rfl rfl rfl ?_
  refine EL.gtr rfl rfl rfl rfl ?_
  refine .gr ?_; repeat constructor
  refine ES.condD rfl (fun hgt => ?_) (fun hle => ?_)
  · have hgt' : 2 < run.length := by omega
    have hf : flushM out run = out ++ [run.getD 0 0, 45, run.getD (run.length - 1) 0] := if_pos hgt'
    refine ES.rowForm (ad := ra) (len := run.length) (cap := rc) (n := run.length) (sz := 1) (cs := run.map Uv) (by repeat constructor) (fun hfm => ?_)
    obtain ⟨gr, rfl⟩ := hfm.2.2.2.2 (by omega)
    refine ES.draw (X := Nat) (fun _ => [(0, Pv g4 0), (1, Pv g3 0)]) (fun b => HA.blk g4 (.cells #[.slice (some ⟨b, 0, none⟩) 3 3] 39) :: HA.row (.slice (some ⟨b, 0, none⟩) 3 3) 5 1 3 [Uv (run.getD 0 0), Uv 45, Uv (run.getD (run.length - 1) 0)] :: HA.blk g3 (.cells #[.slice oa out.length oc] 39) :: HA.row (.slice oa out.length oc) 5 1 out.length (out.map Uv) :: R)
      (HA.blk g4 (.cells #[.slice (some ⟨gr, 0, none⟩) run.length rc] 39) :: HA.row (.slice (some ⟨gr, 0, none⟩) run.length rc) 5 1 run.length (run.map Uv) :: []) mixed (.i (by repeat constructor)) ?_ (fun b => ?_)
    · refine ED.take 0 rfl (by decide +kernel) CutX.no_panic (by decide +kernel) rfl rfl rfl (RV.loadB rfl rfl rfl (by repeat constructor) rfl) ?_
      refine ED.take 1 rfl (by decide +kernel) CutX.no_panic (by decide +kernel) rfl rfl rfl (RV.indexAddrL1 (i := 0) rfl rfl rfl rfl rfl rfl (by omega)) ?_
      refine ED.take 2 rfl (by decide +kernel) CutX.no_panic (by decide +kernel) rfl rfl rfl (RV.loadRm Uv 0 (l := run) rfl rfl rfl (by repeat constructor) (by omega)) ?_
      refine ED.take 3 rfl (by decide +kernel) CutX.no_panic (by decide +kernel) rfl rfl rfl (RV.loadB rfl rfl rfl (by repeat constructor) rfl) ?_
      refine ED.take 4 rfl (by decide +kernel) CutX.no_panic (by decide +kernel) rfl rfl rfl (RV.loadB rfl rfl rfl (by repeat constructor) rfl) ?_
      refine ED.take 5 rfl (by decide +kernel) CutX.no_panic (by decide +kernel) rfl rfl rfl (RV.lenL rfl rfl rfl) ?_
      refine ED.take 6 rfl (by decide +kernel) CutX.no_panic (by decide +kernel) rfl rfl rfl (RV.sub1 rfl rfl (by omega) (by omega)) ?_
      refine ED.take 7 rfl (by decide +kernel) CutX.no_panic (by decide +kernel) rfl rfl rfl (RV.indexAddrL1 (i := run.length - 1) rfl rfl rfl rfl rfl rfl (by omega)) ?_
      refine ED.take 8 rfl (by decide +kernel) CutX.no_panic (by decide +kernel) rfl rfl rfl (RV.loadRm Uv 0 (l := run) rfl rfl rfl (by repeat constructor) (by omega)) ?_
      refine ED.loud 9 rfl (by decide +kernel) ?_
      (refine EL.buildSliceS [Uv (run.getD 0 0), .int .u8 45, Uv (run.getD (run.length - 1) 0)] rfl rfl rfl rfl rfl rfl rfl rfl rfl rfl (by intro u hu; simp only [List.mem_cons, List.not_mem_nil, or_false] at hu; rcases hu with rfl | rfl | rfl <;> rfl) ?_; intro b14)
      refine ED.next (.i (by repeat constructor)) ?_
      refine ED.last 10 rfl (by decide +kernel) (by decide +kernel) (by decide +kernel) ?_
      (apply EL.storeB; exact rfl; exact rfl; exact rfl; exact rfl; exact rfl; exact rfl; (case p => repeat constructor); exact (by first | decide | exact Nat.le_of_ble_eq_true rfl | simp))
      refine EL.endQ ?_
      exact PX.cutX b14 ⟨rfl, rfl, trivial⟩ (.i (by repeat constructor))
    refine .gs ?_; repeat constructor
    refine .gr ?_; repeat constructor
    (apply EL.loadB; exact rfl; exact rfl; exact rfl; exact rfl; exact rfl; (case hm => repeat constructor); exact rfl)
    (apply EL.loadB; exact rfl; exact rfl; exact rfl; exact rfl; exact rfl; (case hm => repeat constructor); exact rfl)
    (refine EL.append (m := 3) (news := [Uv (run.getD 0 0), Uv 45, Uv (run.getD (run.length - 1) 0)]) rfl rfl rfl rfl rfl rfl rfl rfl rfl (by repeat constructor) (by rfl) (by omega) (fun w hs => row_news hs (by repeat constructor)) (by intro u hu; simp only [List.mem_cons, List.not_mem_nil, or_false] at hu; rcases hu with rfl | rfl | rfl <;> rfl) (by unfold maxLen; omega) (by first | omega | (show 1 * _ ≤ _; omega) | (show 8 * _ ≤ _; omega) | (show 16 * _ ≤ _; omega) | (show 24 * _ ≤ _; omega) | (show _ * 1 ≤ _; omega) | (show _ * 8 ≤ _; omega) | (show _ * 16 ≤ _; omega) | (show _ * 24 ≤ _; omega) | exact Nat.le_trans (Nat.mul_le_mul_right _ (show _ ≤ 1073741824 by omega)) (by decide)) ?_; intro a17 c17)
    (apply EL.storeB; exact rfl; exact rfl; exact rfl; exact rfl; exact rfl; exact rfl; (case p => repeat constructor); exact (by first | decide | exact Nat.le_of_ble_eq_true rfl | simp))
    refine .gr ?_; repeat constructor
    (apply EL.storeB; exact rfl; exact rfl; exact rfl; exact rfl; exact rfl; exact rfl; (case p => repeat constructor); exact (by first | decide | exact Nat.le_of_ble_eq_true rfl | simp))
    refine .gr ?_; repeat constructor
    refine PX.end rfl Tryd.results11 .nil (fun w hs => ⟨(some ⟨a17, 0, none⟩, c17), rfl, ?_⟩)
    rw [hf]
    refine (hs.nilRow 5 1).ent ?_
    dsimp only
    rw [BX_of (l := out ++ [run.getD 0 0, 45, run.getD (run.length - 1) 0]) (n := out.length + 3) (by simp) (List.map_append ..)]
    exact (.i (by repeat constructor))
  · have hf : flushM out run = out ++ run := if_neg (by omega)
    refine .gr ?_; repeat constructor
    (apply EL.loadB; exact rfl; exact rfl; exact rfl; exact rfl; exact rfl; (case hm => repeat constructor); exact rfl)
    (apply EL.loadB; exact rfl; exact rfl; exact rfl; exact rfl; exact rfl; (case hm => repeat constructor); exact rfl)
    (refine EL.appendW rfl rfl rfl rfl rfl rfl rfl rfl rfl (by repeat constructor) (fun w hs => Rd.row (n := run.length) (cap := rc) (sz := 1) hs (by repeat constructor) (by decide)) (by simp; exact (Nat.mul_one _).symm) (by intro u hu; obtain ⟨_, _, rfl⟩ := List.mem_map.1 hu; rfl) (by unfold maxLen; omega) (by first | omega | (show 1 * _ ≤ _; omega) | (show 8 * _ ≤ _; omega) | (show 16 * _ ≤ _; omega) | (show 24 * _ ≤ _; omega) | (show _ * 1 ≤ _; omega) | (show _ * 8 ≤ _; omega) | (show _ * 16 ≤ _; omega) | (show _ * 24 ≤ _; omega) | exact Nat.le_trans (Nat.mul_le_mul_right _ (show _ ≤ 1073741824 by omega)) (by decide)) ?_; intro a17 c17)
    (apply EL.storeB; exact rfl; exact rfl; exact rfl; exact rfl; exact rfl; exact rfl; (case p => repeat constructor); exact (by first | decide | exact Nat.le_of_ble_eq_true rfl | simp))
    refine .gr ?_; repeat constructor
    (apply EL.storeB; exact rfl; exact rfl; exact rfl; exact rfl; exact rfl; exact rfl; (case p => repeat constructor); exact (by first | decide | exact Nat.le_of_ble_eq_true rfl | simp))
    refine .gr ?_; repeat constructor
    refine PX.end rfl Tryd.results11 .nil (fun w hs => ⟨(a17, c17), rfl, ?_⟩)
    rw [hf]
    refine (hs.nilRow 5 1).ent ?_
    dsimp only
    rw [BX_of (l := out ++ run) List.length_append List.map_append]
    exact (.i (by repeat constructor))
theorem special_c (b : UInt8) (w : World) : Pure Tryd.prog 13 #[Uv b] (fun _ : Unit => .bool (spc b)) (fun _ => []) w := by
  have hspc : spc b = decide (0 ≤ idxB [93, 94, 45, 91] b) := by
    unfold spc
    rw [decide_eq_decide, idxB_nonneg]
    simp
  refine calls_of_ES TB Tryd.func13 rfl _ Tryd.ntmps13 rfl (Sat.start w) ?_
  refine .gr ?_; repeat constructor
  refine EL.assign rfl rfl rfl ?_
  refine .gr ?_; repeat constructor
  refine EL.move rfl rfl rfl ?_
  refine EL.callP rfl rfl rfl ent22 rfl (index_c [93, 94, 45, 91] b) ?_
  refine EL.geq rfl rfl rfl rfl ?_
  refine EL.assign rfl rfl rfl ?_
  refine .gr ?_; repeat constructor
  exact PX.ret rfl Tryd.results13 (.cons (.tmp rfl) .nil) (fun w hs => ⟨(), by rw [hspc]; rfl, hs.ent (.nil _)⟩)
structure TSt where
  oa : Option Addr
  oc : Nat
  out : List UInt8
  ra : Option Addr
  rc : Nat
  run : List UInt8
theorem step_len (st : List UInt8 × List UInt8) (b : UInt8) : (textStep st b).1.length + (textStep st b).2.length ≤ st.1.length + st.2.length + 5 := by
  have := flush_len st.1 st.2
  unfold textStep
  split
  · simp; omega
  · split
    · simp; omega
    · simp; omega
theorem fold_len : ∀ (l : List UInt8) (st : List UInt8 × List UInt8), (l.foldl textStep st).1.length + (l.foldl textStep st).2.length ≤ st.1.length + st.2.length + 5 * l.length
  | [], st => by simp
  | b :: l, st => by
    have h1 := fold_len l (textStep st b)
    have h2 := step_len st b
    rw [List.foldl_cons, List.length_cons]
    omega
abbrev FX (g5 g4 g3 : Nat) : HA := HA.blk g5 (.cells #[.func (.func 11) #[] #[Pv g4 0, Pv g3 0]] 1)
abbrev THi (g5 g4 g3 : Nat) (z : TSt) : List HA := BX g4 z.ra z.rc z.run ++ BX g3 z.oa z.oc z.out ++ [FX g5 g4 g3]
theorem text_c (s : BS) (w : World) (hT : TabR w w.heap.size) : Pure Tryd.prog 6 #[Bs s] (fun _ : Unit => Sv (textS s)) (fun _ => []) w := by
  have hml : (membersM s).length ≤ 256 := memGo_le _ _
  refine calls_of_ESM TB Tryd.func6 rfl _ Tryd.ntmps6 rfl (Sat.start w) ?_
  refine .gr ?_; repeat constructor
  (refine EL.box rfl rfl rfl ?_; intro g1)
  refine EL.assign rfl rfl rfl ?_
  refine .gr ?_; repeat constructor
  (apply EL.loadAggB; exact rfl; exact rfl; exact rfl; exact rfl; exact rfl; (case hm => repeat constructor); exact rfl)
  refine EL.buildZA rfl rfl rfl rfl rfl ?_
  refine EL.eqlBS (w0 := s.a) (w1 := s.b) (w2 := s.c) (w3 := s.d) (v0 := 0) (v1 := 0) (v2 := 0) (v3 := 0) rfl rfl rfl rfl eqg24 rfl rfl rfl rfl rfl ?_
  refine .gr ?_; repeat constructor
  refine ES.condD rfl (fun he => ?_) (fun hne => ?_)
  · have hs : textS s = [91, 94, 0, 45, 255, 93] := if_pos he
    refine .gr ?_; repeat constructor
    refine EL.assign rfl rfl rfl ?_
    refine .gr ?_; repeat constructor
    exact PX.retM [] rfl (.nil _) Tryd.results6 (.cons (.tmp rfl) .nil) (fun w h => ⟨(), by rw [hs]; rfl, h.ent (.nil _)⟩)
  have hs0 : textS s = flushM ((membersM s).foldl textStep ([91], [])).1 ((membersM s).foldl textStep ([91], [])).2 ++ [93] := if_neg hne
  refine .gr ?_; repeat constructor
  (refine EL.buildSlice1 rfl rfl rfl rfl rfl rfl rfl rfl rfl rfl ?_; intro b10)
  (refine EL.alloc rfl rfl rfl ?_; intro g3)
  (apply EL.storeB; exact rfl; exact rfl; exact rfl; exact rfl; exact rfl; exact rfl; (case p => repeat constructor); exact (by first | decide | exact Nat.le_of_ble_eq_true rfl | simp))
  refine .gr ?_; repeat constructor
  (refine EL.alloc rfl rfl rfl ?_; intro g4)
  refine .gr ?_; repeat constructor
  refine EL.makeFunc rfl rfl rfl ?_
  (refine EL.alloc rfl rfl rfl ?_; intro g5)
  (apply EL.storeB; exact rfl; exact rfl; exact rfl; exact rfl; exact rfl; exact rfl; (case p => repeat constructor); exact (by first | decide | exact Nat.le_of_ble_eq_true rfl | simp))
  refine .gr ?_; repeat constructor
  (apply EL.loadAggB; exact rfl; exact rfl; exact rfl; exact rfl; exact rfl; (case hm => repeat constructor); exact rfl)
  (refine EL.callX rfl rfl rfl ent12 rfl (members_c s) ?_; intro gs)
  refine .gr ?_; repeat constructor
  refine ES.nilRow 5 1 ?_
  refine ES.rangeFunc (σ := TSt) (τ := Unit) (fun i z => i ≤ (membersM s).length ∧ (z.out, z.run) = ((membersM s).take i).foldl textStep ([91], [])) (THi g5 g4 g3) (fun _ _ _ => False) (fun _ => []) ⟨some ⟨b10, 0, none⟩, 1, [91], none, 0, []⟩ ⟨Nat.zero_le _, rfl⟩
    rfl rfl ent20 (mem1_iter gs s _ _ hT) (by repeat constructor) (by repeat constructor) (by intro x hx; obtain ⟨_, _, rfl⟩ := List.mem_map.1 hx; rfl) rfl ?_ (fun D z hz => ?_) (fun D c i s' hc => hc.elim)
  · rintro l i ⟨oa, oc, out, ra, rc, run⟩ x R1 ⟨hi, hst⟩ hx
    dsimp only at hst hx
    obtain ⟨b, hb, rfl⟩ : ∃ b, (membersM s)[i]? = some b ∧ x = [Uv b] := by
      unfold ym at hx
      rw [List.getElem?_map] at hx
      obtain ⟨ln, h1, h2⟩ := Option.map_eq_some_iff.1 hx
      exact ⟨ln, h1, h2.symm⟩
    have hlt : i < (membersM s).length := (List.getElem?_eq_some_iff.1 hb).1
    have htk : ((membersM s).take (i + 1)).foldl textStep ([91], []) = textStep (out, run) b := by
      rw [List.take_succ_eq_append_getElem hlt, (List.getElem?_eq_some_iff.1 hb).2, List.foldl_append, ← hst]
      rfl
    have hln := fold_len ((membersM s).take i) ([91], [])
    rw [← hst, List.length_take] at hln
    simp only [List.length_singleton, List.length_nil] at hln
    have hol : out.length ≤ 4096 := by omega
    have hrl : run.length ≤ 4096 := by omega
    have hfl := flush_len out run
    refine .gr ?_; repeat constructor
    refine EL.assign rfl rfl rfl ?_
    refine .gr ?_; repeat constructor
    refine PX.assigned [(6, Uv b), (3, Pv g3 0), (4, Pv g4 0), (5, Pv g5 0)] (BX g4 ra rc run ++ BX g3 oa oc out ++ [FX g5 g4 g3]) ⟨rfl, rfl, rfl, rfl, trivial⟩ (.i (by repeat constructor)) (fun R2 => ?_)
    refine .gr ?_; repeat constructor
    refine EL.move rfl rfl rfl ?_
    refine EL.callP rfl rfl rfl ent13 rfl (special_c b) ?_
    refine .gr ?_; repeat constructor
    refine ES.cond rfl (fun hsp => ?_) (fun hsp => ?_)
    · have hts : textStep (out, run) b = (flushM out run ++ [91, 46, b, 46, 93], []) := if_pos hsp
      refine .gr ?_; repeat constructor
      (apply EL.loadB; exact rfl; exact rfl; exact rfl; exact rfl; exact rfl; (case hm => repeat constructor); exact rfl)
      (refine EL.callK rfl rfl rfl rfl ent11 rfl (flush_c g4 g3 ra rc run oa oc out (by omega) (by omega)) (by repeat constructor) ?_; rintro ⟨oa2, oc2⟩)
      refine .gr ?_; repeat constructor
      (apply EL.loadB; exact rfl; exact rfl; exact rfl; exact rfl; exact rfl; (case hm => repeat constructor); exact rfl)
      refine EL.move rfl rfl rfl ?_
      (refine EL.buildSliceS [.int .u8 91, .int .u8 46, Uv b, .int .u8 46, .int .u8 93] rfl rfl rfl rfl rfl rfl rfl rfl rfl rfl (by intro u hu; simp only [List.mem_cons, List.not_mem_nil, or_false] at hu; rcases hu with rfl | rfl | rfl | rfl | rfl <;> rfl) ?_; intro b21)
      (refine EL.append (m := 5) (news := [Uv 91, Uv 46, Uv b, Uv 46, Uv 93]) rfl rfl rfl rfl rfl rfl rfl rfl rfl (by repeat constructor) (by rfl) (by omega) (fun w hs => row_news hs (by repeat constructor)) (by intro u hu; simp only [List.mem_cons, List.not_mem_nil, or_false] at hu; rcases hu with rfl | rfl | rfl | rfl | rfl <;> rfl) (by unfold maxLen; omega) (by first | omega | (show 1 * _ ≤ _; omega) | (show 8 * _ ≤ _; omega) | (show 16 * _ ≤ _; omega) | (show 24 * _ ≤ _; omega) | (show _ * 1 ≤ _; omega) | (show _ * 8 ≤ _; omega) | (show _ * 16 ≤ _; omega) | (show _ * 24 ≤ _; omega) | exact Nat.le_trans (Nat.mul_le_mul_right _ (show _ ≤ 1073741824 by omega)) (by decide)) ?_; intro a22 c22)
      (apply EL.storeB; exact rfl; exact rfl; exact rfl; exact rfl; exact rfl; exact rfl; (case p => repeat constructor); exact (by first | decide | exact Nat.le_of_ble_eq_true rfl | simp))
      refine .gr ?_; repeat constructor
      refine .gr ?_; repeat constructor
      refine PX.round ⟨some ⟨a22, 0, none⟩, c22, flushM out run ++ [91, 46, b, 46, 93], none, 0, []⟩ ⟨hlt, by rw [htk, hts]⟩ ?_
      unfold THi
      dsimp only
      rw [BX_of (l := flushM out run ++ [91, 46, b, 46, 93]) (n := (flushM out run).length + 5) (by simp) List.map_append]
      exact (.i (by repeat constructor))
    · have hsp' : ¬ spc b = true := by rw [hsp]; simp
      by_cases hr0 : 0 < run.length
      · refine ES.rowForm (ad := ra) (len := run.length) (cap := rc) (n := run.length) (sz := 1) (cs := run.map Uv) (by repeat constructor) (fun hfm => ?_)
        obtain ⟨gr, rfl⟩ := hfm.2.2.2.2 hr0
        refine .gr ?_; repeat constructor
        (apply EL.loadB; exact rfl; exact rfl; exact rfl; exact rfl; exact rfl; (case hm => repeat constructor); exact rfl)
        refine EL.lenL rfl rfl rfl rfl rfl ?_
        refine EL.gtr rfl rfl rfl rfl ?_
        refine EL.move rfl rfl rfl ?_
        refine EL.rew (d := 26) (v' := .bool true) rfl (congrArg Value.bool (decide_eq_true (by omega))) ?_
        (apply EL.loadB; exact rfl; exact rfl; exact rfl; exact rfl; exact rfl; (case hm => repeat constructor); exact rfl)
        (apply EL.loadB; exact rfl; exact rfl; exact rfl; exact rfl; exact rfl; (case hm => repeat constructor); exact rfl)
        refine EL.lenL rfl rfl rfl rfl rfl ?_
        refine EL.sub1 rfl rfl rfl rfl (by omega) (by omega) ?_
        refine EL.indexAddrL1 (i := run.length - 1) rfl rfl rfl rfl rfl rfl rfl rfl (by omega) ?_
        refine EL.loadRm Uv 0 (l := run) rfl rfl rfl rfl rfl (by repeat constructor) (by omega) ?_
        refine EL.ofRV (RV.addOneB (b := run.getD (run.length - 1) 0) rfl rfl) rfl rfl rfl (by intro c h; cases h) ?_
        refine EL.move rfl rfl rfl ?_
        refine EL.neqI rfl rfl rfl rfl ?_
        refine EL.pickT rfl rfl rfl rfl ?_
        refine .gr ?_; repeat constructor
        refine ES.condN rfl (fun hne2 => ?_) (fun heq => ?_)
        · have hts : textStep (out, run) b = (flushM out run, [b]) := by
            show (if spc b = true then _ else if 0 < run.length ∧ run.getD (run.length - 1) 0 + 1 ≠ b then _ else _) = _
            rw [if_neg hsp', if_pos ⟨hr0, fun e => hne2 (by rw [e])⟩]
          refine .gr ?_; repeat constructor
          (apply EL.loadB; exact rfl; exact rfl; exact rfl; exact rfl; exact rfl; (case hm => repeat constructor); exact rfl)
          (refine EL.callK rfl rfl rfl rfl ent11 rfl (flush_c g4 g3 (some ⟨gr, 0, none⟩) rc run oa oc out (by omega) (by omega)) (by repeat constructor) ?_; rintro ⟨oa2, oc2⟩)
          refine .gr ?_; repeat constructor
          (apply EL.loadB; exact rfl; exact rfl; exact rfl; exact rfl; exact rfl; (case hm => repeat constructor); exact rfl)
          refine EL.move rfl rfl rfl ?_
          (refine EL.buildSlice1 rfl rfl rfl rfl rfl rfl rfl rfl rfl rfl ?_; intro b41)
          (refine EL.append1 rfl rfl rfl rfl rfl rfl rfl rfl rfl (by repeat constructor) (by repeat constructor) (by first | (intro u hu; simp [Value.cells] at hu; subst hu; rfl) | exact all1 rfl) (by rfl) (by unfold maxLen; omega) (by first | omega | (show 1 * _ ≤ _; omega) | (show 8 * _ ≤ _; omega) | (show 16 * _ ≤ _; omega) | (show 24 * _ ≤ _; omega) | (show _ * 1 ≤ _; omega) | (show _ * 8 ≤ _; omega) | (show _ * 16 ≤ _; omega) | (show _ * 24 ≤ _; omega) | exact Nat.le_trans (Nat.mul_le_mul_right _ (show _ ≤ 1073741824 by omega)) (by decide)) ?_; intro a42 c42)
          (apply EL.storeB; exact rfl; exact rfl; exact rfl; exact rfl; exact rfl; exact rfl; (case p => repeat constructor); exact (by first | decide | exact Nat.le_of_ble_eq_true rfl | simp))
          refine .gr ?_; repeat constructor
          refine .gr ?_; repeat constructor
          exact PX.round ⟨oa2, oc2, flushM out run, some ⟨a42, 0, none⟩, c42, [b]⟩ ⟨hlt, by rw [htk, hts]⟩ (.i (by repeat constructor))
        · have hts : textStep (out, run) b = (out, run ++ [b]) := by
            show (if spc b = true then _ else if 0 < run.length ∧ run.getD (run.length - 1) 0 + 1 ≠ b then _ else _) = _
            rw [if_neg hsp', if_neg (fun h => h.2 (UInt8.toNat_inj.1 (by omega)))]
          refine .gr ?_; repeat constructor
          (apply EL.loadB; exact rfl; exact rfl; exact rfl; exact rfl; exact rfl; (case hm => repeat constructor); exact rfl)
          refine EL.move rfl rfl rfl ?_
          (refine EL.buildSlice1 rfl rfl rfl rfl rfl rfl rfl rfl rfl rfl ?_; intro b41)
          (refine EL.append1 rfl rfl rfl rfl rfl rfl rfl rfl rfl (by repeat constructor) (by repeat constructor) (by first | (intro u hu; simp [Value.cells] at hu; subst hu; rfl) | exact all1 rfl) (by rfl) (by unfold maxLen; omega) (by first | omega | (show 1 * _ ≤ _; omega) | (show 8 * _ ≤ _; omega) | (show 16 * _ ≤ _; omega) | (show 24 * _ ≤ _; omega) | (show _ * 1 ≤ _; omega) | (show _ * 8 ≤ _; omega) | (show _ * 16 ≤ _; omega) | (show _ * 24 ≤ _; omega) | exact Nat.le_trans (Nat.mul_le_mul_right _ (show _ ≤ 1073741824 by omega)) (by decide)) ?_; intro a42 c42)
          (apply EL.storeB; exact rfl; exact rfl; exact rfl; exact rfl; exact rfl; exact rfl; (case p => repeat constructor); exact (by first | decide | exact Nat.le_of_ble_eq_true rfl | simp))
          refine .gr ?_; repeat constructor
          refine .gr ?_; repeat constructor
          refine PX.round ⟨oa, oc, out, some ⟨a42, 0, none⟩, c42, run ++ [b]⟩ ⟨hlt, by rw [htk, hts]⟩ ?_
          unfold THi
          dsimp only
          rw [BX_of (l := run ++ [b]) (n := run.length + 1) (by simp) List.map_append]
          exact (.i (by repeat constructor))
      · have hr1 : run = [] := List.eq_nil_of_length_eq_zero (by omega)
        have hts : textStep (out, run) b = (out, run ++ [b]) := by
          show (if spc b = true then _ else if 0 < run.length ∧ run.getD (run.length - 1) 0 + 1 ≠ b then _ else _) = _
          rw [if_neg hsp', if_neg (fun h => hr0 h.1)]
        refine .gr ?_; repeat constructor
        (apply EL.loadB; exact rfl; exact rfl; exact rfl; exact rfl; exact rfl; (case hm => repeat constructor); exact rfl)
        refine EL.lenL rfl rfl rfl rfl rfl ?_
        refine EL.gtr rfl rfl rfl rfl ?_
        refine EL.move rfl rfl rfl ?_
        refine EL.rew (d := 26) (v' := .bool false) rfl (congrArg Value.bool (decide_eq_false (by omega))) ?_
        refine EL.pass rfl rfl rfl ?_
        refine EL.pass rfl rfl rfl ?_
        refine EL.pass rfl rfl rfl ?_
        refine EL.pass rfl rfl rfl ?_
        refine EL.pass rfl rfl rfl ?_
        refine EL.pass rfl rfl rfl ?_
        refine EL.pass rfl rfl rfl ?_
        refine EL.pass rfl rfl rfl ?_
        refine EL.pass rfl rfl rfl ?_
        refine EL.pickF rfl rfl rfl rfl ?_
        refine .gr ?_; repeat constructor
        refine ES.condF rfl ?_
        refine .gr ?_; repeat constructor
        (apply EL.loadB; exact rfl; exact rfl; exact rfl; exact rfl; exact rfl; (case hm => repeat constructor); exact rfl)
        refine EL.move rfl rfl rfl ?_
        (refine EL.buildSlice1 rfl rfl rfl rfl rfl rfl rfl rfl rfl rfl ?_; intro b41)
        (refine EL.append1 rfl rfl rfl rfl rfl rfl rfl rfl rfl (by repeat constructor) (by repeat constructor) (by first | (intro u hu; simp [Value.cells] at hu; subst hu; rfl) | exact all1 rfl) (by rfl) (by unfold maxLen; omega) (by first | omega | (show 1 * _ ≤ _; omega) | (show 8 * _ ≤ _; omega) | (show 16 * _ ≤ _; omega) | (show 24 * _ ≤ _; omega) | (show _ * 1 ≤ _; omega) | (show _ * 8 ≤ _; omega) | (show _ * 16 ≤ _; omega) | (show _ * 24 ≤ _; omega) | exact Nat.le_trans (Nat.mul_le_mul_right _ (show _ ≤ 1073741824 by omega)) (by decide)) ?_; intro a42 c42)
        (apply EL.storeB; exact rfl; exact rfl; exact rfl; exact rfl; exact rfl; exact rfl; (case p => repeat constructor); exact (by first | decide | exact Nat.le_of_ble_eq_true rfl | simp))
        refine .gr ?_; repeat constructor
        refine .gr ?_; repeat constructor
        refine PX.round ⟨oa, oc, out, some ⟨a42, 0, none⟩, c42, run ++ [b]⟩ ⟨hlt, by rw [htk, hts]⟩ ?_
        unfold THi
        dsimp only
        rw [BX_of (l := run ++ [b]) (n := run.length + 1) (by simp) List.map_append]
        exact (.i (by repeat constructor))
  · obtain ⟨oa, oc, out, ra, rc, run⟩ := z
    obtain ⟨_, hst⟩ := hz
    have hyl : (ym s).length = (membersM s).length := by unfold ym; rw [List.length_map]
    rw [hyl, List.take_length] at hst
    dsimp only at hst
    rw [← hst] at hs0
    dsimp only at hs0
    have hln := fold_len (membersM s) ([91], [])
    rw [← hst] at hln
    simp only [List.length_singleton, List.length_nil] at hln
    have hfl := flush_len out run
    refine .gr ?_; repeat constructor
    (apply EL.loadB; exact rfl; exact rfl; exact rfl; exact rfl; exact rfl; (case hm => repeat constructor); exact rfl)
    (refine EL.callK rfl rfl rfl rfl ent11 rfl (flush_c g4 g3 ra rc run oa oc out (by omega) (by omega)) (by repeat constructor) ?_; rintro ⟨oa2, oc2⟩)
    refine .gr ?_; repeat constructor
    (apply EL.loadB; exact rfl; exact rfl; exact rfl; exact rfl; exact rfl; (case hm => repeat constructor); exact rfl)
    (refine EL.buildSlice1 rfl rfl rfl rfl rfl rfl rfl rfl rfl rfl ?_; intro b46)
    (refine EL.append1 rfl rfl rfl rfl rfl rfl rfl rfl rfl (by repeat constructor) (by repeat constructor) (by first | (intro u hu; simp [Value.cells] at hu; subst hu; rfl) | exact all1 rfl) (by rfl) (by unfold maxLen; omega) (by first | omega | (show 1 * _ ≤ _; omega) | (show 8 * _ ≤ _; omega) | (show 16 * _ ≤ _; omega) | (show 24 * _ ≤ _; omega) | (show _ * 1 ≤ _; omega) | (show _ * 8 ≤ _; omega) | (show _ * 16 ≤ _; omega) | (show _ * 24 ≤ _; omega) | exact Nat.le_trans (Nat.mul_le_mul_right _ (show _ ≤ 1073741824 by omega)) (by decide)) ?_; intro a47 c47)
    refine EL.bytesS (bs := flushM out run ++ [93]) rfl rfl rfl rfl rfl rfl rfl rfl rfl (by rw [List.map_append]; repeat constructor) ?_
    refine EL.assign rfl rfl rfl ?_
    refine .gr ?_; repeat constructor
    exact PX.retM [D] rfl (by repeat constructor) Tryd.results6 (.cons (.tmp rfl) .nil) (fun w h => ⟨(), by rw [hs0]; rfl, h.ent (.nil _)⟩)
end Go.Proofs.YtgoopgnnkhpmlaaDoor
