/- Layer 8 (setmatch): the law SetmatchForms returns true at every input. -/
import Derived.Test.YtblpgpgbnlhjlaaGe
import Derived.Test.YtblpgpgbnlhjlaaSlaw
namespace Go.Proofs.Ytblpgpgbnlhjlaa
open Go.ChangeShapes Go.WideShapes Go.ChangeAt
open Go Go.RowKit Sl
set_option maxRecDepth 100000
set_option maxHeartbeats 8000000
set_option linter.unusedVariables false
set_option linter.unusedSimpArgs false
attribute [local irreducible] ES EL PX wps

theorem spsC_get : ∀ (l : List Spn) (i : Nat) (r : Spn), l[i]? = some r → ∀ j u, (spC r)[j]? = some u → (spsC l)[i * 2 + j]? = some u
  | [], i, r, h, _, _, _ => by simp at h
  | r' :: l, 0, r, h, j, u, hj => by
    simp only [List.getElem?_cons_zero, Option.some.injEq] at h
    subst h
    have hlt := (List.getElem?_eq_some_iff.1 hj).1
    rw [Nat.zero_mul, Nat.zero_add]
    show (spC r' ++ spsC l)[j]? = some u
    rw [List.getElem?_append_left hlt]; exact hj
  | r' :: l, i + 1, r, h, j, u, hj => by
    simp only [List.getElem?_cons_succ] at h
    have ih := spsC_get l i r h j u hj
    have hl : (spC r').length = 2 := rfl
    show (spC r' ++ spsC l)[(i + 1) * 2 + j]? = some u
    rw [List.getElem?_append_right (by omega), show (i + 1) * 2 + j - (spC r').length = i * 2 + j by omega]
    exact ih
theorem same08_c (xs : List Spn) (ad1 ad2 : Option Addr) (cap1 cap2 : Nat) (hlen : xs.length ≤ 4611686018427387904) (w : World) (h1 : Rd w w.heap.size ad1 (spsC xs)) (h2 : Rd w w.heap.size ad2 (spsC xs)) :
    Pure Try.prog 19 #[.slice ad1 xs.length cap1, .slice ad2 xs.length cap2] (fun _ : Unit => .bool true) (fun _ => []) w := by
  have hl := spsC_len xs
  refine calls_of_ES TB Try.func19 rfl _ Try.ntmps19 rfl (Sat.start w) ?_
  refine .go ?_; repeat constructor
  refine EL.assign rfl rfl rfl ?_
  refine .go ?_; repeat constructor
  refine EL.move rfl rfl rfl ?_
  refine EL.lenL rfl rfl rfl rfl rfl ?_
  refine EL.move rfl rfl rfl ?_
  refine EL.lenL rfl rfl rfl rfl rfl ?_
  refine EL.neqI rfl rfl rfl rfl ?_
  refine .go ?_; repeat constructor
  refine ES.condN rfl (fun h => absurd rfl h) (fun _ => ?_)
  refine .go ?_; repeat constructor
  refine EL.assign rfl rfl rfl ?_
  refine .go ?_; repeat constructor
  refine ES.loop (σ := Nat) (fun i => i ≤ xs.length) (fun i => [(0, .slice ad1 xs.length cap1), (1, .slice ad2 xs.length cap2), (5, Iv (i : Nat))]) (fun _ => []) (fun i => xs.length - i) 0 (Nat.zero_le _) ⟨rfl, rfl, rfl, trivial⟩ (.i (by repeat constructor)) ?_
  intro i hi
  refine .go ?_; repeat constructor
  refine EL.move rfl rfl rfl ?_
  refine EL.move rfl rfl rfl ?_
  refine EL.lenL rfl rfl rfl rfl rfl ?_
  refine EL.lss rfl rfl rfl rfl ?_
  refine .go ?_; repeat constructor
  refine ES.condD rfl (fun hlt => ?_) (fun hge => ?_)
  · have hlt' : i < xs.length := by omega
    obtain ⟨p, hp⟩ : ∃ p, xs[i]? = some p := ⟨_, List.getElem?_eq_getElem hlt'⟩
    have hne : spsC xs ≠ [] := fun e => by rw [e] at hl; simp at hl; omega
    obtain ⟨g1, o1, rfl, _⟩ := h1 hne
    obtain ⟨g2, o2, rfl, _⟩ := h2 hne
    refine .g0 ?_; repeat constructor
    refine ES.draw (X := Unit) (fun _ => [(0, .slice (some ⟨g1, o1, none⟩) xs.length cap1), (1, .slice (some ⟨g2, o2, none⟩) xs.length cap2), (5, Iv (i : Nat)), (25, .bool false)]) (fun _ => []) [] mixed (.i (by repeat constructor)) ?_ (fun _ => ?_)
    · refine ED.take 0 rfl (by decide +kernel) CutX.no_panic (by decide +kernel) rfl rfl rfl (RV.move rfl) ?_
      refine ED.take 1 rfl (by decide +kernel) CutX.no_panic (by decide +kernel) rfl rfl rfl (RV.move rfl) ?_
      refine ED.take 2 rfl (by decide +kernel) CutX.no_panic (by decide +kernel) rfl rfl rfl (RV.indexAddrL rfl rfl rfl rfl rfl (by omega)) ?_
      refine ED.take 3 rfl (by decide +kernel) CutX.no_panic (by decide +kernel) rfl rfl rfl (RV.loadOldA (j := i * 2) (vs := spC p) rfl rfl rfl rfl (by simp [spC]) h1 (spsC_get xs i p hp)) ?_
      refine ED.take 4 rfl (by decide +kernel) CutX.no_panic (by decide +kernel) rfl rfl rfl (RV.move rfl) ?_
      refine ED.take 5 rfl (by decide +kernel) CutX.no_panic (by decide +kernel) rfl rfl rfl (RV.move rfl) ?_
      refine ED.take 6 rfl (by decide +kernel) CutX.no_panic (by decide +kernel) rfl rfl rfl (RV.indexAddrL rfl rfl rfl rfl rfl (by omega)) ?_
      refine ED.take 7 rfl (by decide +kernel) CutX.no_panic (by decide +kernel) rfl rfl rfl (RV.loadOldA (j := i * 2) (vs := spC p) rfl rfl rfl rfl (by simp [spC]) h2 (spsC_get xs i p hp)) ?_
      refine ED.take 8 rfl (by decide +kernel) CutX.no_panic (by decide +kernel) rfl rfl rfl (RV.neqAgg (b := true) rfl rfl eqg33 (fun w => (run_equal_st2 TB rfl rfl sth33 rfl rfl rfl rfl rfl rfl rfl rfl p.1 p.2 p.1 p.2 w).trans (by simp))) ?_
      refine ED.done (by decide +kernel) ?_
      exact PX.cutX () ⟨rfl, rfl, rfl, rfl, trivial⟩ (.i (by repeat constructor))
    refine ES.condF rfl ?_
    refine .go ?_; repeat constructor
    refine EL.move rfl rfl rfl ?_
    refine EL.add1 rfl rfl rfl rfl (by omega) ?_
    refine EL.assign rfl rfl rfl ?_
    refine .go ?_; repeat constructor
    exact PX.loop (i + 1) (by omega) (by omega) ⟨rfl, rfl, rfl, trivial⟩ (.i (by repeat constructor))
  refine .go ?_; repeat constructor
  refine EL.assign rfl rfl rfl ?_
  refine .go ?_; repeat constructor
  exact PX.ret rfl Try.results19 (.cons (.tmp rfl) .nil) (fun w hs => ⟨(), rfl, hs.ent (.i (by repeat constructor))⟩)
theorem awake08_c (w : World) (hG : GR w w.heap.size) : Pure Try.prog 17 #[] (fun _ : Unit => .bool true) (fun _ => []) w := by
  obtain ⟨m, hm, hf⟩ := Option.map_eq_some_iff.1 set_awake
  simp only [Prod.mk.injEq, decide_eq_true_eq] at hf
  obtain ⟨f1, f2, f3, f4⟩ := hf
  have hc := fun w hG => setMatch_c 60 [92, 40, 92, 40, 97, 92, 41, 42, 98, 92, 41, 42] [97, 97, 98, 98] 0 m hm (by decide) w hG
  rw [f1, f2, f3] at hc
  refine calls_of_ES TB Try.func17 rfl _ Try.ntmps17 rfl (Sat.start w) ?_
  refine .go ?_; repeat constructor
  refine EL.assign rfl rfl rfl ?_
  refine .go ?_; repeat constructor
  (refine EL.callXw rfl rfl rfl ent18 rfl (fun w hs => hc w (GR.sat hG hs)) ?_; intro x1)
  refine EL.move rfl rfl rfl ?_
  refine EL.extract rfl rfl rfl rfl ?_
  refine EL.extract rfl rfl rfl rfl ?_
  refine EL.extract rfl rfl rfl rfl ?_
  refine EL.extract rfl rfl rfl rfl ?_
  refine EL.assign rfl rfl rfl ?_
  refine EL.assign rfl rfl rfl ?_
  refine EL.assign rfl rfl rfl ?_
  refine EL.assign rfl rfl rfl ?_
  refine .go ?_; repeat constructor
  refine .go ?_; repeat constructor
  refine EL.move rfl rfl rfl ?_
  refine EL.eqlI rfl rfl rfl rfl ?_
  refine EL.move rfl rfl rfl ?_
  refine EL.rew (d := 13) (v' := .bool true) rfl (by first | rfl | (decide) | (simp)) ?_
  refine EL.move rfl rfl rfl ?_
  refine EL.pickT rfl rfl rfl rfl ?_
  refine EL.move rfl rfl rfl ?_
  refine EL.rew (d := 16) (v' := .bool true) rfl (by first | rfl | (decide) | (simp)) ?_
  refine EL.move rfl rfl rfl ?_
  refine EL.geq rfl rfl rfl rfl ?_
  refine EL.pickT rfl rfl rfl rfl ?_
  refine EL.move rfl rfl rfl ?_
  refine EL.rew (d := 20) (v' := .bool true) rfl (congrArg Value.bool (decide_eq_true (by omega))) ?_
  refine EL.move rfl rfl rfl ?_
  (apply EL.build2; exact rfl; exact rfl; exact rfl; exact rfl; exact rfl; exact rfl; exact rfl; exact rfl; exact rfl; exact rfl)
  (apply EL.build2; exact rfl; exact rfl; exact rfl; exact rfl; exact rfl; exact rfl; exact rfl; exact rfl; exact rfl; exact rfl)
  (apply EL.build2; exact rfl; exact rfl; exact rfl; exact rfl; exact rfl; exact rfl; exact rfl; exact rfl; exact rfl; exact rfl)
  (refine EL.buildSliceC (spsC [(0, 4), (3, 4), (1, 2)]).toArray rfl rfl rfl rfl rfl rfl (by kernel_rfl) rfl rfl rfl rfl ?_; intro b25)
  refine EL.callPw rfl rfl rfl ent19 rfl (fun w hs => same08_c [(0, 4), (3, 4), (1, 2)] _ _ _ _ (by decide) w (Rd.row hs (by repeat constructor) (by decide)) (Rd.row hs (by repeat constructor) (by decide))) ?_
  refine EL.pickT rfl rfl rfl rfl ?_
  refine EL.assign rfl rfl rfl ?_
  refine .go ?_; repeat constructor
  exact PX.ret rfl Try.results17 (.cons (.tmp rfl) .nil) (fun w hs => ⟨(), rfl, hs.ent (.nil _)⟩)
def lastS (a : Nat) : Spn := if a = 0 then (-1, -1) else ((a : Int) - 2 + ((a % 2 : Nat) : Int), (a : Int))
theorem forms_c (n m : UInt8) (w : World) (hG : GR w w.heap.size) : Pure Try.prog 5 #[Uv n, Uv m] (fun _ : Unit => .bool true) (fun _ => []) w := by
  have hn := n.toNat_lt
  have hm := m.toNat_lt
  obtain ⟨a, ha⟩ : ∃ a, a = n.toNat % 40 := ⟨_, rfl⟩
  obtain ⟨b, hb⟩ : ∃ b, b = m.toNat % 10 := ⟨_, rfl⟩
  have ha40 : a < 40 := by omega
  have hb10 : b < 10 := by omega
  obtain ⟨Fx, mx, x1, x2, x3, x4⟩ := form_x a (by omega)
  obtain ⟨Fy, my, y1, y2, y3, y4⟩ := form_y a (by omega)
  obtain ⟨Fz, mz, z1, z2, z3, z4⟩ := form_z a b (by omega)
  have cx := fun w hG => setMatch_c Fx _ _ 0 mx x1 (by decide) w hG
  have cy := fun w hG => setMatch_c Fy _ _ 0 my y1 (by decide) w hG
  have cz := fun w hG => setMatch_c Fz _ _ 0 mz z1 (by decide) w hG
  rw [x2, x3, x4] at cx
  rw [y2, y3, y4] at cy
  rw [z2, z3, z4] at cz
  refine calls_of_ES TB Try.func5 rfl _ Try.ntmps5 rfl (Sat.start w) ?_
  refine .go ?_; repeat constructor
  refine EL.assign rfl rfl rfl ?_
  refine .go ?_; repeat constructor
  refine EL.callPw rfl rfl rfl ent17 rfl (fun w hs => awake08_c w (GR.sat hG hs)) ?_
  refine EL.not rfl rfl rfl ?_
  refine .go ?_; repeat constructor
  refine ES.condF rfl ?_
  refine .go ?_; repeat constructor
  refine EL.move rfl rfl rfl ?_
  refine EL.remN (n := 40) rfl rfl rfl rfl (by omega) ?_
  (refine EL.convN rfl rfl rfl rfl rfl rfl (by simp only [kmax]; omega) ?_; rw [← ha])
  refine EL.move rfl rfl rfl ?_
  refine EL.remN (n := 10) rfl rfl rfl rfl (by omega) ?_
  (refine EL.convN rfl rfl rfl rfl rfl rfl (by simp only [kmax]; omega) ?_; rw [← hb])
  refine EL.assign rfl rfl rfl ?_
  refine EL.assign rfl rfl rfl ?_
  refine .go ?_; repeat constructor
  refine EL.assign rfl rfl rfl ?_
  refine EL.assign rfl rfl rfl ?_
  refine .go ?_; repeat constructor
  refine EL.move rfl rfl rfl ?_
  refine EL.move rfl rfl rfl ?_
  refine .go ?_; repeat constructor
  refine ES.loop (σ := Nat) (fun i => i ≤ a) (fun i => [(5, Iv (a : Nat)), (6, Iv (b : Nat)), (7, Sv (List.replicate i 97)), (8, Sv []), (26, Iv (a : Nat)), (27, Iv (i : Nat))]) (fun _ => []) (fun i => a - i) 0 (Nat.zero_le _) ⟨rfl, rfl, rfl, rfl, rfl, rfl, trivial⟩ (.i (by repeat constructor)) ?_
  intro i hi
  refine .go ?_; repeat constructor
  refine EL.lss rfl rfl rfl rfl ?_
  refine .go ?_; repeat constructor
  refine ES.condD rfl (fun hlt => ?_) (fun hge => ?_)
  · have e : List.replicate i (97 : UInt8) ++ [97] = List.replicate (i + 1) 97 := (List.replicate_succ' ..).symm
    have hli : (List.replicate i (97 : UInt8)).length = i := List.length_replicate
    refine .go ?_; repeat constructor
    refine EL.move rfl rfl rfl ?_
    refine EL.cat rfl rfl rfl rfl (by first | omega | (simp only [List.length_append, List.length_cons, List.length_nil]; omega)) ?_
    refine EL.assign rfl rfl rfl ?_
    refine .go ?_; repeat constructor
    refine EL.add1 rfl rfl rfl rfl (by omega) ?_
    refine EL.move rfl rfl rfl ?_
    refine .go ?_; repeat constructor
    exact PX.loop (i + 1) (by omega) (by omega) ⟨rfl, rfl, getA rfl (congrArg Sv e), rfl, rfl, rfl, trivial⟩ (.i (by repeat constructor))
  obtain rfl : i = a := by omega
  refine .go ?_; repeat constructor
  refine EL.move rfl rfl rfl ?_
  refine EL.move rfl rfl rfl ?_
  refine .go ?_; repeat constructor
  refine ES.loop (σ := Nat) (fun k => k ≤ b) (fun k => [(5, Iv (i : Nat)), (6, Iv (b : Nat)), (7, Sv (List.replicate i 97)), (8, Sv (List.replicate k 98)), (32, Iv (b : Nat)), (33, Iv (k : Nat))]) (fun _ => []) (fun k => b - k) 0 (Nat.zero_le _) ⟨rfl, rfl, rfl, rfl, rfl, rfl, trivial⟩ (.i (by repeat constructor)) ?_
  intro k hk
  refine .go ?_; repeat constructor
  refine EL.lss rfl rfl rfl rfl ?_
  refine .go ?_; repeat constructor
  refine ES.condD rfl (fun hlt2 => ?_) (fun hge2 => ?_)
  · have e : List.replicate k (98 : UInt8) ++ [98] = List.replicate (k + 1) 98 := (List.replicate_succ' ..).symm
    have hli : (List.replicate k (98 : UInt8)).length = k := List.length_replicate
    refine .go ?_; repeat constructor
    refine EL.move rfl rfl rfl ?_
    refine EL.cat rfl rfl rfl rfl (by first | omega | (simp only [List.length_append, List.length_cons, List.length_nil]; omega)) ?_
    refine EL.assign rfl rfl rfl ?_
    refine .go ?_; repeat constructor
    refine EL.add1 rfl rfl rfl rfl (by omega) ?_
    refine EL.move rfl rfl rfl ?_
    refine .go ?_; repeat constructor
    exact PX.loop (k + 1) (by omega) (by omega) ⟨rfl, rfl, rfl, getA rfl (congrArg Sv e), rfl, rfl, trivial⟩ (.i (by repeat constructor))
  obtain rfl : k = b := by omega
  have hla : (List.replicate i (97 : UInt8)).length = i := List.length_replicate
  have hlb : (List.replicate k (98 : UInt8)).length = k := List.length_replicate
  refine .go ?_; repeat constructor
  refine EL.move rfl rfl rfl ?_
  (refine EL.callXw rfl rfl rfl ent18 rfl (fun w hs => cx w (GR.sat hG hs)) ?_; intro px)
  refine EL.move rfl rfl rfl ?_
  refine EL.extract rfl rfl rfl rfl ?_
  refine EL.extract rfl rfl rfl rfl ?_
  refine EL.extract rfl rfl rfl rfl ?_
  refine EL.extract rfl rfl rfl rfl ?_
  refine EL.assign rfl rfl rfl ?_
  refine EL.assign rfl rfl rfl ?_
  refine EL.assign rfl rfl rfl ?_
  refine EL.assign rfl rfl rfl ?_
  refine .go ?_; repeat constructor
  refine .go ?_; repeat constructor
  refine EL.move rfl rfl rfl ?_
  refine EL.neqI rfl rfl rfl rfl ?_
  refine EL.move rfl rfl rfl ?_
  refine EL.rew (d := 47) (v' := .bool false) rfl (by first | rfl | (decide) | (simp)) ?_
  refine EL.move rfl rfl rfl ?_
  refine EL.not rfl rfl rfl ?_
  refine EL.pickF rfl rfl rfl rfl ?_
  refine EL.move rfl rfl rfl ?_
  refine EL.rew (d := 51) (v' := .bool false) rfl (by first | rfl | (decide) | (simp)) ?_
  refine EL.move rfl rfl rfl ?_
  refine EL.move rfl rfl rfl ?_
  (apply EL.build2; exact rfl; exact rfl; exact rfl; exact rfl; exact rfl; exact rfl; exact rfl; exact rfl; exact rfl; exact rfl)
  refine EL.move rfl rfl rfl ?_
  (apply EL.build2; exact rfl; exact rfl; exact rfl; exact rfl; exact rfl; exact rfl; exact rfl; exact rfl; exact rfl; exact rfl)
  refine EL.move rfl rfl rfl ?_
  refine EL.move rfl rfl rfl ?_
  (apply EL.build2; exact rfl; exact rfl; exact rfl; exact rfl; exact rfl; exact rfl; exact rfl; exact rfl; exact rfl; exact rfl)
  (refine EL.buildSliceC (spsC [(0, (i : Int)), (0, (i : Int)), ((i : Int), (i : Int))]).toArray rfl rfl rfl rfl rfl rfl (by kernel_rfl) rfl rfl rfl rfl ?_; intro b60)
  refine EL.callPw rfl rfl rfl ent19 rfl (fun w hs => same08_c [(0, (i : Int)), (0, (i : Int)), ((i : Int), (i : Int))] _ _ _ _ (Nat.le_of_ble_eq_true rfl) w (Rd.row hs (by repeat constructor) (by decide)) (Rd.row hs (by repeat constructor) (by decide))) ?_
  refine EL.not rfl rfl rfl ?_
  refine EL.pickF rfl rfl rfl rfl ?_
  refine .go ?_; repeat constructor
  refine ES.condF rfl ?_
  refine .go ?_; repeat constructor
  refine EL.move rfl rfl rfl ?_
  refine EL.sub_ ((i : Int) - 2) rfl rfl rfl rfl (wrap_i64 _ (by omega) (by omega)) ?_
  refine EL.move rfl rfl rfl ?_
  refine EL.remN (n := 2) rfl rfl rfl rfl (by omega) ?_
  refine EL.add ((i : Int) - 2 + ((i % 2 : Nat) : Int)) rfl rfl rfl rfl (wrap_i64 _ (by omega) (by omega)) ?_
  refine EL.move rfl rfl rfl ?_
  (apply EL.build2; exact rfl; exact rfl; exact rfl; exact rfl; exact rfl; exact rfl; exact rfl; exact rfl; exact rfl; exact rfl)
  (refine EL.alloc rfl rfl rfl ?_; intro g13)
  (apply EL.storeAll; exact rfl; exact rfl; exact rfl; exact rfl; exact rfl; (case p => repeat constructor); exact rfl; (case h1 => exact (by first | rfl | exact all1 rfl | (intro u hu; simp only [List.mem_cons, List.not_mem_nil, or_false] at hu; rcases hu with rfl | rfl | rfl | rfl <;> rfl) | (intro u hu; simp at hu; rcases hu with rfl | rfl | rfl | rfl <;> rfl) | (intro u hu; simp at hu; rcases hu with rfl | rfl | rfl <;> rfl) | (intro u hu; simp at hu; rcases hu with rfl | rfl <;> rfl) | (intro u hu; simp at hu; obtain ⟨_, _, rfl⟩ := hu; rfl))))
  refine .go ?_; repeat constructor
  refine EL.move rfl rfl rfl ?_
  refine EL.eqlI rfl rfl rfl rfl ?_
  refine .go ?_; repeat constructor
  refine ES.cutC (X := Unit) (fun _ => [(5, Iv (i : Nat)), (6, Iv (k : Nat)), (7, Sv (List.replicate i 97)), (8, Sv (List.replicate k 98)), (13, Pv g13 0)]) (fun _ => HA.blk g13 (.cells (spC (lastS i)).toArray 33) :: []) ?_ (fun _ => ?_)
  · refine ES.condD rfl (fun h0 => ?_) (fun h0 => ?_)
    · have e : lastS i = (-1, -1) := if_pos (by omega)
      rw [e]
      refine .go ?_; repeat constructor
      (apply EL.build2; exact rfl; exact rfl; exact rfl; exact rfl; exact rfl; exact rfl; exact rfl; exact rfl; exact rfl; exact rfl)
      (apply EL.storeAll; exact rfl; exact rfl; exact rfl; exact rfl; exact rfl; (case p => repeat constructor); exact rfl; (case h1 => exact (by first | rfl | exact all1 rfl | (intro u hu; simp only [List.mem_cons, List.not_mem_nil, or_false] at hu; rcases hu with rfl | rfl | rfl | rfl <;> rfl) | (intro u hu; simp at hu; rcases hu with rfl | rfl | rfl | rfl <;> rfl) | (intro u hu; simp at hu; rcases hu with rfl | rfl | rfl <;> rfl) | (intro u hu; simp at hu; rcases hu with rfl | rfl <;> rfl) | (intro u hu; simp at hu; obtain ⟨_, _, rfl⟩ := hu; rfl))))
      refine .go ?_; repeat constructor
      exact PX.cutX () ⟨rfl, rfl, rfl, rfl, rfl, trivial⟩ (.i (by repeat constructor))
    · have e : lastS i = ((i : Int) - 2 + ((i % 2 : Nat) : Int), (i : Int)) := if_neg (by omega)
      rw [e]
      refine .go ?_; repeat constructor
      exact PX.cutX () ⟨rfl, rfl, rfl, rfl, rfl, trivial⟩ (.i (by repeat constructor))
  refine .go ?_; repeat constructor
  refine EL.move rfl rfl rfl ?_
  (refine EL.callXw rfl rfl rfl ent18 rfl (fun w hs => cy w (GR.sat hG hs)) ?_; intro py)
  refine EL.move rfl rfl rfl ?_
  refine EL.extract rfl rfl rfl rfl ?_
  refine EL.extract rfl rfl rfl rfl ?_
  refine EL.extract rfl rfl rfl rfl ?_
  refine EL.extract rfl rfl rfl rfl ?_
  refine EL.assign rfl rfl rfl ?_
  refine EL.assign rfl rfl rfl ?_
  refine EL.assign rfl rfl rfl ?_
  refine EL.assign rfl rfl rfl ?_
  refine .go ?_; repeat constructor
  refine .go ?_; repeat constructor
  refine EL.move rfl rfl rfl ?_
  refine EL.neqI rfl rfl rfl rfl ?_
  refine EL.move rfl rfl rfl ?_
  refine EL.rew (d := 83) (v' := .bool false) rfl (by first | rfl | (decide) | (simp)) ?_
  refine EL.move rfl rfl rfl ?_
  refine EL.not rfl rfl rfl ?_
  refine EL.pickF rfl rfl rfl rfl ?_
  refine EL.move rfl rfl rfl ?_
  refine EL.rew (d := 87) (v' := .bool false) rfl (by first | rfl | (decide) | (simp)) ?_
  refine EL.move rfl rfl rfl ?_
  refine EL.move rfl rfl rfl ?_
  (apply EL.build2; exact rfl; exact rfl; exact rfl; exact rfl; exact rfl; exact rfl; exact rfl; exact rfl; exact rfl; exact rfl)
  (apply EL.loadAggB; exact rfl; exact rfl; exact rfl; exact rfl; exact rfl; (case hm => repeat constructor); exact rfl)
  (refine EL.buildSliceC (spsC [(0, (i : Int)), lastS i]).toArray rfl rfl rfl rfl rfl rfl (by kernel_rfl) rfl rfl rfl rfl ?_; intro b92)
  refine EL.callPw rfl rfl rfl ent19 rfl (fun w hs => same08_c [(0, (i : Int)), lastS i] _ _ _ _ (Nat.le_of_ble_eq_true rfl) w (Rd.row hs (by repeat constructor) (by decide)) (Rd.row hs (by repeat constructor) (by decide))) ?_
  refine EL.not rfl rfl rfl ?_
  refine EL.pickF rfl rfl rfl rfl ?_
  refine .go ?_; repeat constructor
  refine ES.condF rfl ?_
  refine .go ?_; repeat constructor
  refine EL.move rfl rfl rfl ?_
  refine EL.move rfl rfl rfl ?_
  refine EL.cat rfl rfl rfl rfl (by first | omega | (simp only [List.length_append, List.length_cons, List.length_nil]; omega)) ?_
  (refine EL.callXw rfl rfl rfl ent18 rfl (fun w hs => cz w (GR.sat hG hs)) ?_; intro pz)
  refine EL.move rfl rfl rfl ?_
  refine EL.extract rfl rfl rfl rfl ?_
  refine EL.extract rfl rfl rfl rfl ?_
  refine EL.extract rfl rfl rfl rfl ?_
  refine EL.extract rfl rfl rfl rfl ?_
  refine EL.assign rfl rfl rfl ?_
  refine EL.assign rfl rfl rfl ?_
  refine EL.assign rfl rfl rfl ?_
  refine EL.assign rfl rfl rfl ?_
  refine .go ?_; repeat constructor
  refine .go ?_; repeat constructor
  refine EL.move rfl rfl rfl ?_
  refine EL.eqlI rfl rfl rfl rfl ?_
  refine EL.move rfl rfl rfl ?_
  refine EL.rew (d := 107) (v' := .bool true) rfl (by first | rfl | (decide) | (simp)) ?_
  refine EL.move rfl rfl rfl ?_
  refine EL.pickT rfl rfl rfl rfl ?_
  refine EL.move rfl rfl rfl ?_
  refine EL.rew (d := 110) (v' := .bool true) rfl (by first | rfl | (decide) | (simp)) ?_
  refine EL.move rfl rfl rfl ?_
  refine EL.move rfl rfl rfl ?_
  refine EL.move rfl rfl rfl ?_
  refine EL.addN rfl rfl rfl rfl rfl (by omega) ?_
  (apply EL.build2; exact rfl; exact rfl; exact rfl; exact rfl; exact rfl; exact rfl; exact rfl; exact rfl; exact rfl; exact rfl)
  refine EL.move rfl rfl rfl ?_
  (apply EL.build2; exact rfl; exact rfl; exact rfl; exact rfl; exact rfl; exact rfl; exact rfl; exact rfl; exact rfl; exact rfl)
  (apply EL.build2; exact rfl; exact rfl; exact rfl; exact rfl; exact rfl; exact rfl; exact rfl; exact rfl; exact rfl; exact rfl)
  refine EL.move rfl rfl rfl ?_
  refine EL.move rfl rfl rfl ?_
  refine EL.move rfl rfl rfl ?_
  refine EL.addN rfl rfl rfl rfl rfl (by omega) ?_
  (apply EL.build2; exact rfl; exact rfl; exact rfl; exact rfl; exact rfl; exact rfl; exact rfl; exact rfl; exact rfl; exact rfl)
  (refine EL.buildSliceC (spsC [(0, ((i + k : Nat) : Int)), (0, (i : Int)), (-1, -1), ((i : Int), ((i + k : Nat) : Int))]).toArray rfl rfl rfl rfl rfl rfl (by kernel_rfl) rfl rfl rfl rfl ?_; intro b124)
  refine EL.callPw rfl rfl rfl ent19 rfl (fun w hs => same08_c [(0, ((i + k : Nat) : Int)), (0, (i : Int)), (-1, -1), ((i : Int), ((i + k : Nat) : Int))] _ _ _ _ (Nat.le_of_ble_eq_true rfl) w (Rd.row hs (by repeat constructor) (by decide)) (Rd.row hs (by repeat constructor) (by decide))) ?_
  refine EL.pickT rfl rfl rfl rfl ?_
  refine EL.assign rfl rfl rfl ?_
  refine .go ?_; repeat constructor
  exact PX.ret rfl Try.results5 (.cons (.tmp rfl) .nil) (fun w hs => ⟨(), rfl, hs.ent (.nil _)⟩)
theorem setmatchForms_lifted (os : Os) (started : os.Started) (H : Type) (enc : TypeId × Value → H) :
    ReturnsInHanded {} Try.checked os 5 .any (Rows.setmatchFormsSpec.pre6 enc Try.prog Try.f5 Rows.setmatchFormsRow.domain false) (Rows.setmatchFormsSpec.post enc Try.prog Try.f5 false true false false) := by
  refine returnsInHanded_of_change_shaped (C := Try.checked) own started (by kernel_rfl) Try.func5
    (ChangeSpec.witness6 (enc := enc) (C := Try.checked) false ⟨#[], #[.int .u8 0, .int .u8 0], []⟩ 8 (by kernel_rfl) (by kernel_rfl) (by kernel_rfl) (by kernel_rfl)) ?_
  intro W base args ds gs before hval0 hW _ hsz hsh _
  have hk : (DataW.weightsEach Try.prog (Try.f5.params.toList ++ []) (ds ++ gs)).all (· ≤ reachBytes) = true := hsz
  have hval : ∀ (j : Nat) t v, Try.f5.params[j]? = some t → args[j]? = some v → Value.okWide Try.prog W .any base t v := hval0
  have hW1 : DataW.Whole enc Try.prog Try.f5.params.toList Rows.setmatchFormsSpec.vars false W args.toList ds gs before := hW
  have hW' := hW1
  obtain ⟨p, q, hA0, hV, rfl, hfz, hnd⟩ := hW1
  have hA : DataW.TrodAll enc Try.prog W 0 (fun _ => true) true Try.f5.params.toList args.toList ds p := hA0
  rw [Try.params5] at hA hval hk
  obtain ⟨v0, vs0, d0, ds0, p0, q0, hargs0, rfl, rfl, h0, r0⟩ := trodAll_cons hA
  obtain ⟨v1, vs1, d1, ds1, p1, q1, hargs1, rfl, rfl, h1, r1⟩ := trodAll_cons r0
  obtain ⟨rfl, rfl, rfl⟩ := trodAll_nil r1
  subst hargs1
  obtain rfl : args = #[v0, v1] := by cases args; simp_all
  obtain ⟨rfl, rfl⟩ := trodVars_none hV
  obtain ⟨b0, rfl, rfl⟩ := open_uv Try.underlying5 (hval 0 5 v0 rfl rfl) h0
  obtain ⟨b1, rfl, rfl⟩ := open_uv Try.underlying5 (hval 1 5 v1 rfl rfl) h1
  refine (forms_c b0 b1 W (GR.of hsh)).mono fun e W' ⟨_, he, hs⟩ => ⟨_, he, ?_⟩
  exact law_true (s := Rows.setmatchFormsSpec) laidOut rfl Try.underlying4 (by kernel_rfl) rfl false rfl rfl rfl hW' hs.below
theorem setmatchForms_holds : Rows.SetmatchFormsSaid :=
  OpenClaim.holds_of_wide 5 Try.f5 rfl rfl rfl rfl rfl rfl rfl ⟨rfl, rfl, rfl, rfl, rfl⟩ rfl rfl rfl rfl rfl (by kernel_rfl) Try.func5 (by kernel_rfl)
    (of_decide_eq_true (by kernel_rfl)) (by unfold Func.isWrapper; first | (rw [if_pos (by decide +kernel)]; kernel_rfl) | (rw [if_neg (by decide +kernel)]; exact ⟨rfl, rfl⟩))
    (fun os started H enc _ => setmatchForms_lifted os started H enc)
end Go.Proofs.Ytblpgpgbnlhjlaa
