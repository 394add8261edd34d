/- Layer 22: PickLast. -/
import Derived.Test.YtblpgpgbnlhjlaaQf
import Derived.Test.YtblpgpgbnlhjlaaSlaw
namespace Go.Proofs.Ytblpgpgbnlhjlaa
open Go.ChangeShapes Go.WideShapes Go.ChangeAt
open Go Go.RowKit Sl
set_option maxRecDepth 100000
set_option maxHeartbeats 8000000
set_option linter.unusedVariables false
set_option linter.unusedSimpArgs false
attribute [local irreducible] ES EL PX wps

section
variable {C : Cx} {all : Array Oper} {ops : List Oper} {Q : Qt} {E : Env} {H : List HA} {d ty : Nat} {pos : String} {af : Array Edge} {gd : Option (Nat × Bool)} {x y : Operand}
theorem EL.minI' {m n : Int} {ts : Array TypeId} (hg : guardOk all E gd = some true) (hx : E.ev x = some (Iv m)) (hy : E.ev y = some (Iv n)) (hd : Nat.blt d C.n = true) (r : Int) (hr : (if n < m then n else m) = r)
    (k : EL C all ops Q ((d, Iv r) :: E) H) : EL C all (⟨some d, .call { callee := .builtin .min, args := #[x, y], argTypes := ts }, ty, pos, af, gd⟩ :: ops) Q E H :=
  EL.val _ hg rfl hd (by simp) (fun a w ha => by
    have h : (Builtin.min_ ts ty #[Iv m, Iv n]).run C.P w = .ok (Iv r) w := by
      simp only [Builtin.min_, List.foldlM_cons, List.foldlM_nil, Builtin.min2, Sem.run_bind, Sem.run_pure, Result.andThen, hr]
    simp only [execOp, ha.1.ev hx, ha.1.ev hy, resolve, invoke, builtin, Sem.run_bind, Sem.run_pure, List.map_toArray, List.map_cons, List.map_nil, h, Result.andThen]) k
end
/-! small BREs answer at every line -/
theorem endsM_steps {A : AM × Nat} (hr : A.1.Room 0) {s : List UInt8} (hs : s.length ≤ 1024) (i st : Nat) : (endsM A s i st).steps ≤ st + 17609365913600 :=
  floodM_steps (by have := hr.out; omega) (fun l hl => by have := hr.ro l hl; omega) s hs (0, i) A.2 true st
theorem find_total {A : AM × Nat} (hr : A.1.Room 0) {s : List UInt8} (hs : s.length ≤ 1024) : ∀ (n i st : Nat), st + n * 17609365913600 ≤ 576460752303423488 → ∃ x, findM s A n i st = some x
  | 0, _, _, _ => ⟨_, rfl⟩
  | n + 1, i, st, h => by
    have h1 := endsM_steps hr hs i st
    rw [findM, if_pos (by omega)]
    split
    · exact ⟨_, rfl⟩
    · exact find_total hr hs n (i + 1) _ (by omega)
theorem set_byte {t s : List UInt8} (hs : s.length ≤ 1024) {S : BS} (he : (parseM t).e = 0) (hb : (measM (parseM t).tree).back = false) (hg : (measM (parseM t).tree).grp = 0) (ht : (parseM t).tree = .cat [.byte S]) : ∃ m, setM 9 t s 0 = some m ∧ m.e = 0 := by
  have hc : costL [RE.cat [.byte S]] + 1 ≤ 131072 := by simp [costL, RE.cost]
  obtain ⟨hr, _⟩ := make_room [RE.cat [.byte S]] hc
  unfold setM
  rw [if_neg (fun h => h he), if_neg (by rw [hb]; simp), if_neg (by omega), if_neg (by omega), if_neg (by rw [hg]; simp), hg, ht]
  unfold setGo
  rw [if_pos hc]
  obtain ⟨x, hx⟩ := find_total hr hs (s.length + 1 - (0 : Int).toNat) (0 : Int).toNat 0 (by simp; omega)
  rw [hx]
  obtain ⟨o, st⟩ := x
  cases o with
  | none => exact ⟨_, rfl, rfl⟩
  | some p => exact ⟨_, rfl, rfl⟩
theorem set_empty {t s : List UInt8} (hs : s.length ≤ 1024) (he : (parseM t).e = 0) (hb : (measM (parseM t).tree).back = false) (hg : (measM (parseM t).tree).grp = 0) (ht : (parseM t).tree = .cat []) : ∃ m, setM 9 t s 0 = some m ∧ m.e = 0 ∧ m.ok = true := by
  have hc : costL [RE.cat []] + 1 ≤ 131072 := by simp [costL, RE.cost]
  obtain ⟨hr, hlt⟩ := make_room [RE.cat []] hc
  unfold setM
  rw [if_neg (fun h => h he), if_neg (by rw [hb]; simp), if_neg (by omega), if_neg (by omega), if_neg (by rw [hg]; simp), hg, ht]
  unfold setGo
  rw [if_pos hc, show s.length + 1 - (0 : Int).toNat = s.length + 1 from rfl, findM, if_pos (Nat.zero_le _)]
  obtain ⟨done, hd⟩ := flood_spec hr.eo s (x0 := (0, 0)) (by omega) (Nat.zero_le _) (makeM [RE.cat []]).2 true 0
  have hm : (endsM (makeM [RE.cat []]) s (0 : Int).toNat 0).marks.getD 0 false = true := (hd.marks 0 (Nat.zero_le _)).2 .here
  have hl : ∃ j, lastT (endsM (makeM [RE.cat []]) s (0 : Int).toNat 0).marks (0 : Int).toNat (s.length + 1 - (0 : Int).toNat) = some j := by
    cases hx : lastT (endsM (makeM [RE.cat []]) s (0 : Int).toNat 0).marks (0 : Int).toNat (s.length + 1 - (0 : Int).toNat) with
    | some j => exact ⟨j, rfl⟩
    | none =>
      unfold lastT at hx
      rw [List.find?_eq_none] at hx
      exact absurd hm (hx 0 ((mem_dnL _).2 (by simp)))
  obtain ⟨j, hj⟩ := hl
  rw [hj]
  exact ⟨_, rfl, rfl, rfl⟩
theorem re97 : ∃ S, (parseM [97]).tree = .cat [.byte S] := ⟨_, rfl⟩
theorem re98 : ∃ S, (parseM [98]).tree = .cat [.byte S] := ⟨_, rfl⟩
theorem re0 : (parseM []).tree = .cat [] := rfl
def ansP (oA oB : Bool) (t : List UInt8) : Bool × Int := if t = [97] then (oA, 0) else if t = [98] then (oB, 0) else (true, 0)
theorem ans_last (s : List UInt8) (hs : s.length ≤ 1024) : ∃ oA oB, ∀ t, t = [97] ∨ t = [98] ∨ t = [] → Ans t s (ansP oA oB t).1 (ansP oA oB t).2 := by
  obtain ⟨S, hS⟩ := re97
  obtain ⟨S', hS'⟩ := re98
  obtain ⟨m1, h1, e1⟩ := set_byte hs (by decide +kernel) (by decide +kernel) (by decide +kernel) hS
  obtain ⟨m2, h2, e2⟩ := set_byte hs (by decide +kernel) (by decide +kernel) (by decide +kernel) hS'
  obtain ⟨m3, h3, e3, o3⟩ := set_empty hs (by decide +kernel) (by decide +kernel) (by decide +kernel) re0
  refine ⟨m1.ok, m2.ok, fun t ht => ?_⟩
  rcases ht with rfl | rfl | rfl
  · exact ⟨by decide, by decide +kernel, 9, m1, h1, rfl, e1⟩
  · exact ⟨by decide, by decide +kernel, 9, m2, h2, rfl, e2⟩
  · exact ⟨by decide, by decide +kernel, 9, m3, h3, o3, e3⟩
def rowsE : List Rw := [⟨mtA [], ⟨0, 0, []⟩, false⟩, ⟨mtA [97], ⟨0, 0, []⟩, false⟩, ⟨mtA [98], ⟨0, 0, []⟩, false⟩]
abbrev lsA : Chc := ⟨⟨mtA [], ⟨0, 0, []⟩, false⟩, none, none, false⟩
abbrev lsB (g : Nat) : Chc := ⟨⟨mtA [97], ⟨0, 0, []⟩, false⟩, some (g, [97]), none, false⟩
abbrev lsC (g : Nat) : Chc := ⟨⟨mtA [98], ⟨0, 0, []⟩, false⟩, some (g, [98]), none, false⟩
theorem PkOk.last {z : PkSt} (h : PkOk rowsE z) : ∃ ga gb, z.cs = [lsA, lsB ga, lsC gb] ∧ (ga, [97]) ∈ z.ms ∧ (gb, [98]) ∈ z.ms ∧ ∀ q ∈ z.ms, q.2 = [97] ∨ q.2 = [98] ∨ q.2 = [] := by
  obtain ⟨h1, h2, h3, h4, h5⟩ := h
  obtain ⟨ad, cap, cs, ms⟩ := z
  dsimp only at h1 h2 h3 h4 h5 ⊢
  unfold rowsE at h1
  obtain ⟨c1, cs, rfl, e1, h1⟩ := List.map_eq_cons_iff.1 h1
  obtain ⟨c2, cs, rfl, e2, h1⟩ := List.map_eq_cons_iff.1 h1
  obtain ⟨c3, cs, rfl, e3, h1⟩ := List.map_eq_cons_iff.1 h1
  rw [List.map_eq_nil_iff] at h1
  subst h1
  obtain ⟨r1, a1, b1, o1⟩ := c1
  obtain ⟨r2, a2, b2, o2⟩ := c2
  obtain ⟨r3, a3, b3, o3⟩ := c3
  dsimp only at e1 e2 e3
  subst e1 e2 e3
  have m1 : ∀ (x y z : Chc), x ∈ [x, y, z] := fun x y z => List.mem_cons_self ..
  have m2 : ∀ (x y z : Chc), y ∈ [x, y, z] := fun x y z => List.mem_cons_of_mem _ (List.mem_cons_self ..)
  have m3 : ∀ (x y z : Chc), z ∈ [x, y, z] := fun x y z => List.mem_cons_of_mem _ (List.mem_cons_of_mem _ (List.mem_cons_self ..))
  have hA : hasM (mtA [97]) := by refine ⟨rfl, by decide, by decide +kernel⟩
  have hB : hasM (mtA [98]) := by refine ⟨rfl, by decide, by decide +kernel⟩
  have hE : ¬ hasM (mtA []) := fun h => h.2.1 rfl
  have hno : ¬ hasM ⟨0, 0, []⟩ := fun h => by have := h.1; simp at this
  obtain rfl : o1 = false := h2 _ (m1 _ _ _)
  obtain rfl : o2 = false := h2 _ (m2 _ _ _)
  obtain rfl : o3 = false := h2 _ (m3 _ _ _)
  obtain rfl : a1 = none := (h3 _ (m1 _ _ _)).1.none hE
  obtain rfl : b1 = none := (h4 _ (m1 _ _ _)).1.none hno
  obtain rfl : b2 = none := (h4 _ (m2 _ _ _)).1.none hno
  obtain rfl : b3 = none := (h4 _ (m3 _ _ _)).1.none hno
  obtain ⟨ga, hga⟩ := (h3 _ (m2 _ _ _)).1.some hA
  obtain ⟨gb, hgb⟩ := (h3 _ (m3 _ _ _)).1.some hB
  dsimp only at hga hgb
  subst hga hgb
  refine ⟨ga, gb, rfl, (h3 _ (m2 _ _ _)).2 _ rfl, (h3 _ (m3 _ _ _)).2 _ rfl, fun q hq => ?_⟩
  obtain ⟨r, hr, h⟩ := h5 q hq
  simp only [rowsE, List.mem_cons, List.not_mem_nil, or_false] at hr
  rcases hr with rfl | rfl | rfl <;> rcases h with ⟨h, e⟩ | ⟨h, e⟩
  · exact absurd h hE
  · exact absurd h hno
  · exact .inl e
  · exact absurd h hno
  · exact .inr (.inl e)
  · exact absurd h hno
theorem pickLast22_c (s0 : List UInt8) (use : Bool) (w : World) (hG : GR w w.heap.size) : Pure Try.prog 13 #[Sv s0, .bool use] (fun _ : Unit => .bool true) (fun _ => []) w := by
  have hpne : pkNE rowsE = 0 := by decide +kernel
  obtain ⟨s, hs⟩ : ∃ s, s = s0.take (min s0.length 50) := ⟨_, rfl⟩
  have hsl : s.length ≤ 50 := by rw [hs, List.length_take]; omega
  obtain ⟨oA, oB, hansT⟩ := ans_last s (by omega)
  refine calls_of_ES TB Try.func13 rfl _ Try.ntmps13 rfl (Sat.start w) ?_
  refine .go ?_; repeat constructor
  refine EL.assign rfl rfl rfl ?_
  refine .go ?_; repeat constructor
  refine EL.callPw rfl rfl rfl ent30 rfl (fun w hs => awake22_c w (GR.sat hG hs)) ?_
  refine EL.not rfl rfl rfl ?_
  refine .go ?_; repeat constructor
  refine ES.condF rfl ?_
  refine .go ?_; repeat constructor
  refine EL.move rfl rfl rfl ?_
  refine EL.move rfl rfl rfl ?_
  refine EL.lenS rfl rfl rfl rfl rfl ?_
  refine EL.minI' rfl rfl rfl rfl ((min s0.length 50 : Nat) : Int) (by split <;> omega) ?_
  (refine EL.sliceS (m := 0) (n := min s0.length 50) rfl rfl rfl rfl rfl rfl ⟨_, rfl⟩ (by omega) (by omega) ?_; rw [show (s0.drop 0).take (min s0.length 50 - 0) = s from hs.symm])
  refine EL.assign rfl rfl rfl ?_
  refine .go ?_; repeat constructor
  refine .go ?_; repeat constructor
  refine EL.callP rfl rfl rfl ent34 rfl (match22_c []) ?_
  refine EL.buildS (rwC ⟨mtA [], ⟨0, 0, []⟩, false⟩).toArray rfl rfl rfl rfl rfl (by kernel_rfl) rfl ?_
  refine EL.callP rfl rfl rfl ent34 rfl (match22_c [97]) ?_
  refine EL.buildS (rwC ⟨mtA [97], ⟨0, 0, []⟩, false⟩).toArray rfl rfl rfl rfl rfl (by kernel_rfl) rfl ?_
  refine EL.callP rfl rfl rfl ent34 rfl (match22_c [98]) ?_
  refine EL.buildS (rwC ⟨mtA [98], ⟨0, 0, []⟩, false⟩).toArray rfl rfl rfl rfl rfl (by kernel_rfl) rfl ?_
  (refine EL.buildSliceC (rwsC rowsE).toArray rfl rfl rfl rfl rfl rfl (by kernel_rfl) rfl rfl rfl rfl ?_; intro b45)
  (refine EL.callXw rfl rfl rfl ent31 rfl (fun w hs => pickNew_c rowsE (by decide) (some ⟨b45, 0, none⟩) 3 w (GR.sat hG hs) (Rd.row (n := 3) (cap := 3) (sz := 7) hs (by repeat constructor) (by decide))) ?_; rintro (hbad | ⟨hok, gp, z, hz⟩); exact absurd hpne hbad)
  refine EL.move rfl rfl rfl ?_
  refine EL.extract rfl rfl rfl rfl ?_
  refine EL.extract rfl rfl rfl rfl ?_
  refine EL.assign rfl rfl rfl ?_
  refine EL.assign rfl rfl rfl ?_
  refine .go ?_; repeat constructor
  refine .go ?_; repeat constructor
  refine EL.move rfl rfl rfl ?_
  refine EL.eqlPn rfl rfl rfl rfl rfl rfl ?_
  refine EL.move rfl rfl rfl ?_
  refine EL.rew (d := 51) (v' := .bool false) rfl (by first | rfl | (decide) | (simp)) ?_
  refine EL.move rfl rfl rfl ?_
  refine EL.neqI rfl rfl rfl rfl ?_
  refine EL.pickF rfl rfl rfl rfl ?_
  refine .go ?_; repeat constructor
  refine ES.condF rfl ?_
  refine ES.know (P := ∃ rg, z.ad = some ⟨rg, 0, none⟩) (fun w hs => (row_form (hs.all (CRow z.ad z.cap z.cs) (by simp [NwX.H]))).2.2.2.2 (by obtain ⟨ga, gb, e, _⟩ := hz.last; rw [e]; exact Nat.zero_lt_succ 2)) ?_
  rintro ⟨rg, hrg⟩
  obtain ⟨ga, gb, hcs, hma, hmb, hms⟩ := hz.last
  obtain ⟨ad, cap, cs, ms⟩ := z
  dsimp only at hrg hcs hma hmb hms
  subst hrg hcs
  have hans : AnsAll ms s (ansP oA oB) := fun q hq => hansT q.2 (hms q hq)
  have no : ∀ q : Mt, (none : Option Mt) = some q → q ∈ ms := fun q h => by cases h
  have ya : ∀ q : Mt, some (ga, [97]) = some q → q ∈ ms := fun q h => by cases h; exact hma
  have k1 := ask_e gp rg cap [lsA, lsB ga, lsC gb] [lsA, lsB ga, lsC gb] 0 lsA none none ms ⟨1, false, s⟩ (ansP oA oB) hans false false false 24 rfl no no no rfl rfl rfl w w.heap.size hG
  have k2 := ask_e gp rg cap [lsA, lsB ga, lsC gb] [lsA, lsB ga, lsC gb] 1 (lsB ga) none (some (ga, [97])) ms ⟨1, false, s⟩ (ansP oA oB) hans false oA true 0 rfl no ya no (by cases oA <;> kernel_rfl) rfl rfl w w.heap.size hG
  have k3 := ask_e gp rg cap [lsA, lsB ga, lsC gb] [lsA, lsB ga, lsC gb] 0 lsA (some (ga, [97])) (some (ga, [97])) ms ⟨1, false, s⟩ (ansP oA oB) hans false oA true 0 rfl ya no no (by cases oA <;> kernel_rfl) rfl rfl w w.heap.size hG
  refine .go ?_; repeat constructor
  refine EL.move rfl rfl rfl ?_
  refine EL.move rfl rfl rfl ?_
  (refine EL.callMw rfl rfl rfl ent33 rfl k1 (by repeat constructor) ?_; intro x1)
  refine EL.move rfl rfl rfl ?_
  refine EL.extract rfl rfl rfl rfl ?_
  refine EL.extract rfl rfl rfl rfl ?_
  refine EL.extract rfl rfl rfl rfl ?_
  refine EL.assign rfl rfl rfl ?_
  refine EL.assign rfl rfl rfl ?_
  refine EL.assign rfl rfl rfl ?_
  refine .go ?_; repeat constructor
  refine .go ?_; repeat constructor
  refine EL.move rfl rfl rfl ?_
  refine EL.move rfl rfl rfl ?_
  (refine EL.callMw rfl rfl rfl ent33 rfl k2 (by repeat constructor) ?_; intro x2)
  refine EL.move rfl rfl rfl ?_
  refine EL.extract rfl rfl rfl rfl ?_
  refine EL.extract rfl rfl rfl rfl ?_
  refine EL.extract rfl rfl rfl rfl ?_
  refine EL.assign rfl rfl rfl ?_
  refine EL.assign rfl rfl rfl ?_
  refine EL.assign rfl rfl rfl ?_
  refine .go ?_; repeat constructor
  refine .go ?_; repeat constructor
  refine EL.move rfl rfl rfl ?_
  refine EL.move rfl rfl rfl ?_
  (refine EL.callMw rfl rfl rfl ent33 rfl k3 (by repeat constructor) ?_; intro x3)
  refine EL.move rfl rfl rfl ?_
  refine EL.extract rfl rfl rfl rfl ?_
  refine EL.extract rfl rfl rfl rfl ?_
  refine EL.extract rfl rfl rfl rfl ?_
  refine EL.assign rfl rfl rfl ?_
  refine EL.assign rfl rfl rfl ?_
  refine EL.assign rfl rfl rfl ?_
  refine .go ?_; repeat constructor
  refine .go ?_; repeat constructor
  refine EL.move rfl rfl rfl ?_
  (refine EL.callM rfl rfl rfl ent35 rfl (pickUse_c gp (some ⟨rg, 0, none⟩) 3 cap (some (ga, [97])) none) (by repeat constructor) ?_; intro u)
  refine .go ?_; repeat constructor
  refine .go ?_; repeat constructor
  refine EL.move rfl rfl rfl ?_
  refine .go ?_; repeat constructor
  refine ES.cutC (X := { x : Mt × List Mt // x.1 ∈ x.2 ∧ (∀ q ∈ x.2, q.2 = [97] ∨ q.2 = [98] ∨ q.2 = []) ∧ (ansP oA oB x.1.2) = (oA || use, 0) }) (fun _ => [(0, Sv s), (1, .bool use), (5, Pv gp 0), (9, Iv 24), (12, Iv 0), (15, Iv 0), (10, .bool oA), (13, .bool oA)]) (fun x => PKA gp rg cap [lsA, lsB ga, lsC gb] (some x.1.1) x.1.2) ?_ (fun x => ?_)
  · refine ES.cond rfl (fun hu => ?_) (fun hu => ?_)
    · have hu' : use = true := hu
      refine .go ?_; repeat constructor
      (refine EL.callXw rfl rfl rfl ent36 rfl (fun w hs => newOk_c [] (by decide +kernel) (by decide) w (GR.sat hG hs)) ?_; intro gm; refine EL.imp (H' := PKA gp rg cap [lsA, lsB ga, lsC gb] (some (ga, [97])) (ms ++ (gm, []) :: [])) (fun w hs => (Sat.matsIn (l := ms) (r := []) (R := [PKB gp (some ⟨rg, 0, none⟩) 3 cap (some (ga, [97])), CRow (some ⟨rg, 0, none⟩) cap [lsA, lsB ga, lsC gb]]) (by rw [List.append_nil]; exact hs.ent (.i (by repeat constructor)))).ent (.i (by repeat constructor))) ?_)
      refine EL.move rfl rfl rfl ?_
      refine EL.extract rfl rfl rfl rfl ?_
      refine EL.extract rfl rfl rfl rfl ?_
      (refine EL.alloc rfl rfl rfl ?_; intro g17)
      refine EL.assign rfl rfl rfl ?_
      (apply EL.storeAll; exact rfl; exact rfl; exact rfl; exact rfl; exact rfl; (case p => repeat constructor); exact rfl; (case h1 => exact (by first | rfl | exact all1 rfl | (intro u hu; simp only [List.mem_cons, List.not_mem_nil, or_false] at hu; rcases hu with rfl | rfl | rfl | rfl <;> rfl) | (intro u hu; simp at hu; rcases hu with rfl | rfl | rfl | rfl <;> rfl) | (intro u hu; simp at hu; rcases hu with rfl | rfl | rfl <;> rfl) | (intro u hu; simp at hu; rcases hu with rfl | rfl <;> rfl) | (intro u hu; simp at hu; obtain ⟨_, _, rfl⟩ := hu; rfl))))
      refine .go ?_; repeat constructor
      refine .go ?_; repeat constructor
      refine EL.move rfl rfl rfl ?_
      refine EL.move rfl rfl rfl ?_
      (refine EL.callM rfl rfl rfl ent35 rfl (pickUse_c gp (some ⟨rg, 0, none⟩) 3 cap (some (ga, [97])) (some (gm, []))) (by repeat constructor) ?_; intro u)
      refine .go ?_; repeat constructor
      refine PX.cutX ⟨((gm, []), ms ++ (gm, []) :: []), by simp, fun q hq => ?_, by rw [hu']; cases oA <;> kernel_rfl⟩ ⟨rfl, rfl, rfl, rfl, rfl, rfl, rfl, rfl, trivial⟩ (.i (by repeat constructor))
      rcases List.mem_append.1 hq with hq | hq
      · exact hms q hq
      · rw [List.mem_singleton] at hq; subst hq; exact .inr (.inr rfl)
    · have hu' : use = false := hu
      subst hu'
      refine .go ?_; repeat constructor
      exact PX.cutX ⟨((ga, [97]), ms), hma, hms, by cases oA <;> kernel_rfl⟩ ⟨rfl, rfl, rfl, rfl, rfl, rfl, rfl, rfl, trivial⟩ (.i (by repeat constructor))
  obtain ⟨⟨q, ms'⟩, hq, hms', hqa⟩ := x
  dsimp only at hq hms' hqa ⊢
  have k4 := ask_e gp rg cap [lsA, lsB ga, lsC gb] [lsA, lsB ga, lsC gb] 0 lsA (some q) (some q) ms' ⟨1, false, s⟩ (ansP oA oB) (fun q hq => hansT q.2 (hms' q hq)) false (oA || use) true 0 rfl (fun q' h => by cases h; exact hq) (fun q h => by cases h) (fun q h => by cases h) (by simp [askM, askA, meetsM, orM, hqa]) rfl rfl w w.heap.size hG
  refine .go ?_; repeat constructor
  refine EL.move rfl rfl rfl ?_
  refine EL.move rfl rfl rfl ?_
  (refine EL.callMw rfl rfl rfl ent33 rfl k4 (by repeat constructor) ?_; intro x4)
  refine EL.move rfl rfl rfl ?_
  refine EL.extract rfl rfl rfl rfl ?_
  refine EL.extract rfl rfl rfl rfl ?_
  refine EL.extract rfl rfl rfl rfl ?_
  refine EL.assign rfl rfl rfl ?_
  refine EL.assign rfl rfl rfl ?_
  refine EL.assign rfl rfl rfl ?_
  refine .go ?_; repeat constructor
  refine .go ?_; repeat constructor
  refine EL.assign rfl rfl rfl ?_
  refine .go ?_; repeat constructor
  refine .go ?_; repeat constructor
  refine EL.move rfl rfl rfl ?_
  refine EL.move rfl rfl rfl ?_
  (refine EL.callM rfl rfl rfl ent37 rfl (pickLast_c gp (some ⟨rg, 0, none⟩) 3 cap (some q)) (by repeat constructor) ?_; intro x5)
  refine EL.callP rfl rfl rfl ent35 rfl (pickUseNil_c (some q)) ?_
  refine .go ?_; repeat constructor
  refine .go ?_; repeat constructor
  refine EL.move rfl rfl rfl ?_
  refine EL.move rfl rfl rfl ?_
  refine EL.callP rfl rfl rfl ent33 rfl (askNil_c 0 1 false s) ?_
  refine EL.move rfl rfl rfl ?_
  refine EL.extract rfl rfl rfl rfl ?_
  refine EL.extract rfl rfl rfl rfl ?_
  refine EL.extract rfl rfl rfl rfl ?_
  refine EL.assign rfl rfl rfl ?_
  refine EL.assign rfl rfl rfl ?_
  refine EL.assign rfl rfl rfl ?_
  refine .go ?_; repeat constructor
  refine .go ?_; repeat constructor
  refine EL.move rfl rfl rfl ?_
  refine EL.move rfl rfl rfl ?_
  (refine EL.callM rfl rfl rfl ent33 rfl (askOut_c gp (some ⟨rg, 0, none⟩) 3 cap (some q) 3 1 false s (.inr (by decide))) (by repeat constructor) ?_; intro x6)
  refine EL.move rfl rfl rfl ?_
  refine EL.extract rfl rfl rfl rfl ?_
  refine EL.extract rfl rfl rfl rfl ?_
  refine EL.extract rfl rfl rfl rfl ?_
  refine EL.assign rfl rfl rfl ?_
  refine EL.assign rfl rfl rfl ?_
  refine EL.assign rfl rfl rfl ?_
  refine .go ?_; repeat constructor
  refine .go ?_; repeat constructor
  refine EL.move rfl rfl rfl ?_
  refine EL.move rfl rfl rfl ?_
  (refine EL.callM rfl rfl rfl ent33 rfl (askOut_c gp (some ⟨rg, 0, none⟩) 3 cap (some q) (-1) 1 false s (.inl (by decide))) (by repeat constructor) ?_; intro x7)
  refine EL.move rfl rfl rfl ?_
  refine EL.extract rfl rfl rfl rfl ?_
  refine EL.extract rfl rfl rfl rfl ?_
  refine EL.extract rfl rfl rfl rfl ?_
  refine EL.assign rfl rfl rfl ?_
  refine EL.assign rfl rfl rfl ?_
  refine EL.assign rfl rfl rfl ?_
  refine .go ?_; repeat constructor
  cases oA <;> cases use
  · refine .go ?_; repeat constructor
    refine EL.move rfl rfl rfl ?_
    refine EL.eqlI rfl rfl rfl rfl ?_
    refine EL.move rfl rfl rfl ?_
    refine EL.rew (d := 120) (v' := .bool true) rfl (by first | rfl | (decide) | (simp)) ?_
    refine EL.move rfl rfl rfl ?_
    refine EL.eqlI rfl rfl rfl rfl ?_
    refine EL.pickT rfl rfl rfl rfl ?_
    refine EL.move rfl rfl rfl ?_
    refine EL.rew (d := 124) (v' := .bool true) rfl (by first | rfl | (decide) | (simp)) ?_
    refine EL.move rfl rfl rfl ?_
    refine EL.eqlI rfl rfl rfl rfl ?_
    refine EL.pickT rfl rfl rfl rfl ?_
    refine EL.move rfl rfl rfl ?_
    refine EL.rew (d := 128) (v' := .bool true) rfl (by first | rfl | (decide) | (simp)) ?_
    refine EL.move rfl rfl rfl ?_
    refine EL.eqlI rfl rfl rfl rfl ?_
    refine EL.pickT rfl rfl rfl rfl ?_
    refine EL.move rfl rfl rfl ?_
    refine EL.rew (d := 132) (v' := .bool true) rfl (by first | rfl | (decide) | (simp)) ?_
    refine EL.move rfl rfl rfl ?_
    refine EL.move rfl rfl rfl ?_
    refine EL.eqlB rfl rfl rfl rfl rfl rfl ?_
    refine EL.pickT rfl rfl rfl rfl ?_
    refine EL.move rfl rfl rfl ?_
    refine EL.rew (d := 137) (v' := .bool true) rfl (by first | rfl | (decide) | (simp)) ?_
    refine EL.move rfl rfl rfl ?_
    refine EL.move rfl rfl rfl ?_
    refine EL.move rfl rfl rfl ?_
    refine EL.rew (d := 140) (v' := .bool false) rfl (by first | rfl | (decide) | (simp)) ?_
    refine EL.move rfl rfl rfl ?_
    refine EL.pickF rfl rfl rfl rfl ?_
    refine EL.eqlB rfl rfl rfl rfl rfl rfl ?_
    refine EL.pickT rfl rfl rfl rfl ?_
    refine EL.move rfl rfl rfl ?_
    refine EL.rew (d := 145) (v' := .bool true) rfl (by first | rfl | (decide) | (simp)) ?_
    refine EL.move rfl rfl rfl ?_
    refine EL.eqlI rfl rfl rfl rfl ?_
    refine EL.pickT rfl rfl rfl rfl ?_
    refine EL.move rfl rfl rfl ?_
    refine EL.rew (d := 149) (v' := .bool true) rfl (by first | rfl | (decide) | (simp)) ?_
    refine EL.move rfl rfl rfl ?_
    refine EL.callP rfl rfl rfl ent37 rfl pickLastNil_c ?_
    refine EL.eqlPn rfl rfl rfl rfl rfl rfl ?_
    refine EL.pickT rfl rfl rfl rfl ?_
    refine EL.move rfl rfl rfl ?_
    refine EL.rew (d := 154) (v' := .bool true) rfl (by first | rfl | (decide) | (simp)) ?_
    refine EL.move rfl rfl rfl ?_
    refine EL.eqlI rfl rfl rfl rfl ?_
    refine EL.pickT rfl rfl rfl rfl ?_
    refine EL.move rfl rfl rfl ?_
    refine EL.rew (d := 158) (v' := .bool true) rfl (by first | rfl | (decide) | (simp)) ?_
    refine EL.move rfl rfl rfl ?_
    refine EL.eqlI rfl rfl rfl rfl ?_
    refine EL.pickT rfl rfl rfl rfl ?_
    refine EL.assign rfl rfl rfl ?_
    refine .go ?_; repeat constructor
    exact PX.ret rfl Try.results13 (.cons (.tmp rfl) .nil) (fun w hs => ⟨(), rfl, hs.ent (.nil _)⟩)
  · refine .go ?_; repeat constructor
    refine EL.move rfl rfl rfl ?_
    refine EL.eqlI rfl rfl rfl rfl ?_
    refine EL.move rfl rfl rfl ?_
    refine EL.rew (d := 120) (v' := .bool true) rfl (by first | rfl | (decide) | (simp)) ?_
    refine EL.move rfl rfl rfl ?_
    refine EL.eqlI rfl rfl rfl rfl ?_
    refine EL.pickT rfl rfl rfl rfl ?_
    refine EL.move rfl rfl rfl ?_
    refine EL.rew (d := 124) (v' := .bool true) rfl (by first | rfl | (decide) | (simp)) ?_
    refine EL.move rfl rfl rfl ?_
    refine EL.eqlI rfl rfl rfl rfl ?_
    refine EL.pickT rfl rfl rfl rfl ?_
    refine EL.move rfl rfl rfl ?_
    refine EL.rew (d := 128) (v' := .bool true) rfl (by first | rfl | (decide) | (simp)) ?_
    refine EL.move rfl rfl rfl ?_
    refine EL.eqlI rfl rfl rfl rfl ?_
    refine EL.pickT rfl rfl rfl rfl ?_
    refine EL.move rfl rfl rfl ?_
    refine EL.rew (d := 132) (v' := .bool true) rfl (by first | rfl | (decide) | (simp)) ?_
    refine EL.move rfl rfl rfl ?_
    refine EL.move rfl rfl rfl ?_
    refine EL.eqlB rfl rfl rfl rfl rfl rfl ?_
    refine EL.pickT rfl rfl rfl rfl ?_
    refine EL.move rfl rfl rfl ?_
    refine EL.rew (d := 137) (v' := .bool true) rfl (by first | rfl | (decide) | (simp)) ?_
    refine EL.move rfl rfl rfl ?_
    refine EL.move rfl rfl rfl ?_
    refine EL.move rfl rfl rfl ?_
    refine EL.rew (d := 140) (v' := .bool false) rfl (by first | rfl | (decide) | (simp)) ?_
    refine EL.move rfl rfl rfl ?_
    refine EL.pickF rfl rfl rfl rfl ?_
    refine EL.eqlB rfl rfl rfl rfl rfl rfl ?_
    refine EL.pickT rfl rfl rfl rfl ?_
    refine EL.move rfl rfl rfl ?_
    refine EL.rew (d := 145) (v' := .bool true) rfl (by first | rfl | (decide) | (simp)) ?_
    refine EL.move rfl rfl rfl ?_
    refine EL.eqlI rfl rfl rfl rfl ?_
    refine EL.pickT rfl rfl rfl rfl ?_
    refine EL.move rfl rfl rfl ?_
    refine EL.rew (d := 149) (v' := .bool true) rfl (by first | rfl | (decide) | (simp)) ?_
    refine EL.move rfl rfl rfl ?_
    refine EL.callP rfl rfl rfl ent37 rfl pickLastNil_c ?_
    refine EL.eqlPn rfl rfl rfl rfl rfl rfl ?_
    refine EL.pickT rfl rfl rfl rfl ?_
    refine EL.move rfl rfl rfl ?_
    refine EL.rew (d := 154) (v' := .bool true) rfl (by first | rfl | (decide) | (simp)) ?_
    refine EL.move rfl rfl rfl ?_
    refine EL.eqlI rfl rfl rfl rfl ?_
    refine EL.pickT rfl rfl rfl rfl ?_
    refine EL.move rfl rfl rfl ?_
    refine EL.rew (d := 158) (v' := .bool true) rfl (by first | rfl | (decide) | (simp)) ?_
    refine EL.move rfl rfl rfl ?_
    refine EL.eqlI rfl rfl rfl rfl ?_
    refine EL.pickT rfl rfl rfl rfl ?_
    refine EL.assign rfl rfl rfl ?_
    refine .go ?_; repeat constructor
    exact PX.ret rfl Try.results13 (.cons (.tmp rfl) .nil) (fun w hs => ⟨(), rfl, hs.ent (.nil _)⟩)
  · refine .go ?_; repeat constructor
    refine EL.move rfl rfl rfl ?_
    refine EL.eqlI rfl rfl rfl rfl ?_
    refine EL.move rfl rfl rfl ?_
    refine EL.rew (d := 120) (v' := .bool true) rfl (by first | rfl | (decide) | (simp)) ?_
    refine EL.move rfl rfl rfl ?_
    refine EL.eqlI rfl rfl rfl rfl ?_
    refine EL.pickT rfl rfl rfl rfl ?_
    refine EL.move rfl rfl rfl ?_
    refine EL.rew (d := 124) (v' := .bool true) rfl (by first | rfl | (decide) | (simp)) ?_
    refine EL.move rfl rfl rfl ?_
    refine EL.eqlI rfl rfl rfl rfl ?_
    refine EL.pickT rfl rfl rfl rfl ?_
    refine EL.move rfl rfl rfl ?_
    refine EL.rew (d := 128) (v' := .bool true) rfl (by first | rfl | (decide) | (simp)) ?_
    refine EL.move rfl rfl rfl ?_
    refine EL.eqlI rfl rfl rfl rfl ?_
    refine EL.pickT rfl rfl rfl rfl ?_
    refine EL.move rfl rfl rfl ?_
    refine EL.rew (d := 132) (v' := .bool true) rfl (by first | rfl | (decide) | (simp)) ?_
    refine EL.move rfl rfl rfl ?_
    refine EL.move rfl rfl rfl ?_
    refine EL.eqlB rfl rfl rfl rfl rfl rfl ?_
    refine EL.pickT rfl rfl rfl rfl ?_
    refine EL.move rfl rfl rfl ?_
    refine EL.rew (d := 137) (v' := .bool true) rfl (by first | rfl | (decide) | (simp)) ?_
    refine EL.move rfl rfl rfl ?_
    refine EL.move rfl rfl rfl ?_
    refine EL.move rfl rfl rfl ?_
    refine EL.rew (d := 140) (v' := .bool true) rfl (by first | rfl | (decide) | (simp)) ?_
    refine EL.pass rfl rfl rfl ?_
    refine EL.pickT rfl rfl rfl rfl ?_
    refine EL.eqlB rfl rfl rfl rfl rfl rfl ?_
    refine EL.pickT rfl rfl rfl rfl ?_
    refine EL.move rfl rfl rfl ?_
    refine EL.rew (d := 145) (v' := .bool true) rfl (by first | rfl | (decide) | (simp)) ?_
    refine EL.move rfl rfl rfl ?_
    refine EL.eqlI rfl rfl rfl rfl ?_
    refine EL.pickT rfl rfl rfl rfl ?_
    refine EL.move rfl rfl rfl ?_
    refine EL.rew (d := 149) (v' := .bool true) rfl (by first | rfl | (decide) | (simp)) ?_
    refine EL.move rfl rfl rfl ?_
    refine EL.callP rfl rfl rfl ent37 rfl pickLastNil_c ?_
    refine EL.eqlPn rfl rfl rfl rfl rfl rfl ?_
    refine EL.pickT rfl rfl rfl rfl ?_
    refine EL.move rfl rfl rfl ?_
    refine EL.rew (d := 154) (v' := .bool true) rfl (by first | rfl | (decide) | (simp)) ?_
    refine EL.move rfl rfl rfl ?_
    refine EL.eqlI rfl rfl rfl rfl ?_
    refine EL.pickT rfl rfl rfl rfl ?_
    refine EL.move rfl rfl rfl ?_
    refine EL.rew (d := 158) (v' := .bool true) rfl (by first | rfl | (decide) | (simp)) ?_
    refine EL.move rfl rfl rfl ?_
    refine EL.eqlI rfl rfl rfl rfl ?_
    refine EL.pickT rfl rfl rfl rfl ?_
    refine EL.assign rfl rfl rfl ?_
    refine .go ?_; repeat constructor
    exact PX.ret rfl Try.results13 (.cons (.tmp rfl) .nil) (fun w hs => ⟨(), rfl, hs.ent (.nil _)⟩)
  · refine .go ?_; repeat constructor
    refine EL.move rfl rfl rfl ?_
    refine EL.eqlI rfl rfl rfl rfl ?_
    refine EL.move rfl rfl rfl ?_
    refine EL.rew (d := 120) (v' := .bool true) rfl (by first | rfl | (decide) | (simp)) ?_
    refine EL.move rfl rfl rfl ?_
    refine EL.eqlI rfl rfl rfl rfl ?_
    refine EL.pickT rfl rfl rfl rfl ?_
    refine EL.move rfl rfl rfl ?_
    refine EL.rew (d := 124) (v' := .bool true) rfl (by first | rfl | (decide) | (simp)) ?_
    refine EL.move rfl rfl rfl ?_
    refine EL.eqlI rfl rfl rfl rfl ?_
    refine EL.pickT rfl rfl rfl rfl ?_
    refine EL.move rfl rfl rfl ?_
    refine EL.rew (d := 128) (v' := .bool true) rfl (by first | rfl | (decide) | (simp)) ?_
    refine EL.move rfl rfl rfl ?_
    refine EL.eqlI rfl rfl rfl rfl ?_
    refine EL.pickT rfl rfl rfl rfl ?_
    refine EL.move rfl rfl rfl ?_
    refine EL.rew (d := 132) (v' := .bool true) rfl (by first | rfl | (decide) | (simp)) ?_
    refine EL.move rfl rfl rfl ?_
    refine EL.move rfl rfl rfl ?_
    refine EL.eqlB rfl rfl rfl rfl rfl rfl ?_
    refine EL.pickT rfl rfl rfl rfl ?_
    refine EL.move rfl rfl rfl ?_
    refine EL.rew (d := 137) (v' := .bool true) rfl (by first | rfl | (decide) | (simp)) ?_
    refine EL.move rfl rfl rfl ?_
    refine EL.move rfl rfl rfl ?_
    refine EL.move rfl rfl rfl ?_
    refine EL.rew (d := 140) (v' := .bool true) rfl (by first | rfl | (decide) | (simp)) ?_
    refine EL.pass rfl rfl rfl ?_
    refine EL.pickT rfl rfl rfl rfl ?_
    refine EL.eqlB rfl rfl rfl rfl rfl rfl ?_
    refine EL.pickT rfl rfl rfl rfl ?_
    refine EL.move rfl rfl rfl ?_
    refine EL.rew (d := 145) (v' := .bool true) rfl (by first | rfl | (decide) | (simp)) ?_
    refine EL.move rfl rfl rfl ?_
    refine EL.eqlI rfl rfl rfl rfl ?_
    refine EL.pickT rfl rfl rfl rfl ?_
    refine EL.move rfl rfl rfl ?_
    refine EL.rew (d := 149) (v' := .bool true) rfl (by first | rfl | (decide) | (simp)) ?_
    refine EL.move rfl rfl rfl ?_
    refine EL.callP rfl rfl rfl ent37 rfl pickLastNil_c ?_
    refine EL.eqlPn rfl rfl rfl rfl rfl rfl ?_
    refine EL.pickT rfl rfl rfl rfl ?_
    refine EL.move rfl rfl rfl ?_
    refine EL.rew (d := 154) (v' := .bool true) rfl (by first | rfl | (decide) | (simp)) ?_
    refine EL.move rfl rfl rfl ?_
    refine EL.eqlI rfl rfl rfl rfl ?_
    refine EL.pickT rfl rfl rfl rfl ?_
    refine EL.move rfl rfl rfl ?_
    refine EL.rew (d := 158) (v' := .bool true) rfl (by first | rfl | (decide) | (simp)) ?_
    refine EL.move rfl rfl rfl ?_
    refine EL.eqlI rfl rfl rfl rfl ?_
    refine EL.pickT rfl rfl rfl rfl ?_
    refine EL.assign rfl rfl rfl ?_
    refine .go ?_; repeat constructor
    exact PX.ret rfl Try.results13 (.cons (.tmp rfl) .nil) (fun w hs => ⟨(), rfl, hs.ent (.nil _)⟩)
theorem open_bv {H : Type} {enc : TypeId × Value → H} {P : Program} {w : World} {base : Nat} {sp : Nat → Bool} {held : Bool} {r : Reach} {b0 : Nat} {t : TypeId} {v : Value} {d : DataW H} {ps : List MemPlace} (ht : P.underlying t = some .bool) (hval : Value.okWide P w r b0 t v) (hd : DataW.Trod enc P w base sp held t v d ps) :
    ∃ b : Bool, v = .bool b ∧ d = .lit (.bool b) := by
  have h0 : ∃ b, v = .bool b := by
    cases v <;> simp [Value.okWide, ht, Cell.okWide, Cell.ok] at hval ⊢
  obtain ⟨b, rfl⟩ := h0
  obtain ⟨fuel, hf⟩ := hd
  obtain ⟨b', h, hx⟩ := DataW.trod_bool ht hf
  simp [Value.cells] at h
  subst h
  simp only [Prod.mk.injEq] at hx
  exact ⟨b, rfl, hx.1⟩
theorem w_bool {H : Type} {P : Program} {t : TypeId} {b : Bool} : DataW.weights (H := H) P t (.lit (.bool b)) = [] := by simp [DataW.weights]
theorem pickLast_lifted (os : Os) (started : os.Started) (H : Type) (enc : TypeId × Value → H) :
    ReturnsInHanded {} Try.checked os 13 .any (Rows.pickLastSpec.pre6 enc Try.prog Try.f13 Rows.pickLastRow.domain false) (Rows.pickLastSpec.post enc Try.prog Try.f13 false true false false) := by
  refine returnsInHanded_of_change_shaped (C := Try.checked) own started (by kernel_rfl) Try.func13
    (ChangeSpec.witness6 (enc := enc) (C := Try.checked) false ⟨#[], #[.string ⟨#[]⟩, .bool false], []⟩ 8 (by kernel_rfl) (by kernel_rfl) (by kernel_rfl) (by kernel_rfl)) ?_
  intro W base args ds gs before hval0 hW _ hsz hsh _
  have hk : (DataW.weightsEach Try.prog (Try.f13.params.toList ++ []) (ds ++ gs)).all (· ≤ reachBytes) = true := hsz
  have hval : ∀ (j : Nat) t v, Try.f13.params[j]? = some t → args[j]? = some v → Value.okWide Try.prog W .any base t v := hval0
  have hW1 : DataW.Whole enc Try.prog Try.f13.params.toList Rows.pickLastSpec.vars false W args.toList ds gs before := hW
  have hW' := hW1
  obtain ⟨p, q, hA0, hV, rfl, hfz, hnd⟩ := hW1
  have hA : DataW.TrodAll enc Try.prog W 0 (fun _ => true) true Try.f13.params.toList args.toList ds p := hA0
  rw [Try.params13] at hA hval hk
  obtain ⟨v0, vs0, d0, ds0, p0, q0, hargs0, rfl, rfl, h0, r0⟩ := trodAll_cons hA
  obtain ⟨v1, vs1, d1, ds1, p1, q1, hargs1, rfl, rfl, h1, r1⟩ := trodAll_cons r0
  obtain ⟨rfl, rfl, rfl⟩ := trodAll_nil r1
  subst hargs1
  obtain rfl : args = #[v0, v1] := by cases args; simp_all
  obtain ⟨rfl, rfl⟩ := trodVars_none hV
  obtain ⟨l0, rfl, rfl⟩ := open_sv Try.underlying9 (hval 0 9 v0 rfl rfl) h0
  obtain ⟨b1, rfl, rfl⟩ := open_bv Try.underlying4 (hval 1 4 v1 rfl rfl) h1
  simp only [List.append_nil, DataW.weightsEach, w_bool, w_str, w_int, reachBytes, List.nil_append, List.append_nil, List.all_append, List.all_cons, List.all_nil, Bool.and_true, Bool.and_eq_true, decide_eq_true_eq] at hk
  have hl0 : l0.length ≤ 140737488351232 := by first | omega | exact of_decide_eq_true hk | exact of_decide_eq_true hk.1 | exact of_decide_eq_true hk.2 | exact of_decide_eq_true hk.2.1 | exact of_decide_eq_true hk.2.2 | exact of_decide_eq_true hk.2.2.1 | exact of_decide_eq_true hk.2.2.2
  refine (pickLast22_c l0 b1 W (GR.of hsh)).mono fun e W' ⟨_, he, hs⟩ => ⟨_, he, ?_⟩
  exact law_true (s := Rows.pickLastSpec) laidOut rfl Try.underlying4 (by kernel_rfl) rfl false rfl rfl rfl hW' hs.below
theorem pickLast_holds : Rows.PickLastSaid :=
  OpenClaim.holds_of_wide 13 Try.f13 rfl rfl rfl rfl rfl rfl rfl ⟨rfl, rfl, rfl, rfl, rfl⟩ rfl rfl rfl rfl rfl (by kernel_rfl) Try.func13 (by kernel_rfl)
    (of_decide_eq_true (by kernel_rfl)) (by unfold Func.isWrapper; first | (rw [if_pos (by decide +kernel)]; kernel_rfl) | (rw [if_neg (by decide +kernel)]; exact ⟨rfl, rfl⟩))
    (fun os started H enc _ => pickLast_lifted os started H enc)
end Go.Proofs.Ytblpgpgbnlhjlaa
