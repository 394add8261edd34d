/- Of all: WholeTexts: a BRE's one text is as good as it. -/
import Derived.Test.YtcoajnpneableaaDoorZh5
namespace Go.Proofs.YtcoajnpneableaaDoor
open Go.ChangeShapes Go.WideShapes Go.ChangeAt
open Go Go.RowKit Sl
set_option maxRecDepth 100000
set_option maxHeartbeats 8000000
set_option linter.unusedVariables false
set_option linter.unusedSimpArgs false
attribute [local irreducible] ES EL PX wps
theorem parse_at0 (t : List UInt8) (he : (parseM t).e = 0) : (parseM t).at_ = 0 := by
  rw [← doc_is] at *
  have hd : docM t = if 512 < t.length then ⟨.cat [], 2, 0⟩ else if (dRow t (t.length + 1) false 0 [] dr0).2.e ≠ 0 then ⟨.cat [], (dRow t (t.length + 1) false 0 [] dr0).2.e, (dRow t (t.length + 1) false 0 [] dr0).2.place⟩ else ⟨(dRow t (t.length + 1) false 0 [] dr0).1, 0, 0⟩ := rfl
  by_cases c0 : 512 < t.length
  · rw [hd, if_pos c0]
  rw [if_neg c0] at hd
  by_cases c1 : (dRow t (t.length + 1) false 0 [] dr0).2.e ≠ 0
  · rw [if_pos c1] at hd
    rw [hd] at he
    exact absurd he c1
  · rw [hd, if_neg c1]
theorem parse_bad2 : parseM [97, 92] = ⟨.cat [], 6, 1⟩ := by kernel_rfl
theorem wholeTexts_c (t : List UInt8) (ht : t.length ≤ 4611686018427387904) (w : World) (hT : TabR w w.heap.size) (hP : PowR w w.heap.size) (hG : GR w w.heap.size) : Pure Tryd.prog 3 #[Sv t] (fun _ : Unit => .bool true) (fun _ => []) w := by
  have hpa := fun w hG => parse_c [97, 92] (by decide) w hG
  have hpc := fun w hG => parse_c t ht w hG
  have hmc := fun w hG => measOf_c t ht w hG
  have hcc := fun w hG hT hP => canText_c t ht w hG hT hP
  have ho : ofM t = if (parseM t).e ≠ 0 then (Me.zero, (parseM t).e, (parseM t).at_) else (measM (parseM t).tree, 0, 0) := rfl
  have hcm : canM t = if (parseM t).e ≠ 0 then ([], (parseM t).e, (parseM t).at_) else (canR (parseM t).tree, 0, 0) := rfl
  have hpf := parse_fine t
  have hcr := can_read t
  have hat := parse_at0 t
  have hb2 := parse_bad2
  generalize parseM [97, 92] = p6 at hpa hb2
  subst hb2
  generalize ofM t = o at hmc ho
  generalize canM t = c at hcc hcm
  generalize parseM t = p at hpc ho hcm hpf hcr hat
  obtain ⟨tree, pe, pat⟩ := p
  dsimp only at hpa hpc ho hcm hpf hcr hat
  by_cases he : pe = 0
  · obtain rfl := hat he
    subst he
    rw [if_neg (fun h => h rfl)] at ho hcm
    subst ho hcm
    dsimp only at hmc hcc
    obtain ⟨s, hs⟩ : ∃ s, s = canR tree := ⟨_, rfl⟩
    rw [← hs] at hcc hcr
    refine calls_of_ES TB Tryd.func3 rfl _ Tryd.ntmps3 rfl (Sat.start w) ?_
    refine .gr ?_; repeat constructor
    refine EL.assign rfl rfl rfl ?_
    refine .gr ?_; repeat constructor
    (refine EL.callXw rfl rfl rfl ent4 rfl (fun w hs => hpa w (GR.sat hG hs)) ?_; intro px6)
    refine EL.move rfl rfl rfl ?_
    refine EL.extract rfl rfl rfl rfl ?_
    refine EL.extract rfl rfl rfl rfl ?_
    (refine EL.alloc rfl rfl rfl ?_; intro g3)
    (refine EL.alloc rfl rfl rfl ?_; intro g4)
    (apply EL.storeAll; exact rfl; exact rfl; exact rfl; exact rfl; exact rfl; (case p => repeat constructor); exact rfl; (case h1 => exact (by first | rfl | exact all1 rfl | (intro u hu; simp only [List.mem_cons, List.not_mem_nil, or_false] at hu; rcases hu with rfl | rfl | rfl | rfl <;> rfl) | (intro u hu; simp at hu; rcases hu with rfl | rfl | rfl | rfl <;> rfl) | (intro u hu; simp at hu; rcases hu with rfl | rfl | rfl <;> rfl) | (intro u hu; simp at hu; rcases hu with rfl | rfl <;> rfl) | (intro u hu; simp at hu; obtain ⟨_, _, rfl⟩ := hu; rfl))))
    (apply EL.storeAll; exact rfl; exact rfl; exact rfl; exact rfl; exact rfl; (case p => repeat constructor); exact rfl; (case h1 => exact (by first | rfl | exact all1 rfl | (intro u hu; simp only [List.mem_cons, List.not_mem_nil, or_false] at hu; rcases hu with rfl | rfl | rfl | rfl <;> rfl) | (intro u hu; simp at hu; rcases hu with rfl | rfl | rfl | rfl <;> rfl) | (intro u hu; simp at hu; rcases hu with rfl | rfl | rfl <;> rfl) | (intro u hu; simp at hu; rcases hu with rfl | rfl <;> rfl) | (intro u hu; simp at hu; obtain ⟨_, _, rfl⟩ := hu; rfl))))
    refine .gr ?_; repeat constructor
    refine .gr ?_; repeat constructor
    (apply EL.loadAggB; exact rfl; exact rfl; exact rfl; exact rfl; exact rfl; (case hm => repeat constructor); exact rfl)
    (apply EL.build2; exact rfl; exact rfl; exact rfl; exact rfl; exact rfl; exact rfl; exact rfl; exact rfl; exact rfl; exact rfl)
    refine EL.neqAgg rfl rfl rfl rfl eqg30 (run_equal_st2 TB rfl rfl sth30 rfl rfl rfl rfl rfl rfl rfl rfl _ _ _ _) ?_
    refine .gr ?_; repeat constructor
    refine ES.condK false rfl (by simp) ?_
    refine .gr ?_; repeat constructor
    refine EL.move rfl rfl rfl ?_
    (refine EL.callXw rfl rfl rfl ent4 rfl (fun w hs => hpc w (GR.sat hG hs)) ?_; intro px)
    refine EL.move rfl rfl rfl ?_
    refine EL.extract rfl rfl rfl rfl ?_
    refine EL.extract rfl rfl rfl rfl ?_
    (refine EL.alloc rfl rfl rfl ?_; intro g5)
    (refine EL.alloc rfl rfl rfl ?_; intro g6)
    (apply EL.storeAll; exact rfl; exact rfl; exact rfl; exact rfl; exact rfl; (case p => repeat constructor); exact rfl; (case h1 => exact (by first | rfl | exact all1 rfl | (intro u hu; simp only [List.mem_cons, List.not_mem_nil, or_false] at hu; rcases hu with rfl | rfl | rfl | rfl <;> rfl) | (intro u hu; simp at hu; rcases hu with rfl | rfl | rfl | rfl <;> rfl) | (intro u hu; simp at hu; rcases hu with rfl | rfl | rfl <;> rfl) | (intro u hu; simp at hu; rcases hu with rfl | rfl <;> rfl) | (intro u hu; simp at hu; obtain ⟨_, _, rfl⟩ := hu; rfl))))
    (apply EL.storeAll; exact rfl; exact rfl; exact rfl; exact rfl; exact rfl; (case p => repeat constructor); exact rfl; (case h1 => exact (by first | rfl | exact all1 rfl | (intro u hu; simp only [List.mem_cons, List.not_mem_nil, or_false] at hu; rcases hu with rfl | rfl | rfl | rfl <;> rfl) | (intro u hu; simp at hu; rcases hu with rfl | rfl | rfl | rfl <;> rfl) | (intro u hu; simp at hu; rcases hu with rfl | rfl | rfl <;> rfl) | (intro u hu; simp at hu; rcases hu with rfl | rfl <;> rfl) | (intro u hu; simp at hu; obtain ⟨_, _, rfl⟩ := hu; rfl))))
    refine .gr ?_; repeat constructor
    refine EL.move rfl rfl rfl ?_
    refine EL.callPw rfl rfl rfl ent5 rfl (fun w hs => hmc w (GR.sat hG hs)) ?_
    refine EL.move rfl rfl rfl ?_
    refine EL.extract rfl rfl rfl rfl ?_
    refine EL.extract rfl rfl rfl rfl ?_
    (refine EL.alloc rfl rfl rfl ?_; intro g7)
    (refine EL.alloc rfl rfl rfl ?_; intro g8)
    (apply EL.storeAll; exact rfl; exact rfl; exact rfl; exact rfl; exact rfl; (case p => repeat constructor); exact rfl; (case h1 => exact (by first | rfl | exact all1 rfl | (intro u hu; simp only [List.mem_cons, List.not_mem_nil, or_false] at hu; rcases hu with rfl | rfl | rfl | rfl <;> rfl) | (intro u hu; simp at hu; rcases hu with rfl | rfl | rfl | rfl <;> rfl) | (intro u hu; simp at hu; rcases hu with rfl | rfl | rfl <;> rfl) | (intro u hu; simp at hu; rcases hu with rfl | rfl <;> rfl) | (intro u hu; simp at hu; obtain ⟨_, _, rfl⟩ := hu; rfl))))
    (apply EL.storeAll; exact rfl; exact rfl; exact rfl; exact rfl; exact rfl; (case p => repeat constructor); exact rfl; (case h1 => exact (by first | rfl | exact all1 rfl | (intro u hu; simp only [List.mem_cons, List.not_mem_nil, or_false] at hu; rcases hu with rfl | rfl | rfl | rfl <;> rfl) | (intro u hu; simp at hu; rcases hu with rfl | rfl | rfl | rfl <;> rfl) | (intro u hu; simp at hu; rcases hu with rfl | rfl | rfl <;> rfl) | (intro u hu; simp at hu; rcases hu with rfl | rfl <;> rfl) | (intro u hu; simp at hu; obtain ⟨_, _, rfl⟩ := hu; rfl))))
    refine .gr ?_; repeat constructor
    refine EL.move rfl rfl rfl ?_
    refine EL.callPw rfl rfl rfl ent6 rfl (fun w hs => hcc w (GR.sat hG hs) (Rd.sat hT hs) (PowR.sat hP hs)) ?_
    refine EL.move rfl rfl rfl ?_
    refine EL.extract rfl rfl rfl rfl ?_
    refine EL.extract rfl rfl rfl rfl ?_
    (refine EL.alloc rfl rfl rfl ?_; intro g10)
    refine EL.assign rfl rfl rfl ?_
    (apply EL.storeAll; exact rfl; exact rfl; exact rfl; exact rfl; exact rfl; (case p => repeat constructor); exact rfl; (case h1 => exact (by first | rfl | exact all1 rfl | (intro u hu; simp only [List.mem_cons, List.not_mem_nil, or_false] at hu; rcases hu with rfl | rfl | rfl | rfl <;> rfl) | (intro u hu; simp at hu; rcases hu with rfl | rfl | rfl | rfl <;> rfl) | (intro u hu; simp at hu; rcases hu with rfl | rfl | rfl <;> rfl) | (intro u hu; simp at hu; rcases hu with rfl | rfl <;> rfl) | (intro u hu; simp at hu; obtain ⟨_, _, rfl⟩ := hu; rfl))))
    refine .gr ?_; repeat constructor
    refine .gr ?_; repeat constructor
    (apply EL.loadAggB; exact rfl; exact rfl; exact rfl; exact rfl; exact rfl; (case hm => repeat constructor); exact rfl)
    (apply EL.loadAggB; exact rfl; exact rfl; exact rfl; exact rfl; exact rfl; (case hm => repeat constructor); exact rfl)
    refine EL.neqAgg rfl rfl rfl rfl eqg30 (run_equal_st2 TB rfl rfl sth30 rfl rfl rfl rfl rfl rfl rfl rfl _ _ _ _) ?_
    refine EL.move rfl rfl rfl ?_
    refine EL.rew (d := 38) (v' := .bool false) rfl ((by simp)) ?_
    (apply EL.loadAggB; exact rfl; exact rfl; exact rfl; exact rfl; exact rfl; (case hm => repeat constructor); exact rfl)
    (apply EL.loadAggB; exact rfl; exact rfl; exact rfl; exact rfl; exact rfl; (case hm => repeat constructor); exact rfl)
    refine EL.neqAgg rfl rfl rfl rfl eqg30 (run_equal_st2 TB rfl rfl sth30 rfl rfl rfl rfl rfl rfl rfl rfl _ _ _ _) ?_
    refine EL.pickF rfl rfl rfl rfl ?_
    refine .gr ?_; repeat constructor
    refine ES.condK false rfl (by simp) ?_
    refine .gr ?_; repeat constructor
    refine EL.fieldAddr rfl rfl rfl rfl rfl rfl rfl rfl ?_
    (apply EL.loadB; exact rfl; exact rfl; exact rfl; exact rfl; exact rfl; (case hm => repeat constructor); exact rfl)
    refine EL.neqI rfl rfl rfl rfl ?_
    refine EL.move rfl rfl rfl ?_
    refine EL.rew (d := 46) (v' := .bool false) rfl (by first | rfl | (decide) | (simp)) ?_
    refine EL.move rfl rfl rfl ?_
    refine EL.lenS rfl rfl rfl rfl rfl ?_
    refine EL.gtr rfl rfl rfl rfl ?_
    refine EL.pickF rfl rfl rfl rfl ?_
    refine .gr ?_; repeat constructor
    refine ES.condD rfl (fun hlong => ?_) (fun hshort => ?_)
    · refine .gr ?_; repeat constructor
      refine EL.assign rfl rfl rfl ?_
      refine .gr ?_; repeat constructor
      exact PX.ret rfl Tryd.results3 (.cons (.tmp rfl) .nil) (fun w hs => ⟨(), rfl, hs.ent (.nil _)⟩)
    have hsl : s.length ≤ 512 := by omega
    have hread := hcr rfl hsl
    have hpc2 := fun w hG => parse_c s (by omega) w hG
    have hmc2 := fun w hG => measOf_c s (by omega) w hG
    have ho2 : ofM s = if (parseM s).e ≠ 0 then (Me.zero, (parseM s).e, (parseM s).at_) else (measM (parseM s).tree, 0, 0) := rfl
    generalize ofM s = o2 at hmc2 ho2
    generalize parseM s = p2 at hpc2 ho2 hread
    subst hread
    dsimp only at hpc2 ho2
    rw [if_neg (fun h => h rfl)] at ho2
    subst ho2
    dsimp only at hmc2
    refine .gr ?_; repeat constructor
    refine EL.move rfl rfl rfl ?_
    (refine EL.callXw rfl rfl rfl ent4 rfl (fun w hs => hpc2 w (GR.sat hG hs)) ?_; intro px2)
    refine EL.move rfl rfl rfl ?_
    refine EL.extract rfl rfl rfl rfl ?_
    refine EL.extract rfl rfl rfl rfl ?_
    (refine EL.alloc rfl rfl rfl ?_; intro g11)
    (apply EL.storeAll; exact rfl; exact rfl; exact rfl; exact rfl; exact rfl; (case p => repeat constructor); exact rfl; (case h1 => exact (by first | rfl | exact all1 rfl | (intro u hu; simp only [List.mem_cons, List.not_mem_nil, or_false] at hu; rcases hu with rfl | rfl | rfl | rfl <;> rfl) | (intro u hu; simp at hu; rcases hu with rfl | rfl | rfl | rfl <;> rfl) | (intro u hu; simp at hu; rcases hu with rfl | rfl | rfl <;> rfl) | (intro u hu; simp at hu; rcases hu with rfl | rfl <;> rfl) | (intro u hu; simp at hu; obtain ⟨_, _, rfl⟩ := hu; rfl))))
    (apply EL.storeAll; exact rfl; exact rfl; exact rfl; exact rfl; exact rfl; (case p => repeat constructor); exact rfl; (case h1 => exact (by first | rfl | exact all1 rfl | (intro u hu; simp only [List.mem_cons, List.not_mem_nil, or_false] at hu; rcases hu with rfl | rfl | rfl | rfl <;> rfl) | (intro u hu; simp at hu; rcases hu with rfl | rfl | rfl | rfl <;> rfl) | (intro u hu; simp at hu; rcases hu with rfl | rfl | rfl <;> rfl) | (intro u hu; simp at hu; rcases hu with rfl | rfl <;> rfl) | (intro u hu; simp at hu; obtain ⟨_, _, rfl⟩ := hu; rfl))))
    refine .gr ?_; repeat constructor
    refine EL.move rfl rfl rfl ?_
    refine EL.callPw rfl rfl rfl ent5 rfl (fun w hs => hmc2 w (GR.sat hG hs)) ?_
    refine EL.move rfl rfl rfl ?_
    refine EL.extract rfl rfl rfl rfl ?_
    refine EL.extract rfl rfl rfl rfl ?_
    (refine EL.alloc rfl rfl rfl ?_; intro g12)
    (apply EL.storeAll; exact rfl; exact rfl; exact rfl; exact rfl; exact rfl; (case p => repeat constructor); exact rfl; (case h1 => exact (by first | rfl | exact all1 rfl | (intro u hu; simp only [List.mem_cons, List.not_mem_nil, or_false] at hu; rcases hu with rfl | rfl | rfl | rfl <;> rfl) | (intro u hu; simp at hu; rcases hu with rfl | rfl | rfl | rfl <;> rfl) | (intro u hu; simp at hu; rcases hu with rfl | rfl | rfl <;> rfl) | (intro u hu; simp at hu; rcases hu with rfl | rfl <;> rfl) | (intro u hu; simp at hu; obtain ⟨_, _, rfl⟩ := hu; rfl))))
    (apply EL.storeAll; exact rfl; exact rfl; exact rfl; exact rfl; exact rfl; (case p => repeat constructor); exact rfl; (case h1 => exact (by first | rfl | exact all1 rfl | (intro u hu; simp only [List.mem_cons, List.not_mem_nil, or_false] at hu; rcases hu with rfl | rfl | rfl | rfl <;> rfl) | (intro u hu; simp at hu; rcases hu with rfl | rfl | rfl | rfl <;> rfl) | (intro u hu; simp at hu; rcases hu with rfl | rfl | rfl <;> rfl) | (intro u hu; simp at hu; rcases hu with rfl | rfl <;> rfl) | (intro u hu; simp at hu; obtain ⟨_, _, rfl⟩ := hu; rfl))))
    refine .gr ?_; repeat constructor
    refine .gr ?_; repeat constructor
    refine EL.fieldAddr rfl rfl rfl rfl rfl rfl rfl rfl ?_
    (apply EL.loadB; exact rfl; exact rfl; exact rfl; exact rfl; exact rfl; (case hm => repeat constructor); exact rfl)
    refine EL.eqlI rfl rfl rfl rfl ?_
    refine EL.move rfl rfl rfl ?_
    refine EL.rew (d := 64) (v' := .bool true) rfl (by first | rfl | (decide) | (simp)) ?_
    refine EL.fieldAddr rfl rfl rfl rfl rfl rfl rfl rfl ?_
    (apply EL.loadB; exact rfl; exact rfl; exact rfl; exact rfl; exact rfl; (case hm => repeat constructor); exact rfl)
    refine EL.eqlI rfl rfl rfl rfl ?_
    refine EL.pickT rfl rfl rfl rfl ?_
    refine EL.move rfl rfl rfl ?_
    refine EL.rew (d := 69) (v' := .bool true) rfl (by first | rfl | (decide) | (simp)) ?_
    (apply EL.loadAggB; exact rfl; exact rfl; exact rfl; exact rfl; exact rfl; (case hm => repeat constructor); exact rfl)
    (apply EL.loadAggB; exact rfl; exact rfl; exact rfl; exact rfl; exact rfl; (case hm => repeat constructor); exact rfl)
    refine EL.callPw rfl rfl rfl ent7 rfl (fun w hs => treeSame_c tree hpf px.ad px2.ad px.cap px2.cap w (kids_of hs (by repeat constructor)) (kids_of hs (by repeat constructor))) ?_
    refine EL.pickT rfl rfl rfl rfl ?_
    refine EL.move rfl rfl rfl ?_
    refine EL.rew (d := 74) (v' := .bool true) rfl (by first | rfl | (decide) | (simp)) ?_
    (apply EL.loadAggB; exact rfl; exact rfl; exact rfl; exact rfl; exact rfl; (case hm => repeat constructor); exact rfl)
    (apply EL.loadAggB; exact rfl; exact rfl; exact rfl; exact rfl; exact rfl; (case hm => repeat constructor); exact rfl)
    refine EL.eqlAgg rfl rfl rfl rfl eqg34 (fun w => me_self (measM tree) w) ?_
    refine EL.pickT rfl rfl rfl rfl ?_
    refine EL.assign rfl rfl rfl ?_
    refine .gr ?_; repeat constructor
    exact PX.ret rfl Tryd.results3 (.cons (.tmp rfl) .nil) (fun w hs => ⟨(), rfl, hs.ent (.nil _)⟩)
  · rw [if_pos he] at ho hcm
    subst ho hcm
    dsimp only at hmc hcc
    refine calls_of_ES TB Tryd.func3 rfl _ Tryd.ntmps3 rfl (Sat.start w) ?_
    refine .gr ?_; repeat constructor
    refine EL.assign rfl rfl rfl ?_
    refine .gr ?_; repeat constructor
    (refine EL.callXw rfl rfl rfl ent4 rfl (fun w hs => hpa w (GR.sat hG hs)) ?_; intro px6)
    refine EL.move rfl rfl rfl ?_
    refine EL.extract rfl rfl rfl rfl ?_
    refine EL.extract rfl rfl rfl rfl ?_
    (refine EL.alloc rfl rfl rfl ?_; intro g3)
    (refine EL.alloc rfl rfl rfl ?_; intro g4)
    (apply EL.storeAll; exact rfl; exact rfl; exact rfl; exact rfl; exact rfl; (case p => repeat constructor); exact rfl; (case h1 => exact (by first | rfl | exact all1 rfl | (intro u hu; simp only [List.mem_cons, List.not_mem_nil, or_false] at hu; rcases hu with rfl | rfl | rfl | rfl <;> rfl) | (intro u hu; simp at hu; rcases hu with rfl | rfl | rfl | rfl <;> rfl) | (intro u hu; simp at hu; rcases hu with rfl | rfl | rfl <;> rfl) | (intro u hu; simp at hu; rcases hu with rfl | rfl <;> rfl) | (intro u hu; simp at hu; obtain ⟨_, _, rfl⟩ := hu; rfl))))
    (apply EL.storeAll; exact rfl; exact rfl; exact rfl; exact rfl; exact rfl; (case p => repeat constructor); exact rfl; (case h1 => exact (by first | rfl | exact all1 rfl | (intro u hu; simp only [List.mem_cons, List.not_mem_nil, or_false] at hu; rcases hu with rfl | rfl | rfl | rfl <;> rfl) | (intro u hu; simp at hu; rcases hu with rfl | rfl | rfl | rfl <;> rfl) | (intro u hu; simp at hu; rcases hu with rfl | rfl | rfl <;> rfl) | (intro u hu; simp at hu; rcases hu with rfl | rfl <;> rfl) | (intro u hu; simp at hu; obtain ⟨_, _, rfl⟩ := hu; rfl))))
    refine .gr ?_; repeat constructor
    refine .gr ?_; repeat constructor
    (apply EL.loadAggB; exact rfl; exact rfl; exact rfl; exact rfl; exact rfl; (case hm => repeat constructor); exact rfl)
    (apply EL.build2; exact rfl; exact rfl; exact rfl; exact rfl; exact rfl; exact rfl; exact rfl; exact rfl; exact rfl; exact rfl)
    refine EL.neqAgg rfl rfl rfl rfl eqg30 (run_equal_st2 TB rfl rfl sth30 rfl rfl rfl rfl rfl rfl rfl rfl _ _ _ _) ?_
    refine .gr ?_; repeat constructor
    refine ES.condK false rfl (by simp) ?_
    refine .gr ?_; repeat constructor
    refine EL.move rfl rfl rfl ?_
    (refine EL.callXw rfl rfl rfl ent4 rfl (fun w hs => hpc w (GR.sat hG hs)) ?_; intro px)
    refine EL.move rfl rfl rfl ?_
    refine EL.extract rfl rfl rfl rfl ?_
    refine EL.extract rfl rfl rfl rfl ?_
    (refine EL.alloc rfl rfl rfl ?_; intro g5)
    (refine EL.alloc rfl rfl rfl ?_; intro g6)
    (apply EL.storeAll; exact rfl; exact rfl; exact rfl; exact rfl; exact rfl; (case p => repeat constructor); exact rfl; (case h1 => exact (by first | rfl | exact all1 rfl | (intro u hu; simp only [List.mem_cons, List.not_mem_nil, or_false] at hu; rcases hu with rfl | rfl | rfl | rfl <;> rfl) | (intro u hu; simp at hu; rcases hu with rfl | rfl | rfl | rfl <;> rfl) | (intro u hu; simp at hu; rcases hu with rfl | rfl | rfl <;> rfl) | (intro u hu; simp at hu; rcases hu with rfl | rfl <;> rfl) | (intro u hu; simp at hu; obtain ⟨_, _, rfl⟩ := hu; rfl))))
    (apply EL.storeAll; exact rfl; exact rfl; exact rfl; exact rfl; exact rfl; (case p => repeat constructor); exact rfl; (case h1 => exact (by first | rfl | exact all1 rfl | (intro u hu; simp only [List.mem_cons, List.not_mem_nil, or_false] at hu; rcases hu with rfl | rfl | rfl | rfl <;> rfl) | (intro u hu; simp at hu; rcases hu with rfl | rfl | rfl | rfl <;> rfl) | (intro u hu; simp at hu; rcases hu with rfl | rfl | rfl <;> rfl) | (intro u hu; simp at hu; rcases hu with rfl | rfl <;> rfl) | (intro u hu; simp at hu; obtain ⟨_, _, rfl⟩ := hu; rfl))))
    refine .gr ?_; repeat constructor
    refine EL.move rfl rfl rfl ?_
    refine EL.callPw rfl rfl rfl ent5 rfl (fun w hs => hmc w (GR.sat hG hs)) ?_
    refine EL.move rfl rfl rfl ?_
    refine EL.extract rfl rfl rfl rfl ?_
    refine EL.extract rfl rfl rfl rfl ?_
    (refine EL.alloc rfl rfl rfl ?_; intro g7)
    (refine EL.alloc rfl rfl rfl ?_; intro g8)
    (apply EL.storeAll; exact rfl; exact rfl; exact rfl; exact rfl; exact rfl; (case p => repeat constructor); exact rfl; (case h1 => exact (by first | rfl | exact all1 rfl | (intro u hu; simp only [List.mem_cons, List.not_mem_nil, or_false] at hu; rcases hu with rfl | rfl | rfl | rfl <;> rfl) | (intro u hu; simp at hu; rcases hu with rfl | rfl | rfl | rfl <;> rfl) | (intro u hu; simp at hu; rcases hu with rfl | rfl | rfl <;> rfl) | (intro u hu; simp at hu; rcases hu with rfl | rfl <;> rfl) | (intro u hu; simp at hu; obtain ⟨_, _, rfl⟩ := hu; rfl))))
    (apply EL.storeAll; exact rfl; exact rfl; exact rfl; exact rfl; exact rfl; (case p => repeat constructor); exact rfl; (case h1 => exact (by first | rfl | exact all1 rfl | (intro u hu; simp only [List.mem_cons, List.not_mem_nil, or_false] at hu; rcases hu with rfl | rfl | rfl | rfl <;> rfl) | (intro u hu; simp at hu; rcases hu with rfl | rfl | rfl | rfl <;> rfl) | (intro u hu; simp at hu; rcases hu with rfl | rfl | rfl <;> rfl) | (intro u hu; simp at hu; rcases hu with rfl | rfl <;> rfl) | (intro u hu; simp at hu; obtain ⟨_, _, rfl⟩ := hu; rfl))))
    refine .gr ?_; repeat constructor
    refine EL.move rfl rfl rfl ?_
    refine EL.callPw rfl rfl rfl ent6 rfl (fun w hs => hcc w (GR.sat hG hs) (Rd.sat hT hs) (PowR.sat hP hs)) ?_
    refine EL.move rfl rfl rfl ?_
    refine EL.extract rfl rfl rfl rfl ?_
    refine EL.extract rfl rfl rfl rfl ?_
    (refine EL.alloc rfl rfl rfl ?_; intro g10)
    refine EL.assign rfl rfl rfl ?_
    (apply EL.storeAll; exact rfl; exact rfl; exact rfl; exact rfl; exact rfl; (case p => repeat constructor); exact rfl; (case h1 => exact (by first | rfl | exact all1 rfl | (intro u hu; simp only [List.mem_cons, List.not_mem_nil, or_false] at hu; rcases hu with rfl | rfl | rfl | rfl <;> rfl) | (intro u hu; simp at hu; rcases hu with rfl | rfl | rfl | rfl <;> rfl) | (intro u hu; simp at hu; rcases hu with rfl | rfl | rfl <;> rfl) | (intro u hu; simp at hu; rcases hu with rfl | rfl <;> rfl) | (intro u hu; simp at hu; obtain ⟨_, _, rfl⟩ := hu; rfl))))
    refine .gr ?_; repeat constructor
    refine .gr ?_; repeat constructor
    (apply EL.loadAggB; exact rfl; exact rfl; exact rfl; exact rfl; exact rfl; (case hm => repeat constructor); exact rfl)
    (apply EL.loadAggB; exact rfl; exact rfl; exact rfl; exact rfl; exact rfl; (case hm => repeat constructor); exact rfl)
    refine EL.neqAgg rfl rfl rfl rfl eqg30 (run_equal_st2 TB rfl rfl sth30 rfl rfl rfl rfl rfl rfl rfl rfl _ _ _ _) ?_
    refine EL.move rfl rfl rfl ?_
    refine EL.rew (d := 38) (v' := .bool false) rfl ((by simp)) ?_
    (apply EL.loadAggB; exact rfl; exact rfl; exact rfl; exact rfl; exact rfl; (case hm => repeat constructor); exact rfl)
    (apply EL.loadAggB; exact rfl; exact rfl; exact rfl; exact rfl; exact rfl; (case hm => repeat constructor); exact rfl)
    refine EL.neqAgg rfl rfl rfl rfl eqg30 (run_equal_st2 TB rfl rfl sth30 rfl rfl rfl rfl rfl rfl rfl rfl _ _ _ _) ?_
    refine EL.pickF rfl rfl rfl rfl ?_
    refine .gr ?_; repeat constructor
    refine ES.condK false rfl (by simp) ?_
    refine .gr ?_; repeat constructor
    refine EL.fieldAddr rfl rfl rfl rfl rfl rfl rfl rfl ?_
    (apply EL.loadB; exact rfl; exact rfl; exact rfl; exact rfl; exact rfl; (case hm => repeat constructor); exact rfl)
    refine EL.neqI rfl rfl rfl rfl ?_
    refine EL.move rfl rfl rfl ?_
    refine EL.rew (d := 46) (v' := .bool true) rfl (congrArg Value.bool (by simp [he])) ?_
    refine EL.pass rfl rfl rfl ?_
    refine EL.pass rfl rfl rfl ?_
    refine EL.pass rfl rfl rfl ?_
    refine EL.pickT rfl rfl rfl rfl ?_
    refine .gr ?_; repeat constructor
    refine ES.condT rfl ?_
    refine .gr ?_; repeat constructor
    refine EL.assign rfl rfl rfl ?_
    refine .gr ?_; repeat constructor
    exact PX.ret rfl Tryd.results3 (.cons (.tmp rfl) .nil) (fun w hs => ⟨(), rfl, hs.ent (.nil _)⟩)
theorem laid_tail {P : Program} {x : String × DataW Unit} {r : List (String × DataW Unit)} {w : World} (h : laidMet P (x :: r) w) : laidMet P r w := by
  obtain ⟨ps, hv, hnd, hrows⟩ := h
  obtain ⟨n, d⟩ := x
  obtain ⟨g, t, cs, fuel, p, q, _, _, _, _, hq, rfl⟩ := hv
  exact ⟨q, hq, List.Nodup.sublist (List.sublist_append_right _ _) hnd, fun b off hm => hrows b off (List.mem_append_right _ hm)⟩
theorem gTab : Tryd.prog.globalNamed "math/bits.deBruijn64tab" = some 0 := by kernel_rfl
theorem gTabType : (Tryd.prog.globals[0]?).map (·.type) = some 117 := by kernel_rfl
theorem cellsTab : Tryd.prog.cellsOf 117 = 64 := by kernel_rfl
theorem cellsByte : Tryd.prog.cellsOf 5 = 1 := by kernel_rfl
theorem gPowType : (Tryd.prog.globals[2]?).map (·.type) = some 127 := by kernel_rfl
theorem undPow : Tryd.prog.underlying 127 = some (.array 20 22) := by kernel_rfl
theorem undU64 : Tryd.prog.underlying 22 = some (.int .u64) := by kernel_rfl
theorem cellsPow : Tryd.prog.cellsOf 127 = 20 := by kernel_rfl
theorem cellsU64 : Tryd.prog.cellsOf 22 = 1 := by kernel_rfl
def tabZ : List Int := Lib.deBruijn64tab.map fun n : Nat => (n : Int)
theorem laid64 : (Rows.laid_math_bits_deBruijn64tab : DataW Unit) = Lib.tabData .u8 tabZ := by kernel_rfl
theorem laidPow : (Rows.laid_internal_strconv_uint64pow10 : DataW Unit) = Lib.tabData .u64 Lib.pow10Tab := by kernel_rfl
theorem laid3 {W : World} (h : laidMetH Tryd.prog Rows.wholeTextsRow.laid W) : laidMet Tryd.prog [("math/bits.deBruijn32tab", Rows.laid_math_bits_deBruijn32tab), ("math/bits.deBruijn64tab", Lib.tabData .u8 tabZ), ("internal/strconv.uint64pow10", Lib.tabData .u64 Lib.pow10Tab)] W := by
  rw [← laid64, ← laidPow]
  exact h
theorem tabIs {W : World} (h : laidMetH Tryd.prog Rows.wholeTextsRow.laid W) : Lib.TabIs Tryd.prog W "math/bits.deBruijn64tab" .u8 tabZ :=
  Lib.tabIs_of_head gTab gTabType Tryd.underlying117 Tryd.underlying5 cellsByte cellsTab (laid_tail (laid3 h))
theorem tabR {W : World} (h : laidMetH Tryd.prog Rows.wholeTextsRow.laid W) : TabR W W.heap.size := by
  have hl : tabZ.length = 64 := by decide
  have hc := fun i hi => (tabIs h).cell gTab i hi
  intro _
  refine ⟨_, _, rfl, World.block_lt_of_cell? _ _ (hc 0 (by omega)), fun j v hj => ?_⟩
  have hlt : j < tabV.length := (List.getElem?_eq_some_iff.1 hj).1
  have hlv : tabV.length = 64 := by decide
  rw [Nat.zero_add, hc j (by omega)]
  unfold tabV at hj
  unfold tabZ
  rw [List.getElem?_map] at hj
  obtain ⟨n, h1, h2⟩ := Option.map_eq_some_iff.1 hj
  rw [← h2, List.getD_eq_getElem?_getD, List.getElem?_map, h1]
  rfl
theorem powR {W : World} (h : laidMetH Tryd.prog Rows.wholeTextsRow.laid W) : PowR W W.heap.size := by
  have ht : Lib.TabIs Tryd.prog W "internal/strconv.uint64pow10" .u64 Lib.pow10Tab := Lib.tabIs_of_head gPow gPowType undPow undU64 cellsU64 cellsPow (laid_tail (laid_tail (laid3 h)))
  exact ⟨ht, World.block_lt_of_cell? _ _ (ht.cell gPow 0 (by rw [Lib.pow10Tab_length]; omega))⟩
def tab32 : List Nat := [0, 1, 28, 2, 29, 14, 24, 3, 30, 22, 20, 15, 25, 17, 4, 8, 31, 27, 13, 23, 21, 19, 16, 7, 26, 12, 18, 6, 11, 5, 10, 9]
def modCells (g : Nat) (vs : List Value) (h : Array Obj) : Array Obj := h.modify g fun
  | .cells _ t frozen => .cells vs.toArray t frozen
  | o => o
noncomputable def laidWorld (os : Os) : World :=
  { World.holding Tryd.prog os ⟨#[], #[], []⟩ with heap := modCells 3 (tab32.map fun n : Nat => Value.int .u8 ((n : Nat) : Int)) (modCells 0 tabV (modCells 2 (Lib.pow10Tab.map fun z => Value.int .u64 z) (World.holding Tryd.prog os ⟨#[], #[], []⟩).heap)) }
theorem wholeTexts_met (os : Os) : laidMet Tryd.prog Rows.wholeTextsRow.laid ((laidWorld os).forCall (fun _ _ => 0) ⟨#[], #[.string ⟨#[]⟩], []⟩).memory :=
  laidMet_of_run' 8 (by kernel_rfl) (by kernel_rfl)
theorem wholeTexts_reads (os : Os) {H : Type} (enc : TypeId × Value → H) : ∃ places, DataW.whole enc Tryd.prog ((laidWorld os).forCall (fun _ _ => 0) ⟨#[], #[.string ⟨#[]⟩], []⟩).memory Tryd.f3.params.toList Rows.wholeTextsSpec.vars false (#[.string ⟨#[]⟩] : Array Value).toList 8 = some ([.lit (.string [])], [], places) :=
  ⟨[], by kernel_rfl⟩
theorem wholeTexts_lifted (os : Os) (started : os.Started) (H : Type) (enc : TypeId × Value → H) (F : Stop.Interp) :
    ReturnsInHanded {} Tryd.checked os 3 .any ((OpenSpec.ofChange Rows.wholeTextsSpec).preRow enc Tryd.prog Tryd.f3 Rows.wholeTextsRow.domain false Rows.wholeTextsRow.laid) (((OpenSpec.ofChange Rows.wholeTextsSpec).at F).post enc Tryd.prog Tryd.f3 false true false false) := by
  obtain ⟨places, hx⟩ := wholeTexts_reads os enc
  refine returnsInHanded_of_row (C := Tryd.checked) (s := OpenSpec.ofChange Rows.wholeTextsSpec) own started (by kernel_rfl) Tryd.func3
    (witness_row_at (enc := enc) (C := Tryd.checked) false (laidWorld os) #[.string ⟨#[]⟩] rfl (by kernel_rfl) (by kernel_rfl) (by kernel_rfl)
      (OpenSpec.preRow_of_cond 8 hx (by kernel_rfl) (fun k hk => by cases hk) (by kernel_rfl) (wholeTexts_met os))) ?_
  intro W base args ds gs before hval0 hW _ _ hsz hL hsh _
  have hk : (DataW.weightsEach Tryd.prog (Tryd.f3.params.toList ++ []) (ds ++ gs)).all (· ≤ reachBytes) = true := hsz
  have hval : ∀ (j : Nat) t v, Tryd.f3.params[j]? = some t → args[j]? = some v → Value.okWide Tryd.prog W .any base t v := hval0
  have hW1 : DataW.Whole enc Tryd.prog Tryd.f3.params.toList Rows.wholeTextsSpec.vars false W args.toList ds gs before := hW
  have hW' := hW1
  obtain ⟨p, q, hA0, hV, rfl, hfz, hnd⟩ := hW1
  have hA : DataW.TrodAll enc Tryd.prog W 0 (fun _ => true) true Tryd.f3.params.toList args.toList ds p := hA0
  rw [Tryd.params3] at hA hval hk
  obtain ⟨v0, vs0, d0, ds0, p0, q0, hargs0, rfl, rfl, h0, r0⟩ := trodAll_cons hA
  obtain ⟨rfl, rfl, rfl⟩ := trodAll_nil r0
  obtain rfl : args = #[v0] := by cases args; simp_all
  obtain ⟨rfl, rfl⟩ := trodVars_none hV
  obtain ⟨l0, rfl, rfl⟩ := open_sv Tryd.underlying9 (hval 0 9 v0 rfl rfl) h0
  simp only [List.append_nil, DataW.weightsEach, w_str, w_int, reachBytes, List.nil_append, List.append_nil, List.all_append, List.all_cons, List.all_nil, Bool.and_true, Bool.and_eq_true, decide_eq_true_eq] at hk
  have hl0 : l0.length ≤ 140737488351232 := by first | omega | exact of_decide_eq_true hk | exact of_decide_eq_true hk.1 | exact of_decide_eq_true hk.2 | exact of_decide_eq_true hk.2.1 | exact of_decide_eq_true hk.2.2 | exact of_decide_eq_true hk.2.2.1 | exact of_decide_eq_true hk.2.2.2
  refine (wholeTexts_c l0 (by omega) W (tabR hL) (powR hL) (GR.of hsh)).mono fun e W' ⟨_, he, hs⟩ => ⟨_, he, ?_⟩
  exact law_true (s := Rows.wholeTextsSpec) laidOut rfl Tryd.underlying4 (by kernel_rfl) rfl false rfl rfl rfl hW' hs.below
theorem wholeTexts_said : Rows.WholeTextsSaid :=
  OpenClaim.holds_of_cond 3 Tryd.f3 rfl rfl rfl rfl rfl rfl rfl ⟨rfl, rfl, rfl, rfl, rfl⟩ rfl rfl rfl rfl rfl (by kernel_rfl) Tryd.func3 (by kernel_rfl)
    (of_decide_eq_true (by kernel_rfl)) (by unfold Func.isWrapper; first | (rw [if_pos (by decide +kernel)]; kernel_rfl) | (rw [if_neg (by decide +kernel)]; exact ⟨rfl, rfl⟩))
    (fun os started H enc _ F => by rw [OpenClaim.pre_eq_preRow]; exact wholeTexts_lifted os started H enc F)
theorem wholeTexts_plain (f : FuncId) (fn : Func) (hf : Tryd.pinned.checked.prog.funcNamed "runnel/runneltop.WholeTexts" = some f) (hfn : Tryd.pinned.checked.prog.funcs[f]? = some fn) :
    false = Tryd.pinned.checked.prog.looks [] ∧ ∀ (j : Nat) t, fn.params[j]? = some t → Tryd.pinned.checked.prog.wantsStandIn t = false := by
  obtain rfl : f = 3 := Option.some.inj ((show Tryd.prog.funcNamed "runnel/runneltop.WholeTexts" = some 3 by kernel_rfl).symm.trans hf) |>.symm
  obtain rfl : fn = Tryd.f3 := (Option.some.inj (Tryd.func3.symm.trans hfn)).symm
  refine ⟨by kernel_rfl, fun j t ht => ?_⟩
  rw [Tryd.params3] at ht
  have hm : t = 9 := by simpa using Array.mem_of_getElem? ht
  subst hm
  exact (show Tryd.prog.wantsStandIn 9 = false by kernel_rfl)
theorem wholeTexts_holds : Rows.WholeTextsCardSaid :=
  Claim7.holds_tied_plain_at .later [] _ _ _ _ wholeTexts_said (fun _ h => by cases h) (by kernel_rfl) (fun _ h => by cases h) wholeTexts_row_tie rfl ⟨rfl, rfl⟩ (by kernel_rfl) rfl wholeTexts_plain (by kernel_rfl)
end Go.Proofs.YtcoajnpneableaaDoor
