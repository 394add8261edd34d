/- Layer 23 (input): the law's own test, and the nil queue's law. -/
import Derived.Test.YtbclmngjhhmbdaaIe
namespace Go.Proofs.Ytbclmngjhhmbdaa
open Go Go.RowKit Sl
set_option maxRecDepth 100000
set_option maxHeartbeats 8000000
set_option linter.unusedVariables false
set_option linter.unusedSimpArgs false
attribute [local irreducible] ES EL PX wps

abbrev QA := Option Addr × Nat
theorem q1 (g : Nat) (ad : Option Addr) (cap : Nat) : Mut Try.prog 19 #[Pv g 0, Sv [97]] (HQ g ad cap ⟨[], 0, false⟩) (fun _ : QA => Iv 0) (fun x => HQ g x.1 x.2 ⟨[[97]], 0, false⟩) := feed_c g ad cap ⟨[], 0, false⟩ [97] ⟨by decide, by decide, by decide⟩
theorem q2 (g : Nat) (ad : Option Addr) (cap : Nat) : Mut Try.prog 25 #[Pv g 0] (HQ g ad cap ⟨[[97]], 0, false⟩) (fun _ : Unit => .bool false) (fun _ => HQ g ad cap ⟨[[97]], 0, false⟩) := ready_c g ad cap ⟨[[97]], 0, false⟩
theorem q3 (g : Nat) (ad : Option Addr) (cap : Nat) : Mut Try.prog 19 #[Pv g 0, Sv [98, 99]] (HQ g ad cap ⟨[[97]], 0, false⟩) (fun _ : QA => Iv 0) (fun x => HQ g x.1 x.2 ⟨[[97], [98, 99]], 0, false⟩) := feed_c g ad cap ⟨[[97]], 0, false⟩ [98, 99] ⟨by decide, by decide, by decide⟩
theorem q4 (g : Nat) (ad : Option Addr) (cap : Nat) : Mut Try.prog 25 #[Pv g 0] (HQ g ad cap ⟨[[97], [98, 99]], 0, false⟩) (fun _ : Unit => .bool true) (fun _ => HQ g ad cap ⟨[[97], [98, 99]], 0, false⟩) := ready_c g ad cap ⟨[[97], [98, 99]], 0, false⟩
theorem q5 (g : Nat) (ad : Option Addr) (cap : Nat) : Mut Try.prog 23 #[Pv g 0] (HQ g ad cap ⟨[[97], [98, 99]], 0, false⟩) (fun _ : QA => .tuple #[Sv [97], .bool true]) (fun x => HQ g x.1 x.2 ⟨[[98, 99]], 1, false⟩) := next_c g ad cap ⟨[[97], [98, 99]], 0, false⟩ ⟨by decide, by decide, by decide⟩
theorem q6 (g : Nat) (ad : Option Addr) (cap : Nat) : Mut Try.prog 23 #[Pv g 0] (HQ g ad cap ⟨[[98, 99]], 1, false⟩) (fun _ : QA => .tuple #[Sv [], .bool false]) (fun x => HQ g x.1 x.2 ⟨[[98, 99]], 1, false⟩) := next_c g ad cap ⟨[[98, 99]], 1, false⟩ ⟨by decide, by decide, by decide⟩
theorem q7 (g : Nat) (ad : Option Addr) (cap : Nat) : Mut Try.prog 32 #[Pv g 0] (HQ g ad cap ⟨[[98, 99]], 1, false⟩) (fun _ : Unit => Iv 2) (fun _ => HQ g ad cap ⟨[[98, 99]], 1, false⟩) := held_c g ad cap ⟨[[98, 99]], 1, false⟩
theorem q8 (g : Nat) (ad : Option Addr) (cap : Nat) : Mut Try.prog 21 #[Pv g 0] (HQ g ad cap ⟨[[98, 99]], 1, false⟩) (fun _ : Unit => Iv 0) (fun _ => HQ g ad cap ⟨[[98, 99]], 1, true⟩) := close_c g ad cap ⟨[[98, 99]], 1, false⟩
theorem q9 (g : Nat) (ad : Option Addr) (cap : Nat) : Mut Try.prog 25 #[Pv g 0] (HQ g ad cap ⟨[[98, 99]], 1, true⟩) (fun _ : Unit => .bool true) (fun _ => HQ g ad cap ⟨[[98, 99]], 1, true⟩) := ready_c g ad cap ⟨[[98, 99]], 1, true⟩
theorem q10 (g : Nat) (ad : Option Addr) (cap : Nat) : Mut Try.prog 27 #[Pv g 0] (HQ g ad cap ⟨[[98, 99]], 1, true⟩) (fun _ : Unit => .bool false) (fun _ => HQ g ad cap ⟨[[98, 99]], 1, true⟩) := last_c g ad cap ⟨[[98, 99]], 1, true⟩
theorem q11 (g : Nat) (ad : Option Addr) (cap : Nat) : Mut Try.prog 19 #[Pv g 0, Sv [100]] (HQ g ad cap ⟨[[98, 99]], 1, true⟩) (fun _ : QA => Iv 25) (fun x => HQ g x.1 x.2 ⟨[[98, 99]], 1, true⟩) := feed_c g ad cap ⟨[[98, 99]], 1, true⟩ [100] ⟨by decide, by decide, by decide⟩
theorem awake23_c (w : World) : Pure Try.prog 18 #[] (fun _ : Unit => .bool true) (fun _ => []) w := by
  refine calls_of_ES TB Try.func18 rfl _ Try.ntmps18 rfl (Sat.start w) ?_
  repeat (first | apply ES.seq | apply ES.skip | apply ES.region | apply EL.nil | apply ES.block | apply ES.nil | apply ES.exit | apply ES.ret | apply PX.hit | (apply PX.miss; exact rfl) | apply PX.then_x | apply PX.then_r | apply PX.block_n | apply PX.block_r | refine PX.then_n (e := .normal) ?_)
  refine EL.assign rfl rfl rfl ?_
  repeat (first | apply ES.seq | apply ES.skip | apply ES.region | apply EL.nil | apply ES.block | apply ES.nil | apply ES.exit | apply ES.ret | apply PX.hit | (apply PX.miss; exact rfl) | apply PX.then_x | apply PX.then_r | apply PX.block_n | apply PX.block_r | refine PX.then_n (e := .normal) ?_)
  (refine EL.callX rfl rfl rfl ent17 rfl qnew_c ?_; intro g)
  refine EL.assign rfl rfl rfl ?_
  repeat (first | apply ES.seq | apply ES.skip | apply ES.region | apply EL.nil | apply ES.block | apply ES.nil | apply ES.exit | apply ES.ret | apply PX.hit | (apply PX.miss; exact rfl) | apply PX.then_x | apply PX.then_r | apply PX.block_n | apply PX.block_r | refine PX.then_n (e := .normal) ?_)
  repeat (first | apply ES.seq | apply ES.skip | apply ES.region | apply EL.nil | apply ES.block | apply ES.nil | apply ES.exit | apply ES.ret | apply PX.hit | (apply PX.miss; exact rfl) | apply PX.then_x | apply PX.then_r | apply PX.block_n | apply PX.block_r | refine PX.then_n (e := .normal) ?_)
  refine EL.move rfl rfl rfl ?_
  refine EL.eqlPn rfl rfl rfl rfl rfl rfl ?_
  refine EL.move rfl rfl rfl ?_
  refine EL.rew (d := 9) (v' := .bool false) rfl (by first | rfl | (decide) | (simp)) ?_
  refine EL.move rfl rfl rfl ?_
  (refine EL.callM rfl rfl rfl ent19 rfl (q1 g _ _) (by repeat (first | exact Takes.nil _ | (apply Takes.cons; case p => repeat (first | exact Pick.here _ _ | apply Pick.there)))) ?_; rintro ⟨a1, c1⟩)
  refine EL.neqI rfl rfl rfl rfl ?_
  refine EL.pickF rfl rfl rfl rfl ?_
  refine EL.move rfl rfl rfl ?_
  refine EL.rew (d := 14) (v' := .bool false) rfl (by first | rfl | (decide) | (simp)) ?_
  refine EL.move rfl rfl rfl ?_
  refine EL.callM1 rfl rfl rfl ent25 rfl (q2 g a1 c1) (by repeat (first | exact Takes.nil _ | (apply Takes.cons; case p => repeat (first | exact Pick.here _ _ | apply Pick.there)))) ?_
  refine EL.pickF rfl rfl rfl rfl ?_
  refine EL.move rfl rfl rfl ?_
  refine EL.rew (d := 18) (v' := .bool false) rfl (by first | rfl | (decide) | (simp)) ?_
  refine EL.move rfl rfl rfl ?_
  (refine EL.callM rfl rfl rfl ent19 rfl (q3 g a1 c1) (by repeat (first | exact Takes.nil _ | (apply Takes.cons; case p => repeat (first | exact Pick.here _ _ | apply Pick.there)))) ?_; rintro ⟨a2, c2⟩)
  refine EL.neqI rfl rfl rfl rfl ?_
  refine EL.pickF rfl rfl rfl rfl ?_
  refine EL.move rfl rfl rfl ?_
  refine EL.rew (d := 23) (v' := .bool false) rfl (by first | rfl | (decide) | (simp)) ?_
  refine EL.move rfl rfl rfl ?_
  refine EL.callM1 rfl rfl rfl ent25 rfl (q4 g a2 c2) (by repeat (first | exact Takes.nil _ | (apply Takes.cons; case p => repeat (first | exact Pick.here _ _ | apply Pick.there)))) ?_
  refine EL.not rfl rfl rfl ?_
  refine EL.pickF rfl rfl rfl rfl ?_
  repeat (first | apply ES.seq | apply ES.skip | apply ES.region | apply EL.nil | apply ES.block | apply ES.nil | apply ES.exit | apply ES.ret | apply PX.hit | (apply PX.miss; exact rfl) | apply PX.then_x | apply PX.then_r | apply PX.block_n | apply PX.block_r | refine PX.then_n (e := .normal) ?_)
  refine ES.condK false rfl rfl ?_
  repeat (first | apply ES.seq | apply ES.skip | apply ES.region | apply EL.nil | apply ES.block | apply ES.nil | apply ES.exit | apply ES.ret | apply PX.hit | (apply PX.miss; exact rfl) | apply PX.then_x | apply PX.then_r | apply PX.block_n | apply PX.block_r | refine PX.then_n (e := .normal) ?_)
  refine EL.move rfl rfl rfl ?_
  (refine EL.callM rfl rfl rfl ent23 rfl (q5 g a2 c2) (by repeat (first | exact Takes.nil _ | (apply Takes.cons; case p => repeat (first | exact Pick.here _ _ | apply Pick.there)))) ?_; rintro ⟨a3, c3⟩)
  refine EL.move rfl rfl rfl ?_
  refine EL.extract rfl rfl rfl rfl ?_
  refine EL.extract rfl rfl rfl rfl ?_
  refine EL.assign rfl rfl rfl ?_
  refine EL.assign rfl rfl rfl ?_
  repeat (first | apply ES.seq | apply ES.skip | apply ES.region | apply EL.nil | apply ES.block | apply ES.nil | apply ES.exit | apply ES.ret | apply PX.hit | (apply PX.miss; exact rfl) | apply PX.then_x | apply PX.then_r | apply PX.block_n | apply PX.block_r | refine PX.then_n (e := .normal) ?_)
  refine EL.move rfl rfl rfl ?_
  (refine EL.callM rfl rfl rfl ent23 rfl (q6 g a3 c3) (by repeat (first | exact Takes.nil _ | (apply Takes.cons; case p => repeat (first | exact Pick.here _ _ | apply Pick.there)))) ?_; rintro ⟨a4, c4⟩)
  refine EL.move rfl rfl rfl ?_
  refine EL.extract rfl rfl rfl rfl ?_
  refine EL.extract rfl rfl rfl rfl ?_
  refine EL.assign rfl rfl rfl ?_
  refine EL.assign rfl rfl rfl ?_
  repeat (first | apply ES.seq | apply ES.skip | apply ES.region | apply EL.nil | apply ES.block | apply ES.nil | apply ES.exit | apply ES.ret | apply PX.hit | (apply PX.miss; exact rfl) | apply PX.then_x | apply PX.then_r | apply PX.block_n | apply PX.block_r | refine PX.then_n (e := .normal) ?_)
  repeat (first | apply ES.seq | apply ES.skip | apply ES.region | apply EL.nil | apply ES.block | apply ES.nil | apply ES.exit | apply ES.ret | apply PX.hit | (apply PX.miss; exact rfl) | apply PX.then_x | apply PX.then_r | apply PX.block_n | apply PX.block_r | refine PX.then_n (e := .normal) ?_)
  refine EL.move rfl rfl rfl ?_
  refine EL.move rfl rfl rfl ?_
  refine EL.rew (d := 39) (v' := .bool true) rfl (by first | rfl | (decide) | (simp)) ?_
  refine EL.move rfl rfl rfl ?_
  refine EL.eqlS rfl rfl rfl rfl ?_
  refine EL.pickT rfl rfl rfl rfl ?_
  refine EL.move rfl rfl rfl ?_
  refine EL.rew (d := 43) (v' := .bool true) rfl (by first | rfl | (decide) | (simp)) ?_
  refine EL.move rfl rfl rfl ?_
  refine EL.not rfl rfl rfl ?_
  refine EL.pickT rfl rfl rfl rfl ?_
  refine EL.move rfl rfl rfl ?_
  refine EL.rew (d := 47) (v' := .bool true) rfl (by first | rfl | (decide) | (simp)) ?_
  refine EL.move rfl rfl rfl ?_
  refine EL.callM1 rfl rfl rfl ent32 rfl (q7 g a4 c4) (by repeat (first | exact Takes.nil _ | (apply Takes.cons; case p => repeat (first | exact Pick.here _ _ | apply Pick.there)))) ?_
  refine EL.eqlI rfl rfl rfl rfl ?_
  refine EL.pickT rfl rfl rfl rfl ?_
  refine EL.move rfl rfl rfl ?_
  refine EL.rew (d := 52) (v' := .bool true) rfl (by first | rfl | (decide) | (simp)) ?_
  refine EL.move rfl rfl rfl ?_
  refine EL.callM1 rfl rfl rfl ent21 rfl (q8 g a4 c4) (by repeat (first | exact Takes.nil _ | (apply Takes.cons; case p => repeat (first | exact Pick.here _ _ | apply Pick.there)))) ?_
  refine EL.eqlI rfl rfl rfl rfl ?_
  refine EL.pickT rfl rfl rfl rfl ?_
  refine EL.move rfl rfl rfl ?_
  refine EL.rew (d := 57) (v' := .bool true) rfl (by first | rfl | (decide) | (simp)) ?_
  refine EL.move rfl rfl rfl ?_
  refine EL.callM1 rfl rfl rfl ent25 rfl (q9 g a4 c4) (by repeat (first | exact Takes.nil _ | (apply Takes.cons; case p => repeat (first | exact Pick.here _ _ | apply Pick.there)))) ?_
  refine EL.pickT rfl rfl rfl rfl ?_
  refine EL.move rfl rfl rfl ?_
  refine EL.rew (d := 61) (v' := .bool true) rfl (by first | rfl | (decide) | (simp)) ?_
  refine EL.move rfl rfl rfl ?_
  refine EL.callM1 rfl rfl rfl ent27 rfl (q10 g a4 c4) (by repeat (first | exact Takes.nil _ | (apply Takes.cons; case p => repeat (first | exact Pick.here _ _ | apply Pick.there)))) ?_
  refine EL.not rfl rfl rfl ?_
  refine EL.pickT rfl rfl rfl rfl ?_
  refine EL.move rfl rfl rfl ?_
  refine EL.rew (d := 66) (v' := .bool true) rfl (by first | rfl | (decide) | (simp)) ?_
  refine EL.move rfl rfl rfl ?_
  (refine EL.callM rfl rfl rfl ent19 rfl (q11 g a4 c4) (by repeat (first | exact Takes.nil _ | (apply Takes.cons; case p => repeat (first | exact Pick.here _ _ | apply Pick.there)))) ?_; rintro ⟨a5, c5⟩)
  refine EL.eqlI rfl rfl rfl rfl ?_
  refine EL.pickT rfl rfl rfl rfl ?_
  refine EL.assign rfl rfl rfl ?_
  repeat (first | apply ES.seq | apply ES.skip | apply ES.region | apply EL.nil | apply ES.block | apply ES.nil | apply ES.exit | apply ES.ret | apply PX.hit | (apply PX.miss; exact rfl) | apply PX.then_x | apply PX.then_r | apply PX.block_n | apply PX.block_r | refine PX.then_n (e := .normal) ?_)
  exact PX.ret rfl Try.results18 (.cons (.tmp rfl) .nil) (fun w hs => ⟨(), rfl, hs.ent (.nil _)⟩)
theorem fill_rep (i N : Nat) (h : i < N) : (List.replicate i (120 : UInt8) ++ List.replicate (N - i) 0).set i 120 = List.replicate (i + 1) 120 ++ List.replicate (N - (i + 1)) 0 := by
  rw [List.set_append_right _ _ (by simp), List.length_replicate, Nat.sub_self, show N - i = (N - (i + 1)) + 1 by omega, List.replicate_succ, List.set_cons_zero, List.replicate_succ', List.append_assoc]
  rfl
theorem feed_long (N : Nat) (hN : N ≤ 1027) : ∃ s1 : QS, feedM ⟨[], 0, false⟩ (List.replicate N 120) = (if 1024 < N then 15 else 0, s1) ∧ s1.closed = false ∧ Small s1 := by
  have h1 : (10 : UInt8) ∉ List.replicate N (120 : UInt8) := by
    intro h; have := List.eq_of_mem_replicate h; exact absurd this (by decide)
  by_cases h : 1024 < N
  · exact ⟨⟨[], 0, false⟩, by simp [feedM, h1, h], rfl, ⟨by simp, by simp [QS.bytes], by simp⟩⟩
  · exact ⟨⟨[List.replicate N 120], 0, false⟩, by simp [feedM, h1, h], rfl, ⟨by simp, by simp [QS.bytes]; omega, by simp⟩⟩
theorem feed_nl (s : QS) (l : List UInt8) (hc : s.closed = false) (h : (10 : UInt8) ∈ l) : feedM s l = (19, s) := by simp [feedM, hc, h]
theorem none_c (l : List UInt8) (n : UInt8) (w : World) : Pure Try.prog 9 #[Sv l, Uv n] (fun _ : Unit => .bool true) (fun _ => []) w := by
  refine calls_of_ES TB Try.func9 rfl _ Try.ntmps9 rfl (Sat.start w) ?_
  repeat (first | apply ES.seq | apply ES.skip | apply ES.region | apply EL.nil | apply ES.block | apply ES.nil | apply ES.exit | apply ES.ret | apply PX.hit | (apply PX.miss; exact rfl) | apply PX.then_x | apply PX.then_r | apply PX.block_n | apply PX.block_r | refine PX.then_n (e := .normal) ?_)
  refine EL.assign rfl rfl rfl ?_
  repeat (first | apply ES.seq | apply ES.skip | apply ES.region | apply EL.nil | apply ES.block | apply ES.nil | apply ES.exit | apply ES.ret | apply PX.hit | (apply PX.miss; exact rfl) | apply PX.then_x | apply PX.then_r | apply PX.block_n | apply PX.block_r | refine PX.then_n (e := .normal) ?_)
  refine EL.assign rfl rfl rfl ?_
  repeat (first | apply ES.seq | apply ES.skip | apply ES.region | apply EL.nil | apply ES.block | apply ES.nil | apply ES.exit | apply ES.ret | apply PX.hit | (apply PX.miss; exact rfl) | apply PX.then_x | apply PX.then_r | apply PX.block_n | apply PX.block_r | refine PX.then_n (e := .normal) ?_)
  refine EL.move rfl rfl rfl ?_
  refine EL.callP rfl rfl rfl ent23 rfl next_n ?_
  refine EL.move rfl rfl rfl ?_
  refine EL.extract rfl rfl rfl rfl ?_
  refine EL.extract rfl rfl rfl rfl ?_
  refine EL.assign rfl rfl rfl ?_
  refine EL.assign rfl rfl rfl ?_
  repeat (first | apply ES.seq | apply ES.skip | apply ES.region | apply EL.nil | apply ES.block | apply ES.nil | apply ES.exit | apply ES.ret | apply PX.hit | (apply PX.miss; exact rfl) | apply PX.then_x | apply PX.then_r | apply PX.block_n | apply PX.block_r | refine PX.then_n (e := .normal) ?_)
  refine EL.callP rfl rfl rfl ent18 rfl awake23_c ?_
  refine EL.not rfl rfl rfl ?_
  refine EL.move rfl rfl rfl ?_
  refine EL.rew (d := 19) (v' := .bool false) rfl (by first | rfl | (decide) | (simp)) ?_
  refine EL.move rfl rfl rfl ?_
  refine EL.move rfl rfl rfl ?_
  refine EL.callP rfl rfl rfl ent19 rfl (feed_n _) ?_
  refine EL.neqI rfl rfl rfl rfl ?_
  refine EL.pickF rfl rfl rfl rfl ?_
  refine EL.move rfl rfl rfl ?_
  refine EL.rew (d := 25) (v' := .bool false) rfl (by first | rfl | (decide) | (simp)) ?_
  refine EL.move rfl rfl rfl ?_
  refine EL.callP rfl rfl rfl ent21 rfl close_n ?_
  refine EL.neqI rfl rfl rfl rfl ?_
  refine EL.pickF rfl rfl rfl rfl ?_
  refine EL.move rfl rfl rfl ?_
  refine EL.rew (d := 30) (v' := .bool false) rfl (by first | rfl | (decide) | (simp)) ?_
  refine EL.move rfl rfl rfl ?_
  refine EL.callP rfl rfl rfl ent25 rfl ready_n ?_
  refine EL.pickF rfl rfl rfl rfl ?_
  refine EL.move rfl rfl rfl ?_
  refine EL.rew (d := 34) (v' := .bool false) rfl (by first | rfl | (decide) | (simp)) ?_
  refine EL.move rfl rfl rfl ?_
  refine EL.neqS rfl rfl rfl rfl ?_
  refine EL.pickF rfl rfl rfl rfl ?_
  refine EL.move rfl rfl rfl ?_
  refine EL.rew (d := 38) (v' := .bool false) rfl (by first | rfl | (decide) | (simp)) ?_
  refine EL.move rfl rfl rfl ?_
  refine EL.pickF rfl rfl rfl rfl ?_
  refine EL.move rfl rfl rfl ?_
  refine EL.rew (d := 41) (v' := .bool false) rfl (by first | rfl | (decide) | (simp)) ?_
  refine EL.move rfl rfl rfl ?_
  refine EL.callP rfl rfl rfl ent27 rfl last_n ?_
  refine EL.pickF rfl rfl rfl rfl ?_
  refine EL.move rfl rfl rfl ?_
  refine EL.rew (d := 45) (v' := .bool false) rfl (by first | rfl | (decide) | (simp)) ?_
  refine EL.move rfl rfl rfl ?_
  refine EL.callP rfl rfl rfl ent29 rfl number_n ?_
  refine EL.neqI rfl rfl rfl rfl ?_
  refine EL.pickF rfl rfl rfl rfl ?_
  refine EL.move rfl rfl rfl ?_
  refine EL.rew (d := 50) (v' := .bool false) rfl (by first | rfl | (decide) | (simp)) ?_
  refine EL.move rfl rfl rfl ?_
  refine EL.callP rfl rfl rfl ent30 rfl waiting_n ?_
  refine EL.neqI rfl rfl rfl rfl ?_
  refine EL.pickF rfl rfl rfl rfl ?_
  refine EL.move rfl rfl rfl ?_
  refine EL.rew (d := 55) (v' := .bool false) rfl (by first | rfl | (decide) | (simp)) ?_
  refine EL.move rfl rfl rfl ?_
  refine EL.callP rfl rfl rfl ent32 rfl held_n ?_
  refine EL.neqI rfl rfl rfl rfl ?_
  refine EL.pickF rfl rfl rfl rfl ?_
  repeat (first | apply ES.seq | apply ES.skip | apply ES.region | apply EL.nil | apply ES.block | apply ES.nil | apply ES.exit | apply ES.ret | apply PX.hit | (apply PX.miss; exact rfl) | apply PX.then_x | apply PX.then_r | apply PX.block_n | apply PX.block_r | refine PX.then_n (e := .normal) ?_)
  refine ES.condK false rfl rfl ?_
  have hm : n.toNat % 8 < 8 := Nat.mod_lt _ (by omega)
  repeat (first | apply ES.seq | apply ES.skip | apply ES.region | apply EL.nil | apply ES.block | apply ES.nil | apply ES.exit | apply ES.ret | apply PX.hit | (apply PX.miss; exact rfl) | apply PX.then_x | apply PX.then_r | apply PX.block_n | apply PX.block_r | refine PX.then_n (e := .normal) ?_)
  refine EL.move rfl rfl rfl ?_
  refine EL.remN (n := 8) rfl rfl rfl rfl (by omega) ?_
  refine EL.convN rfl rfl rfl rfl rfl rfl (by simp only [kmax]; omega) ?_
  refine EL.addN (m := 1020) rfl rfl rfl rfl rfl (by omega) ?_
  obtain ⟨N, hNe⟩ : ∃ N, N = 1020 + n.toNat % 8 := ⟨_, rfl⟩
  rw [← hNe]
  have hN : N ≤ 1027 := by omega
  refine EL.makeSlice rfl rfl rfl rfl rfl rfl (by first | omega | (show 1 * _ ≤ _; omega) | (show 8 * _ ≤ _; omega) | (show 16 * _ ≤ _; omega) | (show 24 * _ ≤ _; omega) | (show _ * 1 ≤ _; omega) | (show _ * 8 ≤ _; omega) | (show _ * 16 ≤ _; omega) | (show _ * 24 ≤ _; omega)) (by unfold maxLen; omega) ?_
  intro g8
  refine EL.assign rfl rfl rfl ?_
  repeat (first | apply ES.seq | apply ES.skip | apply ES.region | apply EL.nil | apply ES.block | apply ES.nil | apply ES.exit | apply ES.ret | apply PX.hit | (apply PX.miss; exact rfl) | apply PX.then_x | apply PX.then_r | apply PX.block_n | apply PX.block_r | refine PX.then_n (e := .normal) ?_)
  refine EL.move rfl rfl rfl ?_
  refine EL.lenL rfl rfl rfl rfl rfl ?_
  refine EL.move rfl rfl rfl ?_
  repeat (first | apply ES.seq | apply ES.skip | apply ES.region | apply EL.nil | apply ES.block | apply ES.nil | apply ES.exit | apply ES.ret | apply PX.hit | (apply PX.miss; exact rfl) | apply PX.then_x | apply PX.then_r | apply PX.block_n | apply PX.block_r | refine PX.then_n (e := .normal) ?_)
  refine ES.rowEq (by repeat (first | exact PickSet.here _ _ _ | apply PickSet.there)) (cs' := (List.replicate 0 (120 : UInt8) ++ List.replicate (N - 0) 0).map Uv) (by rw [show ty5.zero.cells = #[Uv 0] from rfl, show ty5.size = 1 from rfl, made1]; simp) ?_
  refine ES.loop (σ := Nat) (fun i => i ≤ N) (fun i => [(8, .slice (some ⟨g8, 0, none⟩) N N), (66, Iv N), (67, Iv i)]) (fun i => [HA.row (.slice (some ⟨g8, 0, none⟩) N N) 5 1 N ((List.replicate i (120 : UInt8) ++ List.replicate (N - i) 0).map Uv)]) (fun i => N - i) 0 (Nat.zero_le _) ⟨rfl, rfl, rfl, trivial⟩ (by repeat (first | exact Ent.nil _ | exact Ent.refl _ | (apply Ent.cons; case p => repeat (first | exact Pick.here _ _ | apply Pick.there)) | apply Ent.drop)) ?_
  intro i hi
  repeat (first | apply ES.seq | apply ES.skip | apply ES.region | apply EL.nil | apply ES.block | apply ES.nil | apply ES.exit | apply ES.ret | apply PX.hit | (apply PX.miss; exact rfl) | apply PX.then_x | apply PX.then_r | apply PX.block_n | apply PX.block_r | refine PX.then_n (e := .normal) ?_)
  refine EL.lss rfl rfl rfl rfl ?_
  repeat (first | apply ES.seq | apply ES.skip | apply ES.region | apply EL.nil | apply ES.block | apply ES.nil | apply ES.exit | apply ES.ret | apply PX.hit | (apply PX.miss; exact rfl) | apply PX.then_x | apply PX.then_r | apply PX.block_n | apply PX.block_r | refine PX.then_n (e := .normal) ?_)
  refine ES.condD rfl (fun hlt => ?_) (fun hge => ?_)
  · have hlt' : i < N := by omega
    repeat (first | apply ES.seq | apply ES.skip | apply ES.region | apply EL.nil | apply ES.block | apply ES.nil | apply ES.exit | apply ES.ret | apply PX.hit | (apply PX.miss; exact rfl) | apply PX.then_x | apply PX.then_r | apply PX.block_n | apply PX.block_r | refine PX.then_n (e := .normal) ?_)
    refine EL.move rfl rfl rfl ?_
    refine EL.assign rfl rfl rfl ?_
    repeat (first | apply ES.seq | apply ES.skip | apply ES.region | apply EL.nil | apply ES.block | apply ES.nil | apply ES.exit | apply ES.ret | apply PX.hit | (apply PX.miss; exact rfl) | apply PX.then_x | apply PX.then_r | apply PX.block_n | apply PX.block_r | refine PX.then_n (e := .normal) ?_)
    refine EL.move rfl rfl rfl ?_
    refine EL.move rfl rfl rfl ?_
    refine EL.indexAddrL1 rfl rfl rfl rfl rfl rfl rfl rfl (by omega) ?_
    (refine EL.storeRm Uv (b := 120) rfl rfl rfl rfl rfl rfl (by repeat (first | exact PickSet.here _ _ _ | apply PickSet.there)) (by simp; omega) ?_; rw [fill_rep i N hlt'])
    repeat (first | apply ES.seq | apply ES.skip | apply ES.region | apply EL.nil | apply ES.block | apply ES.nil | apply ES.exit | apply ES.ret | apply PX.hit | (apply PX.miss; exact rfl) | apply PX.then_x | apply PX.then_r | apply PX.block_n | apply PX.block_r | refine PX.then_n (e := .normal) ?_)
    repeat (first | apply ES.seq | apply ES.skip | apply ES.region | apply EL.nil | apply ES.block | apply ES.nil | apply ES.exit | apply ES.ret | apply PX.hit | (apply PX.miss; exact rfl) | apply PX.then_x | apply PX.then_r | apply PX.block_n | apply PX.block_r | refine PX.then_n (e := .normal) ?_)
    refine EL.add1 rfl rfl rfl rfl (by omega) ?_
    refine EL.move rfl rfl rfl ?_
    repeat (first | apply ES.seq | apply ES.skip | apply ES.region | apply EL.nil | apply ES.block | apply ES.nil | apply ES.exit | apply ES.ret | apply PX.hit | (apply PX.miss; exact rfl) | apply PX.then_x | apply PX.then_r | apply PX.block_n | apply PX.block_r | refine PX.then_n (e := .normal) ?_)
    exact PX.loop (i + 1) (by omega) (by omega) ⟨rfl, rfl, rfl, trivial⟩ (by repeat (first | exact Ent.nil _ | exact Ent.refl _ | (apply Ent.cons; case p => repeat (first | exact Pick.here _ _ | apply Pick.there)) | apply Ent.drop))
  obtain rfl : i = N := by omega
  obtain ⟨s1, hf1, hc1, hs1⟩ := feed_long i hN
  have c1 := fun g ad cap => feed_c g ad cap ⟨[], 0, false⟩ (List.replicate i 120) ⟨by simp, by simp [QS.bytes], by simp⟩
  rw [hf1] at c1
  have c2 := fun g ad cap => feed_c g ad cap s1 [97, 10, 98] hs1
  rw [feed_nl s1 _ hc1 (by decide)] at c2
  have c3 := fun g ad cap => feed_c g ad cap s1 (List.replicate i 120 ++ [120, 120, 120, 120, 120, 10]) hs1
  rw [feed_nl s1 _ hc1 (by simp)] at c3
  have hrow : (List.replicate i (120 : UInt8) ++ List.replicate (i - i) 0).map Uv = (List.replicate i 120).map Uv := by simp
  rw [hrow]
  repeat (first | apply ES.seq | apply ES.skip | apply ES.region | apply EL.nil | apply ES.block | apply ES.nil | apply ES.exit | apply ES.ret | apply PX.hit | (apply PX.miss; exact rfl) | apply PX.then_x | apply PX.then_r | apply PX.block_n | apply PX.block_r | refine PX.then_n (e := .normal) ?_)
  (refine EL.callX rfl rfl rfl ent17 rfl qnew_c ?_; intro g)
  refine EL.assign rfl rfl rfl ?_
  repeat (first | apply ES.seq | apply ES.skip | apply ES.region | apply EL.nil | apply ES.block | apply ES.nil | apply ES.exit | apply ES.ret | apply PX.hit | (apply PX.miss; exact rfl) | apply PX.then_x | apply PX.then_r | apply PX.block_n | apply PX.block_r | refine PX.then_n (e := .normal) ?_)
  refine EL.move rfl rfl rfl ?_
  refine EL.eqlPn rfl rfl rfl rfl rfl rfl ?_
  repeat (first | apply ES.seq | apply ES.skip | apply ES.region | apply EL.nil | apply ES.block | apply ES.nil | apply ES.exit | apply ES.ret | apply PX.hit | (apply PX.miss; exact rfl) | apply PX.then_x | apply PX.then_r | apply PX.block_n | apply PX.block_r | refine PX.then_n (e := .normal) ?_)
  repeat (first | apply ES.seq | apply ES.skip | apply ES.region | apply EL.nil | apply ES.block | apply ES.nil | apply ES.exit | apply ES.ret | apply PX.hit | (apply PX.miss; exact rfl) | apply PX.then_x | apply PX.then_r | apply PX.block_n | apply PX.block_r | refine PX.then_n (e := .normal) ?_)
  refine ES.condF rfl ?_
  repeat (first | apply ES.seq | apply ES.skip | apply ES.region | apply EL.nil | apply ES.block | apply ES.nil | apply ES.exit | apply ES.ret | apply PX.hit | (apply PX.miss; exact rfl) | apply PX.then_x | apply PX.then_r | apply PX.block_n | apply PX.block_r | refine PX.then_n (e := .normal) ?_)
  refine EL.assign rfl rfl rfl ?_
  repeat (first | apply ES.seq | apply ES.skip | apply ES.region | apply EL.nil | apply ES.block | apply ES.nil | apply ES.exit | apply ES.ret | apply PX.hit | (apply PX.miss; exact rfl) | apply PX.then_x | apply PX.then_r | apply PX.block_n | apply PX.block_r | refine PX.then_n (e := .normal) ?_)
  refine EL.move rfl rfl rfl ?_
  refine EL.lenL rfl rfl rfl rfl rfl ?_
  refine EL.gtr rfl rfl rfl rfl ?_
  repeat (first | apply ES.seq | apply ES.skip | apply ES.region | apply EL.nil | apply ES.block | apply ES.nil | apply ES.exit | apply ES.ret | apply PX.hit | (apply PX.miss; exact rfl) | apply PX.then_x | apply PX.then_r | apply PX.block_n | apply PX.block_r | refine PX.then_n (e := .normal) ?_)
  refine ES.cutC (X := Unit) (fun _ => [(8, .slice (some ⟨g8, 0, none⟩) i i), (10, Pv g 0), (11, Iv (if 1024 < i then 15 else 0))]) (fun _ => HQ g none 0 ⟨[], 0, false⟩ ++ [HA.row (.slice (some ⟨g8, 0, none⟩) i i) 5 1 i ((List.replicate i 120).map Uv)]) ?_ (fun _ => ?_)
  · refine ES.condD rfl (fun hlt => ?_) (fun hge => ?_)
    · repeat (first | apply ES.seq | apply ES.skip | apply ES.region | apply EL.nil | apply ES.block | apply ES.nil | apply ES.exit | apply ES.ret | apply PX.hit | (apply PX.miss; exact rfl) | apply PX.then_x | apply PX.then_r | apply PX.block_n | apply PX.block_r | refine PX.then_n (e := .normal) ?_)
      refine EL.assign rfl rfl rfl ?_
      repeat (first | apply ES.seq | apply ES.skip | apply ES.region | apply EL.nil | apply ES.block | apply ES.nil | apply ES.exit | apply ES.ret | apply PX.hit | (apply PX.miss; exact rfl) | apply PX.then_x | apply PX.then_r | apply PX.block_n | apply PX.block_r | refine PX.then_n (e := .normal) ?_)
      exact PX.cutX () ⟨rfl, rfl, getA rfl (by rw [if_pos (by omega)]), trivial⟩ (by repeat (first | exact Ent.nil _ | exact Ent.refl _ | (apply Ent.cons; case p => repeat (first | exact Pick.here _ _ | apply Pick.there)) | apply Ent.drop))
    · repeat (first | apply ES.seq | apply ES.skip | apply ES.region | apply EL.nil | apply ES.block | apply ES.nil | apply ES.exit | apply ES.ret | apply PX.hit | (apply PX.miss; exact rfl) | apply PX.then_x | apply PX.then_r | apply PX.block_n | apply PX.block_r | refine PX.then_n (e := .normal) ?_)
      exact PX.cutX () ⟨rfl, rfl, getA rfl (by rw [if_neg (by omega)]), trivial⟩ (by repeat (first | exact Ent.nil _ | exact Ent.refl _ | (apply Ent.cons; case p => repeat (first | exact Pick.here _ _ | apply Pick.there)) | apply Ent.drop))
  repeat (first | apply ES.seq | apply ES.skip | apply ES.region | apply EL.nil | apply ES.block | apply ES.nil | apply ES.exit | apply ES.ret | apply PX.hit | (apply PX.miss; exact rfl) | apply PX.then_x | apply PX.then_r | apply PX.block_n | apply PX.block_r | refine PX.then_n (e := .normal) ?_)
  refine EL.move rfl rfl rfl ?_
  refine EL.move rfl rfl rfl ?_
  refine EL.bytesS rfl rfl rfl rfl rfl rfl rfl rfl rfl (by repeat (first | exact Mem.here _ _ | apply Mem.there)) ?_
  (refine EL.callM rfl rfl rfl ent19 rfl (c1 g none 0) (by repeat (first | exact Takes.nil _ | (apply Takes.cons; case p => repeat (first | exact Pick.here _ _ | apply Pick.there)))) ?_; rintro ⟨a1, e1⟩)
  refine EL.move rfl rfl rfl ?_
  refine EL.eqlI rfl rfl rfl rfl ?_
  refine EL.move rfl rfl rfl ?_
  refine EL.rew (d := 86) (v' := .bool true) rfl (by first | rfl | (decide) | (simp)) ?_
  refine EL.move rfl rfl rfl ?_
  (refine EL.callM rfl rfl rfl ent19 rfl (c2 g a1 e1) (by repeat (first | exact Takes.nil _ | (apply Takes.cons; case p => repeat (first | exact Pick.here _ _ | apply Pick.there)))) ?_; rintro ⟨a2, e2⟩)
  refine EL.eqlI rfl rfl rfl rfl ?_
  refine EL.pickT rfl rfl rfl rfl ?_
  refine EL.move rfl rfl rfl ?_
  refine EL.rew (d := 91) (v' := .bool true) rfl (by first | rfl | (decide) | (simp)) ?_
  refine EL.move rfl rfl rfl ?_
  refine EL.move rfl rfl rfl ?_
  refine EL.bytesS rfl rfl rfl rfl rfl rfl rfl rfl rfl (by repeat (first | exact Mem.here _ _ | apply Mem.there)) ?_
  refine EL.cat rfl rfl rfl rfl (by simp; omega) ?_
  (refine EL.callM rfl rfl rfl ent19 rfl (c3 g a2 e2) (by repeat (first | exact Takes.nil _ | (apply Takes.cons; case p => repeat (first | exact Pick.here _ _ | apply Pick.there)))) ?_; rintro ⟨a3, e3⟩)
  refine EL.eqlI rfl rfl rfl rfl ?_
  refine EL.pickT rfl rfl rfl rfl ?_
  refine EL.assign rfl rfl rfl ?_
  repeat (first | apply ES.seq | apply ES.skip | apply ES.region | apply EL.nil | apply ES.block | apply ES.nil | apply ES.exit | apply ES.ret | apply PX.hit | (apply PX.miss; exact rfl) | apply PX.then_x | apply PX.then_r | apply PX.block_n | apply PX.block_r | refine PX.then_n (e := .normal) ?_)
  exact PX.ret rfl Try.results9 (.cons (.tmp rfl) .nil) (fun w hs => ⟨(), rfl, hs.ent (.nil _)⟩)
end Go.Proofs.Ytbclmngjhhmbdaa
