/- Layer 1 (lines): the laws LinesStops and LinesBack. -/
import Derived.Test.YtcaphghkflffgaaNf
import Derived.Test.YtcaphghkflffgaaSly
namespace Go.Proofs.Ytcaphghkflffgaa
open Go.ChangeShapes Go.WideShapes Go.ChangeAt
open Go Go.RowKit Sl
set_option maxRecDepth 100000
set_option maxHeartbeats 8000000
set_option linter.unusedVariables false
set_option linter.unusedSimpArgs false
attribute [local irreducible] ES EL PX wps

theorem lawStops_c (t : List UInt8) (m : UInt8) (ht : t.length ≤ 1048576) (w : World) : Pure Try.prog 5 #[Sv t, Uv m] (fun _ : Unit => .bool true) (fun _ => []) w := by
  have hm := m.toNat_lt
  have hcl := cutM_len t
  obtain ⟨few, hfew⟩ : ∃ few, few = mostM ((m.toNat : Nat) : Int) (cutM t) := ⟨_, rfl⟩
  have hft : few = (cutM t).take m.toNat := by rw [hfew]; exact mostM_stop _ _ _ rfl
  have hfl : few.length = min m.toNat (cutM t).length := by rw [hft, List.length_take]
  have hft2 : (cutM t).take few.length = few := by rw [hfl, hft]; rcases Nat.le_total m.toNat (cutM t).length with h | h; rw [Nat.min_eq_left h]; rw [Nat.min_eq_right h, List.take_of_length_le h, List.take_of_length_le (Nat.le_refl _)]
  have hca := allLaw_c t ((m.toNat : Nat) : Int) (by omega)
  rw [← hfew] at hca
  refine calls_of_ES TB Try.func5 rfl _ Try.ntmps5 rfl (Sat.start w) ?_
  repeat (first | apply ES.seq | apply ES.skip | apply ES.region | apply EL.nil | apply ES.block | apply ES.nil | apply ES.exit | apply ES.ret | apply PX.hit | (apply PX.miss; exact rfl) | apply PX.then_x | apply PX.then_r | apply PX.block_n | apply PX.block_r | refine PX.then_n (e := .normal) ?_)
  refine EL.assign rfl rfl rfl ?_
  repeat (first | apply ES.seq | apply ES.skip | apply ES.region | apply EL.nil | apply ES.block | apply ES.nil | apply ES.exit | apply ES.ret | apply PX.hit | (apply PX.miss; exact rfl) | apply PX.then_x | apply PX.then_r | apply PX.block_n | apply PX.block_r | refine PX.then_n (e := .normal) ?_)
  refine EL.callP rfl rfl rfl ent11 rfl awake_c ?_
  refine EL.not rfl rfl rfl ?_
  repeat (first | apply ES.seq | apply ES.skip | apply ES.region | apply EL.nil | apply ES.block | apply ES.nil | apply ES.exit | apply ES.ret | apply PX.hit | (apply PX.miss; exact rfl) | apply PX.then_x | apply PX.then_r | apply PX.block_n | apply PX.block_r | refine PX.then_n (e := .normal) ?_)
  refine ES.condK false rfl rfl ?_
  repeat (first | apply ES.seq | apply ES.skip | apply ES.region | apply EL.nil | apply ES.block | apply ES.nil | apply ES.exit | apply ES.ret | apply PX.hit | (apply PX.miss; exact rfl) | apply PX.then_x | apply PX.then_r | apply PX.block_n | apply PX.block_r | refine PX.then_n (e := .normal) ?_)
  refine EL.move rfl rfl rfl ?_
  (refine EL.callX rfl rfl rfl ent13 rfl (rcut_c t (by omega)) ?_; rintro ⟨ad, cap⟩)
  refine EL.assign rfl rfl rfl ?_
  repeat (first | apply ES.seq | apply ES.skip | apply ES.region | apply EL.nil | apply ES.block | apply ES.nil | apply ES.exit | apply ES.ret | apply PX.hit | (apply PX.miss; exact rfl) | apply PX.then_x | apply PX.then_r | apply PX.block_n | apply PX.block_r | refine PX.then_n (e := .normal) ?_)
  refine EL.move rfl rfl rfl ?_
  refine EL.move rfl rfl rfl ?_
  refine EL.convN rfl rfl rfl rfl rfl rfl (le_big8 _ _) ?_
  (refine EL.callX rfl rfl rfl ent10 rfl hca ?_; rintro ⟨ad2, cap2⟩)
  refine EL.move rfl rfl rfl ?_
  refine EL.extract rfl rfl rfl rfl ?_
  refine EL.extract rfl rfl rfl rfl ?_
  refine EL.assign rfl rfl rfl ?_
  refine EL.assign rfl rfl rfl ?_
  repeat (first | apply ES.seq | apply ES.skip | apply ES.region | apply EL.nil | apply ES.block | apply ES.nil | apply ES.exit | apply ES.ret | apply PX.hit | (apply PX.miss; exact rfl) | apply PX.then_x | apply PX.then_r | apply PX.block_n | apply PX.block_r | refine PX.then_n (e := .normal) ?_)
  refine EL.rowForm (ad := ad) (cap := cap) (e := 9) (sz := 1) (n := (cutM t).length) (cs := (cutM t).map Sv) (by repeat (first | exact Mem.here _ _ | apply Mem.there)) (fun hfm => ?_)
  repeat (first | apply ES.seq | apply ES.skip | apply ES.region | apply EL.nil | apply ES.block | apply ES.nil | apply ES.exit | apply ES.ret | apply PX.hit | (apply PX.miss; exact rfl) | apply PX.then_x | apply PX.then_r | apply PX.block_n | apply PX.block_r | refine PX.then_n (e := .normal) ?_)
  refine EL.move rfl rfl rfl ?_
  refine EL.not rfl rfl rfl ?_
  refine EL.move rfl rfl rfl ?_
  refine EL.rew (d := 22) (v' := .bool false) rfl (by first | rfl | (decide) | (simp)) ?_
  refine EL.move rfl rfl rfl ?_
  refine EL.lenL rfl rfl rfl rfl rfl ?_
  refine EL.move rfl rfl rfl ?_
  refine EL.convN rfl rfl rfl rfl rfl rfl (le_big8 _ _) ?_
  refine EL.move rfl rfl rfl ?_
  refine EL.lenL rfl rfl rfl rfl rfl ?_
  refine EL.minN rfl rfl rfl rfl ?_
  refine EL.neqI rfl rfl rfl rfl ?_
  refine EL.pickF rfl rfl rfl rfl ?_
  refine EL.move rfl rfl rfl ?_
  refine EL.rew (d := 32) (v' := .bool false) rfl (by rw [hfl, decide_eq_true rfl]; rfl) ?_
  refine EL.move rfl rfl rfl ?_
  refine EL.move rfl rfl rfl ?_
  refine EL.move rfl rfl rfl ?_
  refine EL.lenL rfl rfl rfl rfl rfl ?_
  refine EL.sliceHi rfl rfl rfl rfl rfl rfl rfl (by omega) hfm.2.1 ?_
  refine EL.callPw rfl rfl rfl ent12 rfl (fun w hs => same_eq ad2 cap2 few ad cap (by omega) w (Rd.row hs (by repeat (first | exact Mem.here _ _ | apply Mem.there)) (by decide)) (by have h := (Rd.row (cap := cap) (ad := ad) (n := (cutM t).length) (cs := (cutM t).map Sv) hs (by repeat (first | exact Mem.here _ _ | apply Mem.there)) (by decide)).take few.length; rwa [← List.map_take, hft2] at h)) ?_
  refine EL.not rfl rfl rfl ?_
  refine EL.pickF rfl rfl rfl rfl ?_
  repeat (first | apply ES.seq | apply ES.skip | apply ES.region | apply EL.nil | apply ES.block | apply ES.nil | apply ES.exit | apply ES.ret | apply PX.hit | (apply PX.miss; exact rfl) | apply PX.then_x | apply PX.then_r | apply PX.block_n | apply PX.block_r | refine PX.then_n (e := .normal) ?_)
  refine ES.condK false rfl rfl ?_
  repeat (first | apply ES.seq | apply ES.skip | apply ES.region | apply EL.nil | apply ES.block | apply ES.nil | apply ES.exit | apply ES.ret | apply PX.hit | (apply PX.miss; exact rfl) | apply PX.then_x | apply PX.then_r | apply PX.block_n | apply PX.block_r | refine PX.then_n (e := .normal) ?_)
  refine EL.move rfl rfl rfl ?_
  (refine EL.callX rfl rfl rfl ent10 rfl (all_m1 t (by omega)) ?_; rintro ⟨ad3, cap3⟩)
  refine EL.move rfl rfl rfl ?_
  refine EL.extract rfl rfl rfl rfl ?_
  refine EL.extract rfl rfl rfl rfl ?_
  refine EL.assign rfl rfl rfl ?_
  refine EL.assign rfl rfl rfl ?_
  repeat (first | apply ES.seq | apply ES.skip | apply ES.region | apply EL.nil | apply ES.block | apply ES.nil | apply ES.exit | apply ES.ret | apply PX.hit | (apply PX.miss; exact rfl) | apply PX.then_x | apply PX.then_r | apply PX.block_n | apply PX.block_r | refine PX.then_n (e := .normal) ?_)
  refine EL.move rfl rfl rfl ?_
  refine EL.move rfl rfl rfl ?_
  refine EL.rew (d := 47) (v' := .bool true) rfl (by first | rfl | (decide) | (simp)) ?_
  refine EL.move rfl rfl rfl ?_
  refine EL.move rfl rfl rfl ?_
  refine EL.callPw rfl rfl rfl ent12 rfl (fun w hs => same_eq ad3 cap3 (cutM t) ad cap (by omega) w (Rd.row hs (by repeat (first | exact Mem.here _ _ | apply Mem.there)) (by decide)) (Rd.row hs (by repeat (first | exact Mem.here _ _ | apply Mem.there)) (by decide))) ?_
  refine EL.pickT rfl rfl rfl rfl ?_
  refine EL.assign rfl rfl rfl ?_
  repeat (first | apply ES.seq | apply ES.skip | apply ES.region | apply EL.nil | apply ES.block | apply ES.nil | apply ES.exit | apply ES.ret | apply PX.hit | (apply PX.miss; exact rfl) | apply PX.then_x | apply PX.then_r | apply PX.block_n | apply PX.block_r | refine PX.then_n (e := .normal) ?_)
  exact PX.ret rfl Try.results5 (.cons (.tmp rfl) .nil) (fun w hs => ⟨(), rfl, hs.ent (.nil _)⟩)
theorem linesStops_lifted (os : Os) (started : os.Started) (H : Type) (enc : TypeId × Value → H) (F : Stop.Interp) :
    ReturnsInHanded {} Try.checked os 5 .any ((Rows.OpenSpec.upto Rows.linesStopsSpec).pre6 enc Try.prog Try.f5 Rows.linesStopsUptoRow.domain false) (((Rows.OpenSpec.upto Rows.linesStopsSpec).at F).post enc Try.prog Try.f5 false true false false) := by
  refine returnsInHanded_of_cond (C := Try.checked) (s := (Rows.OpenSpec.upto Rows.linesStopsSpec)) (k := Rows.uptoSmall) rfl own started (by kernel_rfl) Try.func5
    (OpenSpec.witness (enc := enc) (C := Try.checked) (s := (Rows.OpenSpec.upto Rows.linesStopsSpec)) (k := Rows.uptoSmall) rfl false ⟨#[], #[.string ⟨#[]⟩, .int .u8 0], []⟩ 8 (by kernel_rfl) (by kernel_rfl) (by kernel_rfl)
      (x := ([.lit (.string []), .lit (.int .u8 0)], [], [])) (by kernel_rfl) rfl (by kernel_rfl)) ?_
  intro W base args ds gs before hval0 hW _ hk _
  have hval : ∀ (j : Nat) t v, Try.f5.params[j]? = some t → args[j]? = some v → Value.okWide Try.prog W .any base t v := hval0
  have hW1 : DataW.Whole enc Try.prog Try.f5.params.toList Rows.linesStopsSpec.vars false W args.toList ds gs before := hW
  have hW' := hW1
  obtain ⟨p, q, hA0, hV, rfl, hfz, hnd⟩ := hW1
  have hA : DataW.TrodAll enc Try.prog W 0 (fun _ => true) true Try.f5.params.toList args.toList ds p := hA0
  rw [Try.params5] at hA hval
  obtain ⟨v0, vs0, d0, ds0, p0, q0, hargs0, rfl, rfl, h0, r0⟩ := trodAll_cons hA
  obtain ⟨v1, vs1, d1, ds1, p1, q1, hargs1, rfl, rfl, h1, r1⟩ := trodAll_cons r0
  obtain ⟨rfl, rfl, rfl⟩ := trodAll_nil r1
  subst hargs1
  obtain rfl : args = #[v0, v1] := by cases args; simp_all
  obtain ⟨rfl, rfl⟩ := trodVars_none hV
  obtain ⟨l0, rfl, rfl⟩ := open_sv Try.underlying9 (hval 0 9 v0 rfl rfl) h0
  obtain ⟨b1, rfl, rfl⟩ := open_uv Try.underlying5 (hval 1 5 v1 rfl rfl) h1
  have hb := of_decide_eq_true hk
  simp only [List.append_nil, Rows.uptoBulkAll, Rows.uptoBulk] at hb
  have hl0 : l0.length ≤ 1048576 := by omega
  refine (lawStops_c l0 b1 (by omega) W).mono fun e W' ⟨_, he, hs⟩ => ⟨_, he, ?_⟩
  exact law_true (s := Rows.linesStopsSpec) laidOut rfl Try.underlying4 (by kernel_rfl) rfl false rfl rfl rfl hW' hs.below
theorem linesStops_holds : Rows.LinesStopsUptoSaid :=
  OpenClaim.holds_of_cond 5 Try.f5 rfl rfl rfl rfl rfl rfl rfl ⟨rfl, rfl, rfl, rfl, rfl⟩ rfl rfl rfl rfl rfl (by kernel_rfl) Try.func5 (by kernel_rfl)
    (of_decide_eq_true (by kernel_rfl)) (by unfold Func.isWrapper; first | (rw [if_pos (by decide +kernel)]; kernel_rfl) | (rw [if_neg (by decide +kernel)]; exact ⟨rfl, rfl⟩))
    (fun os started H enc _ F => linesStops_lifted os started H enc F)

/-! what is cut is put together again -/
theorem join_go : ∀ (s cur : List UInt8), joinM (cutGo cur s) = cur ++ s ++ (if s = [] then (if cur = [] then [] else [10]) else if s.getLast? = some 10 then [] else [10])
  | [], cur => by
    by_cases h : cur = []
    · subst h; rfl
    · simp [cutGo, joinM, h]
  | c :: r, cur => by
    rw [cutGo]
    simp only [reduceCtorEq, if_false]
    have hl : (c :: r).getLast? = if r = [] then some c else r.getLast? := by
      cases r with
      | nil => rfl
      | cons d r => simp [List.getLast?_cons]
    rw [hl]
    by_cases hc : c = 10
    · subst hc
      rw [if_pos rfl]
      have ih := join_go r []
      have e : joinM (cur :: cutGo [] r) = cur ++ [10] ++ joinM (cutGo [] r) := by simp [joinM]
      rw [e, ih]
      by_cases hr : r = []
      · simp [hr]
      · simp [hr]
    · rw [if_neg hc, join_go r (cur ++ [c])]
      by_cases hr : r = []
      · subst hr; simp [hc]
      · simp [hr]
def wholeT (t : List UInt8) : Prop := t.length = 0 ∨ t.getD (t.length - 1) 0 = 10
instance (t : List UInt8) : Decidable (wholeT t) := inferInstanceAs (Decidable (_ ∨ _))
theorem join_cut (t : List UInt8) : joinM (cutM t) = if wholeT t then t else t ++ [10] := by
  unfold cutM
  rw [join_go, List.nil_append]
  by_cases h : t = []
  · subst h; rfl
  · have hp : 0 < t.length := List.length_pos_iff.2 h
    have e : t.getLast? = some (t.getD (t.length - 1) 0) := by
      rw [List.getLast?_eq_getElem?, List.getD_eq_getElem?_getD, List.getElem?_eq_getElem (by omega)]; rfl
    rw [if_neg h, e]
    by_cases h10 : t.getD (t.length - 1) 0 = 10
    · rw [if_pos (by rw [h10]), if_pos (show wholeT t from .inr h10), List.append_nil]
    · rw [if_neg (by simpa using h10), if_neg (show ¬ wholeT t from by intro hx; rcases hx with hx | hx; omega; exact h10 hx)]
theorem cutGo_line : ∀ (l cur r : List UInt8), 10 ∉ l → cutGo cur (l ++ 10 :: r) = (cur ++ l) :: cutGo [] r
  | [], cur, r, _ => by simp [cutGo]
  | c :: l, cur, r, h => by
    have hc : c ≠ 10 := fun e => h (by rw [e]; exact List.mem_cons_self)
    rw [List.cons_append, cutGo, if_neg hc, cutGo_line l (cur ++ [c]) r (fun h2 => h (List.mem_cons_of_mem _ h2))]
    simp
theorem cut_join : ∀ (ls : LL), (∀ l ∈ ls, 10 ∉ l) → cutM (joinM ls) = ls
  | [], _ => rfl
  | l :: ls, h => by
    have e : joinM (l :: ls) = l ++ 10 :: joinM ls := by simp [joinM]
    have ih := cut_join ls (fun x hx => h x (List.mem_cons_of_mem _ hx))
    unfold cutM at ih ⊢
    rw [e, cutGo_line l [] _ (h l List.mem_cons_self), ih, List.nil_append]
theorem cutGo_count : ∀ (l cur : List UInt8), (cutGo cur (l ++ [120])).length = l.count 10 + 1
  | [], cur => by simp [cutGo]
  | c :: l, cur => by
    rw [List.cons_append, cutGo]
    by_cases hc : c = 10
    · subst hc
      rw [if_pos rfl, List.length_cons, cutGo_count l []]
      simp
    · rw [if_neg hc, cutGo_count l (cur ++ [c]), List.count_cons_of_ne (by simpa using hc)]
theorem cut_one (l : List UInt8) (h : (cutM (l ++ [120])).length = 1) : 10 ∉ l := by
  unfold cutM at h
  rw [cutGo_count] at h
  exact List.count_eq_zero.1 (by omega)
theorem lawBack_c (t : List UInt8) (ad : Option Addr) (cap : Nat) (ls : LL) (ht : t.length ≤ 1048576) (hb : ls.length + (ls.map List.length).sum ≤ 1048576) (w : World) (hrd : Rd w w.heap.size ad (ls.map Sv)) :
    Pure Try.prog 6 #[Sv t, .slice ad ls.length cap] (fun _ : Unit => .bool true) (fun _ => []) w := by
  have hcl := cutM_len t
  have hcs := cutM_sum t
  have hjc := join_cut t
  refine calls_of_ES TB Try.func6 rfl _ Try.ntmps6 rfl (Sat.start w) ?_
  repeat (first | apply ES.seq | apply ES.skip | apply ES.region | apply EL.nil | apply ES.block | apply ES.nil | apply ES.exit | apply ES.ret | apply PX.hit | (apply PX.miss; exact rfl) | apply PX.then_x | apply PX.then_r | apply PX.block_n | apply PX.block_r | refine PX.then_n (e := .normal) ?_)
  refine EL.assign rfl rfl rfl ?_
  repeat (first | apply ES.seq | apply ES.skip | apply ES.region | apply EL.nil | apply ES.block | apply ES.nil | apply ES.exit | apply ES.ret | apply PX.hit | (apply PX.miss; exact rfl) | apply PX.then_x | apply PX.then_r | apply PX.block_n | apply PX.block_r | refine PX.then_n (e := .normal) ?_)
  refine EL.callP rfl rfl rfl ent11 rfl awake_c ?_
  refine EL.not rfl rfl rfl ?_
  repeat (first | apply ES.seq | apply ES.skip | apply ES.region | apply EL.nil | apply ES.block | apply ES.nil | apply ES.exit | apply ES.ret | apply PX.hit | (apply PX.miss; exact rfl) | apply PX.then_x | apply PX.then_r | apply PX.block_n | apply PX.block_r | refine PX.then_n (e := .normal) ?_)
  refine ES.condK false rfl rfl ?_
  repeat (first | apply ES.seq | apply ES.skip | apply ES.region | apply EL.nil | apply ES.block | apply ES.nil | apply ES.exit | apply ES.ret | apply PX.hit | (apply PX.miss; exact rfl) | apply PX.then_x | apply PX.then_r | apply PX.block_n | apply PX.block_r | refine PX.then_n (e := .normal) ?_)
  refine EL.move rfl rfl rfl ?_
  (refine EL.callX rfl rfl rfl ent14 rfl (lcut_c t (by omega)) ?_; rintro ⟨ad1, cap1⟩)
  refine EL.callPw rfl rfl rfl ent17 rfl (fun w' hs => join_c ad1 cap1 (cutM t) (by omega) w' (Rd.row hs (by repeat (first | exact Mem.here _ _ | apply Mem.there)) (by decide))) ?_
  refine EL.assign rfl rfl rfl ?_
  repeat (first | apply ES.seq | apply ES.skip | apply ES.region | apply EL.nil | apply ES.block | apply ES.nil | apply ES.exit | apply ES.ret | apply PX.hit | (apply PX.miss; exact rfl) | apply PX.then_x | apply PX.then_r | apply PX.block_n | apply PX.block_r | refine PX.then_n (e := .normal) ?_)
  refine EL.cut [(6, .bool (decide (wholeT t))), (0, Sv t), (1, .slice ad ls.length cap), (5, Sv (joinM (cutM t)))] [] ?_ ?_
  · repeat (first | apply ES.seq | apply ES.skip | apply ES.region | apply EL.nil | apply ES.block | apply ES.nil | apply ES.exit | apply ES.ret | apply PX.hit | (apply PX.miss; exact rfl) | apply PX.then_x | apply PX.then_r | apply PX.block_n | apply PX.block_r | refine PX.then_n (e := .normal) ?_)
    refine EL.move rfl rfl rfl ?_
    refine EL.lenS rfl rfl rfl rfl rfl ?_
    refine EL.eqlI rfl rfl rfl rfl ?_
    refine EL.move rfl rfl rfl ?_
    first | refine EL.splitD (d := 17) rfl (fun hp17 => ?_) (fun hp17 => ?_) | refine EL.splitN (d := 17) rfl (fun hp17 => ?_) (fun hp17 => ?_) | refine EL.splitB (d := 17) rfl (fun hp17 => ?_) (fun hp17 => ?_)
    · refine EL.pass rfl rfl rfl ?_
      refine EL.pass rfl rfl rfl ?_
      refine EL.pass rfl rfl rfl ?_
      refine EL.pass rfl rfl rfl ?_
      refine EL.pass rfl rfl rfl ?_
      refine EL.pass rfl rfl rfl ?_
      refine EL.pickT rfl rfl rfl rfl ?_
      refine EL.assign rfl rfl rfl ?_
      focus (exact EL.endK ⟨getB rfl (by first | exact decide_eq_decide.2 (by unfold wholeT; rw [← UInt8.toNat_inj, show (10 : UInt8).toNat = 10 from rfl]; omega) | exact (decide_eq_true (by unfold wholeT; omega)).symm), rfl, rfl, rfl, trivial⟩ (by repeat (first | exact Ent.nil _ | exact Ent.refl _ | (apply Ent.cons; case p => repeat (first | exact Pick.here _ _ | apply Pick.there)) | apply Ent.drop)))
    · refine EL.move rfl rfl rfl ?_
      refine EL.move rfl rfl rfl ?_
      refine EL.lenS rfl rfl rfl rfl rfl ?_
      refine EL.sub1 rfl rfl rfl rfl (by omega) (by omega) ?_
      refine EL.indexSN (i := t.length - 1) rfl rfl rfl rfl rfl rfl (by omega) ?_
      refine EL.eqlI rfl rfl rfl rfl ?_
      refine EL.pickF rfl rfl rfl rfl ?_
      refine EL.assign rfl rfl rfl ?_
      focus (exact EL.endK ⟨getB rfl (by first | exact decide_eq_decide.2 (by unfold wholeT; rw [← UInt8.toNat_inj, show (10 : UInt8).toNat = 10 from rfl]; omega) | exact (decide_eq_true (by unfold wholeT; omega)).symm), rfl, rfl, rfl, trivial⟩ (by repeat (first | exact Ent.nil _ | exact Ent.refl _ | (apply Ent.cons; case p => repeat (first | exact Pick.here _ _ | apply Pick.there)) | apply Ent.drop)))
  repeat (first | apply ES.seq | apply ES.skip | apply EL.nil | apply ES.block | apply ES.nil | apply ES.exit | apply ES.ret | apply PX.hit | (apply PX.miss; exact rfl) | apply PX.then_x | apply PX.then_r | apply PX.block_n | apply PX.block_r | refine PX.then_n (e := .normal) ?_)
  refine ES.cutC (X := Unit) (fun _ => [(40, .bool false), (0, Sv t), (1, .slice ad ls.length cap)]) (fun _ => []) ?_ (fun _ => ?_)
  · by_cases hw : wholeT t
    · rw [if_pos hw] at hjc
      repeat (first | apply ES.seq | apply ES.skip | apply ES.region | apply EL.nil | apply ES.block | apply ES.nil | apply ES.exit | apply ES.ret | apply PX.hit | (apply PX.miss; exact rfl) | apply PX.then_x | apply PX.then_r | apply PX.block_n | apply PX.block_r | refine PX.then_n (e := .normal) ?_)
      refine EL.move rfl rfl rfl ?_
      refine EL.move rfl rfl rfl ?_
      refine EL.rew (d := 26) (v' := .bool true) rfl (congrArg Value.bool (decide_eq_true hw)) ?_
      refine EL.move rfl rfl rfl ?_
      refine EL.move rfl rfl rfl ?_
      refine EL.neqS rfl rfl rfl rfl ?_
      refine EL.pickT rfl rfl rfl rfl ?_
      refine EL.move rfl rfl rfl ?_
      refine EL.rew (d := 31) (v' := .bool false) rfl (by rw [hjc, decide_eq_true rfl]; rfl) ?_
      refine EL.move rfl rfl rfl ?_
      refine EL.not rfl rfl rfl ?_
      refine EL.move rfl rfl rfl ?_
      refine EL.rew (d := 34) (v' := .bool false) rfl (by rw [decide_eq_true hw]; rfl) ?_
      refine EL.pass rfl rfl rfl ?_
      refine EL.pass rfl rfl rfl ?_
      refine EL.pass rfl rfl rfl ?_
      refine EL.pass rfl rfl rfl ?_
      refine EL.pickF rfl rfl rfl rfl ?_
      refine EL.pickF rfl rfl rfl rfl ?_
      repeat (first | apply ES.seq | apply ES.skip | apply ES.region | apply EL.nil | apply ES.block | apply ES.nil | apply ES.exit | apply ES.ret | apply PX.hit | (apply PX.miss; exact rfl) | apply PX.then_x | apply PX.then_r | apply PX.block_n | apply PX.block_r | refine PX.then_n (e := .normal) ?_)
      exact PX.cutX () ⟨rfl, rfl, rfl, trivial⟩ (by repeat (first | exact Ent.nil _ | exact Ent.refl _ | (apply Ent.cons; case p => repeat (first | exact Pick.here _ _ | apply Pick.there)) | apply Ent.drop))
    · rw [if_neg hw] at hjc
      repeat (first | apply ES.seq | apply ES.skip | apply ES.region | apply EL.nil | apply ES.block | apply ES.nil | apply ES.exit | apply ES.ret | apply PX.hit | (apply PX.miss; exact rfl) | apply PX.then_x | apply PX.then_r | apply PX.block_n | apply PX.block_r | refine PX.then_n (e := .normal) ?_)
      refine EL.move rfl rfl rfl ?_
      refine EL.move rfl rfl rfl ?_
      refine EL.rew (d := 26) (v' := .bool false) rfl (congrArg Value.bool (decide_eq_false hw)) ?_
      refine EL.pass rfl rfl rfl ?_
      refine EL.pass rfl rfl rfl ?_
      refine EL.pass rfl rfl rfl ?_
      refine EL.pickF rfl rfl rfl rfl ?_
      refine EL.move rfl rfl rfl ?_
      refine EL.move rfl rfl rfl ?_
      refine EL.not rfl rfl rfl ?_
      refine EL.move rfl rfl rfl ?_
      refine EL.rew (d := 34) (v' := .bool true) rfl (by rw [decide_eq_false hw]; rfl) ?_
      refine EL.move rfl rfl rfl ?_
      refine EL.move rfl rfl rfl ?_
      refine EL.cat rfl rfl rfl rfl (by first | omega | (simp only [List.length_cons, List.length_nil]; omega)) ?_
      refine EL.neqS rfl rfl rfl rfl ?_
      refine EL.pickT rfl rfl rfl rfl ?_
      refine EL.pickF rfl rfl rfl rfl ?_
      repeat (first | apply ES.seq | apply ES.skip | apply ES.region | apply EL.nil | apply ES.block | apply ES.nil | apply ES.exit | apply ES.ret | apply PX.hit | (apply PX.miss; exact rfl) | apply PX.then_x | apply PX.then_r | apply PX.block_n | apply PX.block_r | refine PX.then_n (e := .normal) ?_)
      exact PX.cutX () ⟨getA rfl (by rw [hjc, decide_eq_true rfl]; rfl), rfl, rfl, trivial⟩ (by repeat (first | exact Ent.nil _ | exact Ent.refl _ | (apply Ent.cons; case p => repeat (first | exact Pick.here _ _ | apply Pick.there)) | apply Ent.drop))
  refine ES.condK false rfl rfl ?_
  repeat (first | apply ES.seq | apply ES.skip | apply ES.region | apply EL.nil | apply ES.block | apply ES.nil | apply ES.exit | apply ES.ret | apply PX.hit | (apply PX.miss; exact rfl) | apply PX.then_x | apply PX.then_r | apply PX.block_n | apply PX.block_r | refine PX.then_n (e := .normal) ?_)
  refine EL.move rfl rfl rfl ?_
  refine EL.lenL rfl rfl rfl rfl rfl ?_
  refine EL.move rfl rfl rfl ?_
  repeat (first | apply ES.seq | apply ES.skip | apply ES.region | apply EL.nil | apply ES.block | apply ES.nil | apply ES.exit | apply ES.ret | apply PX.hit | (apply PX.miss; exact rfl) | apply PX.then_x | apply PX.then_r | apply PX.block_n | apply PX.block_r | refine PX.then_n (e := .normal) ?_)
  refine ES.loop (σ := Nat) (fun i => i ≤ ls.length ∧ ∀ l ∈ ls.take i, 10 ∉ l) (fun i => [(1, .slice ad ls.length cap), (41, .slice ad ls.length cap), (42, Iv ls.length), (43, Iv i)]) (fun _ => []) (fun i => ls.length - i) 0 ⟨Nat.zero_le _, by simp⟩ ⟨rfl, rfl, rfl, rfl, trivial⟩ (by repeat (first | exact Ent.nil _ | exact Ent.refl _ | (apply Ent.cons; case p => repeat (first | exact Pick.here _ _ | apply Pick.there)) | apply Ent.drop)) ?_
  rintro i ⟨hi, hno⟩
  repeat (first | apply ES.seq | apply ES.skip | apply ES.region | apply EL.nil | apply ES.block | apply ES.nil | apply ES.exit | apply ES.ret | apply PX.hit | (apply PX.miss; exact rfl) | apply PX.then_x | apply PX.then_r | apply PX.block_n | apply PX.block_r | refine PX.then_n (e := .normal) ?_)
  refine EL.lss rfl rfl rfl rfl ?_
  repeat (first | apply ES.seq | apply ES.skip | apply ES.region | apply EL.nil | apply ES.block | apply ES.nil | apply ES.exit | apply ES.ret | apply PX.hit | (apply PX.miss; exact rfl) | apply PX.then_x | apply PX.then_r | apply PX.block_n | apply PX.block_r | refine PX.then_n (e := .normal) ?_)
  refine ES.condD rfl (fun hlt => ?_) (fun hge => ?_)
  · have hlt' : i < ls.length := by omega
    obtain ⟨l, hl⟩ : ∃ l, l = ls.getD i [] := ⟨_, rfl⟩
    have hget : (ls.map Sv)[i]? = some (Sv l) := by rw [hl]; exact getElem?_map Sv ls i [] hlt'
    have hll : l.length ≤ (ls.map List.length).sum := by rw [hl]; exact len_le_sum ls i
    have hrd' := hrd
    obtain ⟨ga, oa, rfl, _⟩ := hrd' (fun e => by rw [e] at hget; simp at hget)
    repeat (first | apply ES.seq | apply ES.skip | apply ES.region | apply EL.nil | apply ES.block | apply ES.nil | apply ES.exit | apply ES.ret | apply PX.hit | (apply PX.miss; exact rfl) | apply PX.then_x | apply PX.then_r | apply PX.block_n | apply PX.block_r | refine PX.then_n (e := .normal) ?_)
    refine EL.indexAddrLo rfl rfl rfl rfl rfl rfl rfl rfl hlt' ?_
    refine EL.loadOld rfl rfl rfl rfl rfl hrd hget ?_
    refine EL.assign rfl rfl rfl ?_
    repeat (first | apply ES.seq | apply ES.skip | apply ES.region | apply EL.nil | apply ES.block | apply ES.nil | apply ES.exit | apply ES.ret | apply PX.hit | (apply PX.miss; exact rfl) | apply PX.then_x | apply PX.then_r | apply PX.block_n | apply PX.block_r | refine PX.then_n (e := .normal) ?_)
    refine EL.move rfl rfl rfl ?_
    refine EL.cat rfl rfl rfl rfl (by first | omega | (simp only [List.length_cons, List.length_nil]; omega)) ?_
    (refine EL.callX rfl rfl rfl ent14 rfl (lcut_c (l ++ [120]) (by simp; omega)) ?_; rintro ⟨ad2, cap2⟩)
    refine EL.lenL rfl rfl rfl rfl rfl ?_
    refine EL.neqI rfl rfl rfl rfl ?_
    repeat (first | apply ES.seq | apply ES.skip | apply ES.region | apply EL.nil | apply ES.block | apply ES.nil | apply ES.exit | apply ES.ret | apply PX.hit | (apply PX.miss; exact rfl) | apply PX.then_x | apply PX.then_r | apply PX.block_n | apply PX.block_r | refine PX.then_n (e := .normal) ?_)
    refine ES.condN rfl (fun hne => ?_) (fun heq => ?_)
    · repeat (first | apply ES.seq | apply ES.skip | apply ES.region | apply EL.nil | apply ES.block | apply ES.nil | apply ES.exit | apply ES.ret | apply PX.hit | (apply PX.miss; exact rfl) | apply PX.then_x | apply PX.then_r | apply PX.block_n | apply PX.block_r | refine PX.then_n (e := .normal) ?_)
      refine EL.assign rfl rfl rfl ?_
      repeat (first | apply ES.seq | apply ES.skip | apply ES.region | apply EL.nil | apply ES.block | apply ES.nil | apply ES.exit | apply ES.ret | apply PX.hit | (apply PX.miss; exact rfl) | apply PX.then_x | apply PX.then_r | apply PX.block_n | apply PX.block_r | refine PX.then_n (e := .normal) ?_)
      exact PX.ret rfl Try.results6 (.cons (.tmp rfl) .nil) (fun w hs => ⟨(), rfl, hs.ent (.nil _)⟩)
    · repeat (first | apply ES.seq | apply ES.skip | apply ES.region | apply EL.nil | apply ES.block | apply ES.nil | apply ES.exit | apply ES.ret | apply PX.hit | (apply PX.miss; exact rfl) | apply PX.then_x | apply PX.then_r | apply PX.block_n | apply PX.block_r | refine PX.then_n (e := .normal) ?_)
      refine EL.add1 rfl rfl rfl rfl (by omega) ?_
      refine EL.move rfl rfl rfl ?_
      repeat (first | apply ES.seq | apply ES.skip | apply ES.region | apply EL.nil | apply ES.block | apply ES.nil | apply ES.exit | apply ES.ret | apply PX.hit | (apply PX.miss; exact rfl) | apply PX.then_x | apply PX.then_r | apply PX.block_n | apply PX.block_r | refine PX.then_n (e := .normal) ?_)
      exact PX.loop (i + 1) ⟨by omega, fun x hx => by
        rw [take_snoc ls i [] hlt', ← hl] at hx
        rcases List.mem_append.1 hx with hx | hx
        · exact hno x hx
        · obtain rfl : x = l := by simpa using hx
          exact cut_one x (by omega)⟩ (by omega) ⟨rfl, rfl, rfl, rfl, trivial⟩ (by repeat (first | exact Ent.nil _ | exact Ent.refl _ | (apply Ent.cons; case p => repeat (first | exact Pick.here _ _ | apply Pick.there)) | apply Ent.drop))
  obtain rfl : i = ls.length := by omega
  rw [List.take_length] at hno
  have hjl := join_len ls ls.length
  rw [List.take_length] at hjl
  have hc := lcut_c (joinM ls) (by omega)
  rw [cut_join ls hno] at hc
  repeat (first | apply ES.seq | apply ES.skip | apply ES.region | apply EL.nil | apply ES.block | apply ES.nil | apply ES.exit | apply ES.ret | apply PX.hit | (apply PX.miss; exact rfl) | apply PX.then_x | apply PX.then_r | apply PX.block_n | apply PX.block_r | refine PX.then_n (e := .normal) ?_)
  refine EL.move rfl rfl rfl ?_
  refine EL.callPw rfl rfl rfl ent17 rfl (fun w' hs => join_c ad cap ls (by omega) w' (hrd.sat hs)) ?_
  (refine EL.callX rfl rfl rfl ent14 rfl hc ?_; rintro ⟨ad2, cap2⟩)
  refine EL.move rfl rfl rfl ?_
  refine EL.callPw rfl rfl rfl ent12 rfl (fun w hs => same_eq ad2 cap2 ls ad cap (by omega) w (Rd.row hs (by repeat (first | exact Mem.here _ _ | apply Mem.there)) (by decide)) (hrd.sat hs)) ?_
  refine EL.assign rfl rfl rfl ?_
  repeat (first | apply ES.seq | apply ES.skip | apply ES.region | apply EL.nil | apply ES.block | apply ES.nil | apply ES.exit | apply ES.ret | apply PX.hit | (apply PX.miss; exact rfl) | apply PX.then_x | apply PX.then_r | apply PX.block_n | apply PX.block_r | refine PX.then_n (e := .normal) ?_)
  exact PX.ret rfl Try.results6 (.cons (.tmp rfl) .nil) (fun w hs => ⟨(), rfl, hs.ent (.nil _)⟩)
theorem linesBack_lifted (os : Os) (started : os.Started) (H : Type) (enc : TypeId × Value → H) (F : Stop.Interp) :
    ReturnsInHanded {} Try.checked os 6 .any ((Rows.OpenSpec.upto Rows.linesBackSpec).pre6 enc Try.prog Try.f6 Rows.linesBackUptoRow.domain false) (((Rows.OpenSpec.upto Rows.linesBackSpec).at F).post enc Try.prog Try.f6 false true false false) := by
  refine returnsInHanded_of_cond (C := Try.checked) (s := (Rows.OpenSpec.upto Rows.linesBackSpec)) (k := Rows.uptoSmall) rfl own started (by kernel_rfl) Try.func6
    (OpenSpec.witness (enc := enc) (C := Try.checked) (s := (Rows.OpenSpec.upto Rows.linesBackSpec)) (k := Rows.uptoSmall) rfl false ⟨#[], #[.string ⟨#[]⟩, .slice none 0 0], []⟩ 8 (by kernel_rfl) (by kernel_rfl) (by kernel_rfl)
      (x := ([.lit (.string []), .nil], [], [])) (by kernel_rfl) rfl (by kernel_rfl)) ?_
  intro W base args ds gs before hval0 hW _ hk _
  have hval : ∀ (j : Nat) t v, Try.f6.params[j]? = some t → args[j]? = some v → Value.okWide Try.prog W .any base t v := hval0
  have hW1 : DataW.Whole enc Try.prog Try.f6.params.toList Rows.linesBackSpec.vars false W args.toList ds gs before := hW
  have hW' := hW1
  obtain ⟨p, q, hA0, hV, rfl, hfz, hnd⟩ := hW1
  have hA : DataW.TrodAll enc Try.prog W 0 (fun _ => true) true Try.f6.params.toList args.toList ds p := hA0
  rw [Try.params6] at hA hval
  obtain ⟨v0, vs0, d0, ds0, p0, q0, hargs0, rfl, rfl, h0, r0⟩ := trodAll_cons hA
  obtain ⟨v1, vs1, d1, ds1, p1, q1, hargs1, rfl, rfl, h1, r1⟩ := trodAll_cons r0
  obtain ⟨rfl, rfl, rfl⟩ := trodAll_nil r1
  subst hargs1
  obtain rfl : args = #[v0, v1] := by cases args; simp_all
  obtain ⟨rfl, rfl⟩ := trodVars_none hV
  obtain ⟨l0, rfl, rfl⟩ := open_sv Try.underlying9 (hval 0 9 v0 rfl rfl) h0
  obtain ⟨ad1, cap1, xs1, rest1, rfl, hrd1, hd1⟩ := open_svs Try.underlying22 Try.underlying9 (by kernel_rfl) (hval 1 22 v1 rfl rfl) h1
  have hb := of_decide_eq_true hk
  simp only [List.append_nil, Rows.uptoBulkAll, Rows.uptoBulk] at hb
  have hl0 : l0.length ≤ 1048576 := by omega
  have ho1 := svs_bulk xs1 rest1 d1 hd1 (by omega)
  refine (lawBack_c l0 ad1 cap1 xs1 (by omega) (by omega) W hrd1).mono fun e W' ⟨_, he, hs⟩ => ⟨_, he, ?_⟩
  exact law_true (s := Rows.linesBackSpec) laidOut rfl Try.underlying4 (by kernel_rfl) rfl false rfl rfl rfl hW' hs.below
theorem linesBack_holds : Rows.LinesBackUptoSaid :=
  OpenClaim.holds_of_cond 6 Try.f6 rfl rfl rfl rfl rfl rfl rfl ⟨rfl, rfl, rfl, rfl, rfl⟩ rfl rfl rfl rfl rfl (by kernel_rfl) Try.func6 (by kernel_rfl)
    (of_decide_eq_true (by kernel_rfl)) (by unfold Func.isWrapper; first | (rw [if_pos (by decide +kernel)]; kernel_rfl) | (rw [if_neg (by decide +kernel)]; exact ⟨rfl, rfl⟩))
    (fun os started H enc _ F => linesBack_lifted os started H enc F)
end Go.Proofs.Ytcaphghkflffgaa
