/- Layer 1 (lines): the lines of a text in plain Lean; the search for a newline in Go's library. -/
import Derived.Test.YtcaphghkflffgaaSlv
import Derived.Test.YtcaphghkflffgaaCb
import Derived.Lib.Bytealg
import Derived.Laws.Externs
namespace Go.Proofs.Ytcaphghkflffgaa
open Go Go.RowKit Sl
set_option maxRecDepth 100000
set_option maxHeartbeats 8000000
set_option linter.unusedVariables false
set_option linter.unusedSimpArgs false
attribute [local irreducible] ES EL PX wps

def idxB (l : List UInt8) (c : UInt8) : Int := Lib.indexByte l c
theorem idxB_cons (b c : UInt8) (l : List UInt8) : idxB (b :: l) c = if b = c then 0 else if idxB l c = -1 then -1 else idxB l c + 1 := by
  unfold idxB
  rw [Lib.indexByte]
  by_cases h : b = c
  · rw [if_pos (by simpa using h), if_pos h]
  · rw [if_neg (by simpa using h), if_neg h]
    by_cases h2 : Lib.indexByte l c = -1
    · rw [if_pos (by simpa using h2), if_pos h2]
    · rw [if_neg (by simpa using h2), if_neg h2]
theorem idxB_range (l : List UInt8) (c : UInt8) : -1 ≤ idxB l c ∧ idxB l c < l.length := by
  induction l with
  | nil => exact ⟨Int.le_refl _, by simp [idxB, Lib.indexByte]⟩
  | cons b l ih =>
    rw [idxB_cons, List.length_cons]
    split
    · omega
    · split <;> omega
/-- A text cut behind its first line. -/
def cutP (s : List UInt8) : List UInt8 × List UInt8 × Bool := if 0 ≤ idxB s 10 then (s.take (idxB s 10).toNat, s.drop ((idxB s 10).toNat + 1), true) else (s, [], false)
theorem cutP_nl (r : List UInt8) : cutP (10 :: r) = ([], r, true) := by
  unfold cutP
  rw [idxB_cons, if_pos rfl]
  rfl
theorem cutP_cons (c : UInt8) (h : c ≠ 10) (r : List UInt8) : (cutP (c :: r)).1 = c :: (cutP r).1 ∧ (cutP (c :: r)).2.1 = (cutP r).2.1 := by
  have hr := idxB_range r 10
  unfold cutP
  rw [idxB_cons, if_neg h]
  by_cases h2 : idxB r 10 = -1
  · rw [if_pos h2, if_neg (by omega), if_neg (by omega)]
    exact ⟨rfl, rfl⟩
  · rw [if_neg h2, if_pos (by omega), if_pos (by omega)]
    have e : (idxB r 10 + 1).toNat = (idxB r 10).toNat + 1 := by omega
    rw [e]
    exact ⟨rfl, rfl⟩
def cutGo : List UInt8 → List UInt8 → LL
  | cur, [] => if cur = [] then [] else [cur]
  | cur, c :: r => if c = 10 then cur :: cutGo [] r else cutGo (cur ++ [c]) r
/-- The lines of a text. -/
def cutM (t : List UInt8) : LL := cutGo [] t
theorem cutGo_find : ∀ (s cur : List UInt8), cur ++ s ≠ [] → cutGo cur s = (cur ++ (cutP s).1) :: cutM (cutP s).2.1
  | [], cur, h => by
    have h' : cur ≠ [] := by simpa using h
    have e : cutP [] = ([], [], false) := rfl
    rw [e]
    simp [cutGo, cutM, h']
  | c :: r, cur, h => by
    by_cases hc : c = 10
    · subst hc
      rw [cutP_nl]
      simp [cutGo, cutM]
    · obtain ⟨e1, e2⟩ := cutP_cons c hc r
      rw [e1, e2, cutGo, if_neg hc, cutGo_find r (cur ++ [c]) (by simp)]
      simp
theorem cutM_step (s : List UInt8) (h : s ≠ []) : cutM s = (cutP s).1 :: cutM (cutP s).2.1 := by
  have := cutGo_find s [] (by simpa using h)
  simpa [cutM] using this
theorem cutP_lt (s : List UInt8) (h : s ≠ []) : (cutP s).2.1.length < s.length := by
  have := List.length_pos_iff.2 h
  unfold cutP
  split
  · simp only [List.length_drop]; omega
  · simpa using this
theorem cutGo_len : ∀ (s cur : List UInt8), (cutGo cur s).length ≤ s.length + (if cur = [] then 0 else 1)
  | [], cur => by
    rw [cutGo]; split <;> simp
  | c :: r, cur => by
    rw [cutGo, List.length_cons]
    split
    · have := cutGo_len r []
      rw [List.length_cons]
      simp only [if_true] at this
      omega
    · have := cutGo_len r (cur ++ [c])
      rw [if_neg (by simp)] at this
      omega
theorem cutM_len (t : List UInt8) : (cutM t).length ≤ t.length := by have := cutGo_len t []; simpa [cutM] using this
theorem cutGo_sum : ∀ (s cur : List UInt8), ((cutGo cur s).map List.length).sum ≤ cur.length + s.length
  | [], cur => by
    rw [cutGo]; split <;> simp
  | c :: r, cur => by
    rw [cutGo, List.length_cons]
    split
    · have := cutGo_sum r []
      simp only [List.map_cons, List.sum_cons, List.length_nil] at this ⊢
      omega
    · have := cutGo_sum r (cur ++ [c])
      simp only [List.length_append, List.length_singleton] at this
      omega
theorem cutM_sum (t : List UInt8) : ((cutM t).map List.length).sum ≤ t.length := by have := cutGo_sum t []; simpa [cutM] using this

/-! the search -/
theorem ext_index (l : List UInt8) (c : UInt8) (w : World) : (callFunc 39 #[Sv l, Uv c]).run Try.prog w = .ok (.value (Iv (idxB l c))) w := by
  rw [run_callFunc_extern (e := Extern.BytealgIndexByte.indexByte) Try.func39 (by kernel_rfl) (by kernel_rfl) (by kernel_rfl) (by kernel_rfl), Lib.run_indexByteString]
  simp [Result.andThen, idxB]
theorem ext_count (l : List UInt8) (c : UInt8) (w : World) : (callFunc 29 #[Sv l, Uv c]).run Try.prog w = .ok (.value (Iv (l.count c : Nat))) w := by
  rw [run_callFunc_extern (e := Extern.BytealgCount.count) Try.func29 (by kernel_rfl) (by kernel_rfl) (by kernel_rfl) (by kernel_rfl), Lib.run_countString]
  simp [Result.andThen, Lib.countByte]
theorem lite_c (l : List UInt8) (c : UInt8) (w : World) : Pure Try.prog 35 #[Sv l, Uv c] (fun _ : Unit => Iv (idxB l c)) (fun _ => []) w := by
  refine calls_of_ES TB Try.func35 rfl _ Try.ntmps35 rfl (Sat.start w) ?_
  repeat (first | apply ES.seq | apply ES.skip | apply ES.region | apply EL.nil | apply ES.block | apply ES.nil | apply ES.exit | apply ES.ret | apply PX.hit | (apply PX.miss; exact rfl) | apply PX.then_x | apply PX.then_r | apply PX.block_n | apply PX.block_r | refine PX.then_n (e := .normal) ?_)
  refine EL.assign rfl rfl rfl ?_
  repeat (first | apply ES.seq | apply ES.skip | apply ES.region | apply EL.nil | apply ES.block | apply ES.nil | apply ES.exit | apply ES.ret | apply PX.hit | (apply PX.miss; exact rfl) | apply PX.then_x | apply PX.then_r | apply PX.block_n | apply PX.block_r | refine PX.then_n (e := .normal) ?_)
  refine EL.move rfl rfl rfl ?_
  refine EL.move rfl rfl rfl ?_
  refine EL.callE rfl rfl rfl rfl (ext_index l c) ?_
  refine EL.assign rfl rfl rfl ?_
  repeat (first | apply ES.seq | apply ES.skip | apply ES.region | apply EL.nil | apply ES.block | apply ES.nil | apply ES.exit | apply ES.ret | apply PX.hit | (apply PX.miss; exact rfl) | apply PX.then_x | apply PX.then_r | apply PX.block_n | apply PX.block_r | refine PX.then_n (e := .normal) ?_)
  exact PX.ret rfl Try.results35 (.cons (.tmp rfl) .nil) (fun w hs => ⟨(), rfl, hs.ent (.nil _)⟩)
theorem index1_c (l : List UInt8) (c : UInt8) (w : World) : Pure Try.prog 33 #[Sv l, Sv [c]] (fun _ : Unit => Iv (idxB l c)) (fun _ => []) w := by
  refine calls_of_ES TB Try.func33 rfl _ Try.ntmps33 rfl (Sat.start w) ?_
  repeat (first | apply ES.seq | apply ES.skip | apply ES.region | apply EL.nil | apply ES.block | apply ES.nil | apply ES.exit | apply ES.ret | apply PX.hit | (apply PX.miss; exact rfl) | apply PX.then_x | apply PX.then_r | apply PX.block_n | apply PX.block_r | refine PX.then_n (e := .normal) ?_)
  refine EL.assign rfl rfl rfl ?_
  repeat (first | apply ES.seq | apply ES.skip | apply ES.region | apply EL.nil | apply ES.block | apply ES.nil | apply ES.exit | apply ES.ret | apply PX.hit | (apply PX.miss; exact rfl) | apply PX.then_x | apply PX.then_r | apply PX.block_n | apply PX.block_r | refine PX.then_n (e := .normal) ?_)
  refine EL.move rfl rfl rfl ?_
  refine EL.lenS rfl rfl rfl rfl rfl ?_
  refine EL.assign rfl rfl rfl ?_
  repeat (first | apply ES.seq | apply ES.skip | apply ES.region | apply EL.nil | apply ES.block | apply ES.nil | apply ES.exit | apply ES.ret | apply PX.hit | (apply PX.miss; exact rfl) | apply PX.then_x | apply PX.then_r | apply PX.block_n | apply PX.block_r | refine PX.then_n (e := .normal) ?_)
  repeat (first | apply ES.seq | apply ES.skip | apply ES.region | apply EL.nil | apply ES.block | apply ES.nil | apply ES.exit | apply ES.ret | apply PX.hit | (apply PX.miss; exact rfl) | apply PX.then_x | apply PX.then_r | apply PX.block_n | apply PX.block_r | refine PX.then_n (e := .normal) ?_)
  refine EL.move rfl rfl rfl ?_
  refine EL.eqlI rfl rfl rfl rfl ?_
  refine EL.move rfl rfl rfl ?_
  refine EL.rew (d := 19) (v' := .bool false) rfl (congrArg Value.bool (decide_eq_false (by simp))) ?_
  refine EL.move rfl rfl rfl ?_
  refine EL.move rfl rfl rfl ?_
  refine EL.eqlS rfl rfl rfl rfl ?_
  refine EL.pickF rfl rfl rfl rfl ?_
  refine EL.assign rfl rfl rfl ?_
  repeat (first | apply ES.seq | apply ES.skip | apply ES.region | apply EL.nil | apply ES.block | apply ES.nil | apply ES.exit | apply ES.ret | apply PX.hit | (apply PX.miss; exact rfl) | apply PX.then_x | apply PX.then_r | apply PX.block_n | apply PX.block_r | refine PX.then_n (e := .normal) ?_)
  refine ES.condD rfl (fun he => ?_) (fun hne => ?_)
  · have hr : idxB l c = 0 := by rw [← he, idxB_cons, if_pos rfl]
    repeat (first | apply ES.seq | apply ES.skip | apply ES.region | apply EL.nil | apply ES.block | apply ES.nil | apply ES.exit | apply ES.ret | apply PX.hit | (apply PX.miss; exact rfl) | apply PX.then_x | apply PX.then_r | apply PX.block_n | apply PX.block_r | refine PX.then_n (e := .normal) ?_)
    refine EL.assign rfl rfl rfl ?_
    repeat (first | apply ES.seq | apply ES.skip | apply ES.region | apply EL.nil | apply ES.block | apply ES.nil | apply ES.exit | apply ES.ret | apply PX.hit | (apply PX.miss; exact rfl) | apply PX.then_x | apply PX.then_r | apply PX.block_n | apply PX.block_r | refine PX.then_n (e := .normal) ?_)
    exact PX.ret rfl Try.results33 (.cons (.tmp rfl) .nil) (fun w hs => ⟨(), by rw [hr]; rfl, hs.ent (.nil _)⟩)
  · repeat (first | apply ES.seq | apply ES.skip | apply ES.region | apply EL.nil | apply ES.block | apply ES.nil | apply ES.exit | apply ES.ret | apply PX.hit | (apply PX.miss; exact rfl) | apply PX.then_x | apply PX.then_r | apply PX.block_n | apply PX.block_r | refine PX.then_n (e := .normal) ?_)
    refine EL.move rfl rfl rfl ?_
    refine EL.eqlI rfl rfl rfl rfl ?_
    refine EL.assign rfl rfl rfl ?_
    repeat (first | apply ES.seq | apply ES.skip | apply ES.region | apply EL.nil | apply ES.block | apply ES.nil | apply ES.exit | apply ES.ret | apply PX.hit | (apply PX.miss; exact rfl) | apply PX.then_x | apply PX.then_r | apply PX.block_n | apply PX.block_r | refine PX.then_n (e := .normal) ?_)
    refine ES.condK true rfl (decide_eq_true rfl) ?_
    repeat (first | apply ES.seq | apply ES.skip | apply ES.region | apply EL.nil | apply ES.block | apply ES.nil | apply ES.exit | apply ES.ret | apply PX.hit | (apply PX.miss; exact rfl) | apply PX.then_x | apply PX.then_r | apply PX.block_n | apply PX.block_r | refine PX.then_n (e := .normal) ?_)
    refine EL.move rfl rfl rfl ?_
    refine EL.move rfl rfl rfl ?_
    refine EL.indexSN (i := 0) rfl rfl rfl rfl rfl rfl (by simp) ?_
    refine EL.callP rfl rfl rfl ent35 rfl (lite_c l c) ?_
    refine EL.assign rfl rfl rfl ?_
    repeat (first | apply ES.seq | apply ES.skip | apply ES.region | apply EL.nil | apply ES.block | apply ES.nil | apply ES.exit | apply ES.ret | apply PX.hit | (apply PX.miss; exact rfl) | apply PX.then_x | apply PX.then_r | apply PX.block_n | apply PX.block_r | refine PX.then_n (e := .normal) ?_)
    exact PX.ret rfl Try.results33 (.cons (.tmp rfl) .nil) (fun w hs => ⟨(), rfl, hs.ent (.nil _)⟩)
theorem litecut_c (s : List UInt8) (hs : s.length ≤ 70368744177664) (w : World) : Pure Try.prog 32 #[Sv s, Sv [10]] (fun _ : Unit => .tuple #[Sv (cutP s).1, Sv (cutP s).2.1, .bool (cutP s).2.2]) (fun _ => []) w := by
  have hi := index1_c s 10
  have hb := idxB_range s 10
  have hcp : cutP s = if 0 ≤ idxB s 10 then (s.take (idxB s 10).toNat, s.drop ((idxB s 10).toNat + 1), true) else (s, [], false) := rfl
  obtain ⟨r, hr⟩ : ∃ r, r = idxB s 10 := ⟨_, rfl⟩
  rw [← hr] at hi hb hcp
  refine calls_of_ES TB Try.func32 rfl _ Try.ntmps32 rfl (Sat.start w) ?_
  repeat (first | apply ES.seq | apply ES.skip | apply ES.region | apply EL.nil | apply ES.block | apply ES.nil | apply ES.exit | apply ES.ret | apply PX.hit | (apply PX.miss; exact rfl) | apply PX.then_x | apply PX.then_r | apply PX.block_n | apply PX.block_r | refine PX.then_n (e := .normal) ?_)
  refine EL.assign rfl rfl rfl ?_
  refine EL.assign rfl rfl rfl ?_
  refine EL.assign rfl rfl rfl ?_
  repeat (first | apply ES.seq | apply ES.skip | apply ES.region | apply EL.nil | apply ES.block | apply ES.nil | apply ES.exit | apply ES.ret | apply PX.hit | (apply PX.miss; exact rfl) | apply PX.then_x | apply PX.then_r | apply PX.block_n | apply PX.block_r | refine PX.then_n (e := .normal) ?_)
  refine EL.move rfl rfl rfl ?_
  refine EL.move rfl rfl rfl ?_
  refine EL.callP rfl rfl rfl ent33 rfl hi ?_
  refine EL.assign rfl rfl rfl ?_
  repeat (first | apply ES.seq | apply ES.skip | apply ES.region | apply EL.nil | apply ES.block | apply ES.nil | apply ES.exit | apply ES.ret | apply PX.hit | (apply PX.miss; exact rfl) | apply PX.then_x | apply PX.then_r | apply PX.block_n | apply PX.block_r | refine PX.then_n (e := .normal) ?_)
  refine EL.move rfl rfl rfl ?_
  refine EL.geq rfl rfl rfl rfl ?_
  repeat (first | apply ES.seq | apply ES.skip | apply ES.region | apply EL.nil | apply ES.block | apply ES.nil | apply ES.exit | apply ES.ret | apply PX.hit | (apply PX.miss; exact rfl) | apply PX.then_x | apply PX.then_r | apply PX.block_n | apply PX.block_r | refine PX.then_n (e := .normal) ?_)
  refine ES.condD rfl (fun hge => ?_) (fun hlt => ?_)
  · rw [if_pos hge] at hcp
    obtain ⟨k, rfl⟩ : ∃ k : Nat, r = (k : Int) := ⟨r.toNat, by omega⟩
    have h1 : [(10 : UInt8)].length = 1 := rfl
    repeat (first | apply ES.seq | apply ES.skip | apply EL.nil | apply ES.block | apply ES.nil | apply ES.exit | apply ES.ret | apply PX.hit | (apply PX.miss; exact rfl) | apply PX.then_x | apply PX.then_r | apply PX.block_n | apply PX.block_r | refine PX.then_n (e := .normal) ?_)
    refine ES.draw (X := Unit) (fun _ => [(4, Sv (cutP s).1), (5, Sv (cutP s).2.1), (6, .bool (cutP s).2.2)]) (fun _ => []) [] mixed (by repeat (first | exact Ent.nil _ | exact Ent.refl _ | (apply Ent.cons; case p => repeat (first | exact Pick.here _ _ | apply Pick.there)) | apply Ent.drop)) ?_ (fun _ => ?_)
    · refine ED.take 0 rfl (by decide +kernel) CutX.no_panic (by decide +kernel) rfl rfl rfl (RV.move rfl) ?_
      refine ED.take 1 rfl (by decide +kernel) CutX.no_panic (by decide +kernel) rfl rfl rfl (RV.move rfl) ?_
      refine ED.take 2 rfl (by decide +kernel) CutX.no_panic (by decide +kernel) rfl rfl rfl (RV.sliceS rfl rfl rfl rfl ⟨_, rfl⟩ (by omega) (by omega)) ?_
      refine ED.take 3 rfl (by decide +kernel) CutX.no_panic (by decide +kernel) rfl rfl rfl (RV.move rfl) ?_
      refine ED.take 4 rfl (by decide +kernel) CutX.no_panic (by decide +kernel) rfl rfl rfl (RV.move rfl) ?_
      refine ED.take 5 rfl (by decide +kernel) CutX.no_panic (by decide +kernel) rfl rfl rfl (RV.move rfl) ?_
      refine ED.take 6 rfl (by decide +kernel) CutX.no_panic (by decide +kernel) rfl rfl rfl (RV.lenS rfl rfl rfl) ?_
      refine ED.take 7 rfl (by decide +kernel) CutX.no_panic (by decide +kernel) rfl rfl rfl (RV.addN rfl rfl rfl (by omega)) ?_
      refine ED.take 8 rfl (by decide +kernel) CutX.no_panic (by decide +kernel) rfl rfl rfl (RV.sliceS rfl rfl rfl ⟨_, rfl⟩ rfl (by omega) (by omega)) ?_
      refine ED.take 9 rfl (by decide +kernel) CutX.no_panic (by decide +kernel) rfl rfl rfl (RV.assign rfl) ?_
      refine ED.take 10 rfl (by decide +kernel) CutX.no_panic (by decide +kernel) rfl rfl rfl (RV.assign rfl) ?_
      refine ED.take 11 rfl (by decide +kernel) CutX.no_panic (by decide +kernel) rfl rfl rfl (RV.assign rfl) ?_
      refine ED.done (by decide +kernel) ?_
      exact PX.cutX () ⟨getA rfl (by rw [hcp]; simp), getA rfl (by rw [hcp]; exact congrArg Sv (List.take_of_length_le (by simp))), getA rfl (by rw [hcp]), trivial⟩ (by repeat (first | exact Ent.nil _ | exact Ent.refl _ | (apply Ent.cons; case p => repeat (first | exact Pick.here _ _ | apply Pick.there)) | apply Ent.drop))
    repeat (first | apply ES.seq | apply ES.skip | apply ES.region | apply EL.nil | apply ES.block | apply ES.nil | apply ES.exit | apply ES.ret | apply PX.hit | (apply PX.miss; exact rfl) | apply PX.then_x | apply PX.then_r | apply PX.block_n | apply PX.block_r | refine PX.then_n (e := .normal) ?_)
    exact PX.ret rfl Try.results32 (.cons (.tmp rfl) (.cons (.tmp rfl) (.cons (.tmp rfl) .nil))) (fun w hs => ⟨(), rfl, hs.ent (.nil _)⟩)
  · rw [if_neg hlt] at hcp
    repeat (first | apply ES.seq | apply ES.skip | apply ES.region | apply EL.nil | apply ES.block | apply ES.nil | apply ES.exit | apply ES.ret | apply PX.hit | (apply PX.miss; exact rfl) | apply PX.then_x | apply PX.then_r | apply PX.block_n | apply PX.block_r | refine PX.then_n (e := .normal) ?_)
    refine EL.move rfl rfl rfl ?_
    refine EL.assign rfl rfl rfl ?_
    refine EL.assign rfl rfl rfl ?_
    refine EL.assign rfl rfl rfl ?_
    repeat (first | apply ES.seq | apply ES.skip | apply ES.region | apply EL.nil | apply ES.block | apply ES.nil | apply ES.exit | apply ES.ret | apply PX.hit | (apply PX.miss; exact rfl) | apply PX.then_x | apply PX.then_r | apply PX.block_n | apply PX.block_r | refine PX.then_n (e := .normal) ?_)
    exact PX.ret rfl Try.results32 (.cons (.tmp rfl) (.cons (.tmp rfl) (.cons (.tmp rfl) .nil))) (fun w hs => ⟨(), by rw [hcp]; rfl, hs.ent (.nil _)⟩)
theorem cut_c (s : List UInt8) (hs : s.length ≤ 70368744177664) (w : World) : Pure Try.prog 27 #[Sv s, Sv [10]] (fun _ : Unit => .tuple #[Sv (cutP s).1, Sv (cutP s).2.1, .bool (cutP s).2.2]) (fun _ => []) w := by
  refine calls_of_ES TB Try.func27 rfl _ Try.ntmps27 rfl (Sat.start w) ?_
  repeat (first | apply ES.seq | apply ES.skip | apply ES.region | apply EL.nil | apply ES.block | apply ES.nil | apply ES.exit | apply ES.ret | apply PX.hit | (apply PX.miss; exact rfl) | apply PX.then_x | apply PX.then_r | apply PX.block_n | apply PX.block_r | refine PX.then_n (e := .normal) ?_)
  refine EL.assign rfl rfl rfl ?_
  refine EL.assign rfl rfl rfl ?_
  refine EL.assign rfl rfl rfl ?_
  repeat (first | apply ES.seq | apply ES.skip | apply ES.region | apply EL.nil | apply ES.block | apply ES.nil | apply ES.exit | apply ES.ret | apply PX.hit | (apply PX.miss; exact rfl) | apply PX.then_x | apply PX.then_r | apply PX.block_n | apply PX.block_r | refine PX.then_n (e := .normal) ?_)
  refine EL.move rfl rfl rfl ?_
  refine EL.move rfl rfl rfl ?_
  refine EL.callP rfl rfl rfl ent32 rfl (litecut_c s hs) ?_
  refine EL.extract rfl rfl rfl rfl ?_
  refine EL.extract rfl rfl rfl rfl ?_
  refine EL.extract rfl rfl rfl rfl ?_
  refine EL.assign rfl rfl rfl ?_
  refine EL.assign rfl rfl rfl ?_
  refine EL.assign rfl rfl rfl ?_
  repeat (first | apply ES.seq | apply ES.skip | apply ES.region | apply EL.nil | apply ES.block | apply ES.nil | apply ES.exit | apply ES.ret | apply PX.hit | (apply PX.miss; exact rfl) | apply PX.then_x | apply PX.then_r | apply PX.block_n | apply PX.block_r | refine PX.then_n (e := .normal) ?_)
  exact PX.ret rfl Try.results27 (.cons (.tmp rfl) (.cons (.tmp rfl) (.cons (.tmp rfl) .nil))) (fun w hs => ⟨(), rfl, hs.ent (.nil _)⟩)
theorem count_c (s : List UInt8) (w : World) : Pure Try.prog 22 #[Sv s, Sv [10]] (fun _ : Unit => Iv (s.count 10 : Nat)) (fun _ => []) w := by
  refine calls_of_ES TB Try.func22 rfl _ Try.ntmps22 rfl (Sat.start w) ?_
  repeat (first | apply ES.seq | apply ES.skip | apply ES.region | apply EL.nil | apply ES.block | apply ES.nil | apply ES.exit | apply ES.ret | apply PX.hit | (apply PX.miss; exact rfl) | apply PX.then_x | apply PX.then_r | apply PX.block_n | apply PX.block_r | refine PX.then_n (e := .normal) ?_)
  refine EL.assign rfl rfl rfl ?_
  repeat (first | apply ES.seq | apply ES.skip | apply ES.region | apply EL.nil | apply ES.block | apply ES.nil | apply ES.exit | apply ES.ret | apply PX.hit | (apply PX.miss; exact rfl) | apply PX.then_x | apply PX.then_r | apply PX.block_n | apply PX.block_r | refine PX.then_n (e := .normal) ?_)
  refine EL.move rfl rfl rfl ?_
  refine EL.lenS rfl rfl rfl rfl rfl ?_
  refine EL.eqlI rfl rfl rfl rfl ?_
  repeat (first | apply ES.seq | apply ES.skip | apply ES.region | apply EL.nil | apply ES.block | apply ES.nil | apply ES.exit | apply ES.ret | apply PX.hit | (apply PX.miss; exact rfl) | apply PX.then_x | apply PX.then_r | apply PX.block_n | apply PX.block_r | refine PX.then_n (e := .normal) ?_)
  refine ES.condK false rfl (decide_eq_false (by simp)) ?_
  repeat (first | apply ES.seq | apply ES.skip | apply ES.region | apply EL.nil | apply ES.block | apply ES.nil | apply ES.exit | apply ES.ret | apply PX.hit | (apply PX.miss; exact rfl) | apply PX.then_x | apply PX.then_r | apply PX.block_n | apply PX.block_r | refine PX.then_n (e := .normal) ?_)
  refine EL.move rfl rfl rfl ?_
  refine EL.lenS rfl rfl rfl rfl rfl ?_
  refine EL.eqlI rfl rfl rfl rfl ?_
  repeat (first | apply ES.seq | apply ES.skip | apply ES.region | apply EL.nil | apply ES.block | apply ES.nil | apply ES.exit | apply ES.ret | apply PX.hit | (apply PX.miss; exact rfl) | apply PX.then_x | apply PX.then_r | apply PX.block_n | apply PX.block_r | refine PX.then_n (e := .normal) ?_)
  refine ES.condK true rfl (decide_eq_true rfl) ?_
  repeat (first | apply ES.seq | apply ES.skip | apply ES.region | apply EL.nil | apply ES.block | apply ES.nil | apply ES.exit | apply ES.ret | apply PX.hit | (apply PX.miss; exact rfl) | apply PX.then_x | apply PX.then_r | apply PX.block_n | apply PX.block_r | refine PX.then_n (e := .normal) ?_)
  refine EL.move rfl rfl rfl ?_
  refine EL.move rfl rfl rfl ?_
  refine EL.indexSN (i := 0) rfl rfl rfl rfl rfl rfl (by simp) ?_
  refine EL.callE rfl rfl rfl rfl (ext_count s 10) ?_
  refine EL.assign rfl rfl rfl ?_
  repeat (first | apply ES.seq | apply ES.skip | apply ES.region | apply EL.nil | apply ES.block | apply ES.nil | apply ES.exit | apply ES.ret | apply PX.hit | (apply PX.miss; exact rfl) | apply PX.then_x | apply PX.then_r | apply PX.block_n | apply PX.block_r | refine PX.then_n (e := .normal) ?_)
  exact PX.ret rfl Try.results22 (.cons (.tmp rfl) .nil) (fun w hs => ⟨(), rfl, hs.ent (.nil _)⟩)
end Go.Proofs.Ytcaphghkflffgaa
