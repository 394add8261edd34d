/- Layer 23 (input): the reference's other methods. -/
import Derived.Test.YtbclmngjhhmbdaaIc
namespace Go.Proofs.Ytbclmngjhhmbdaa
open Go Go.RowKit Sl
set_option maxRecDepth 100000
set_option maxHeartbeats 8000000
set_option linter.unusedVariables false
set_option linter.unusedSimpArgs false
attribute [local irreducible] ES EL PX wps

theorem rclose_c (g : Nat) (ad : Option Addr) (cap : Nat) (fed : List (List UInt8)) (k : Nat) (c : Bool) :
    Mut Try.prog 22 #[Pv g 0] (HR g ad cap fed k c) (fun _ : Unit => Iv (closeM (viewQ fed k c)).1) (fun _ => HR g ad cap fed k true) := by
  intro w0 B R w h
  replace h : Sat w0 B (HA.blk g (.cells #[.slice ad fed.length cap, Iv k, .bool c] 46) :: HA.row (.slice ad fed.length cap) 9 1 fed.length (fed.map Sv) :: R) w := h
  refine calls_of_ES TB Try.func22 rfl _ Try.ntmps22 rfl h ?_
  repeat (first | apply ES.seq | apply ES.skip | apply ES.region | apply EL.nil | apply ES.block | apply ES.nil | apply ES.exit | apply ES.ret | apply PX.hit | (apply PX.miss; exact rfl) | apply PX.then_x | apply PX.then_r | apply PX.block_n | apply PX.block_r | refine PX.then_n (e := .normal) ?_)
  refine EL.assign rfl rfl rfl ?_
  repeat (first | apply ES.seq | apply ES.skip | apply ES.region | apply EL.nil | apply ES.block | apply ES.nil | apply ES.exit | apply ES.ret | apply PX.hit | (apply PX.miss; exact rfl) | apply PX.then_x | apply PX.then_r | apply PX.block_n | apply PX.block_r | refine PX.then_n (e := .normal) ?_)
  refine EL.move rfl rfl rfl ?_
  refine EL.nilCheck rfl rfl rfl ?_
  refine EL.fieldAddr rfl rfl rfl rfl rfl rfl rfl rfl ?_
  (apply EL.loadB; exact rfl; exact rfl; exact rfl; exact rfl; exact rfl; (case hm => (repeat (first | exact Mem.here _ _ | apply Mem.there))); exact rfl)
  repeat (first | apply ES.seq | apply ES.skip | apply ES.region | apply EL.nil | apply ES.block | apply ES.nil | apply ES.exit | apply ES.ret | apply PX.hit | (apply PX.miss; exact rfl) | apply PX.then_x | apply PX.then_r | apply PX.block_n | apply PX.block_r | refine PX.then_n (e := .normal) ?_)
  refine ES.cond rfl (fun hc => ?_) (fun hc => ?_)
  · subst hc
    repeat (first | apply ES.seq | apply ES.skip | apply ES.region | apply EL.nil | apply ES.block | apply ES.nil | apply ES.exit | apply ES.ret | apply PX.hit | (apply PX.miss; exact rfl) | apply PX.then_x | apply PX.then_r | apply PX.block_n | apply PX.block_r | refine PX.then_n (e := .normal) ?_)
    refine EL.assign rfl rfl rfl ?_
    repeat (first | apply ES.seq | apply ES.skip | apply ES.region | apply EL.nil | apply ES.block | apply ES.nil | apply ES.exit | apply ES.ret | apply PX.hit | (apply PX.miss; exact rfl) | apply PX.then_x | apply PX.then_r | apply PX.block_n | apply PX.block_r | refine PX.then_n (e := .normal) ?_)
    exact PX.ret rfl Try.results22 (.cons (.tmp rfl) .nil) (fun w hs => ⟨(), rfl, hs⟩)
  · subst hc
    repeat (first | apply ES.seq | apply ES.skip | apply ES.region | apply EL.nil | apply ES.block | apply ES.nil | apply ES.exit | apply ES.ret | apply PX.hit | (apply PX.miss; exact rfl) | apply PX.then_x | apply PX.then_r | apply PX.block_n | apply PX.block_r | refine PX.then_n (e := .normal) ?_)
    refine EL.move rfl rfl rfl ?_
    refine EL.nilCheck rfl rfl rfl ?_
    refine EL.fieldAddr rfl rfl rfl rfl rfl rfl rfl rfl ?_
    (apply EL.storeB; exact rfl; exact rfl; exact rfl; exact rfl; exact rfl; exact rfl; (case p => (repeat (first | exact PickSet.here _ _ _ | apply PickSet.there))); exact (by first | decide | simp))
    repeat (first | apply ES.seq | apply ES.skip | apply ES.region | apply EL.nil | apply ES.block | apply ES.nil | apply ES.exit | apply ES.ret | apply PX.hit | (apply PX.miss; exact rfl) | apply PX.then_x | apply PX.then_r | apply PX.block_n | apply PX.block_r | refine PX.then_n (e := .normal) ?_)
    refine EL.assign rfl rfl rfl ?_
    repeat (first | apply ES.seq | apply ES.skip | apply ES.region | apply EL.nil | apply ES.block | apply ES.nil | apply ES.exit | apply ES.ret | apply PX.hit | (apply PX.miss; exact rfl) | apply PX.then_x | apply PX.then_r | apply PX.block_n | apply PX.block_r | refine PX.then_n (e := .normal) ?_)
    exact PX.ret rfl Try.results22 (.cons (.tmp rfl) .nil) (fun w hs => ⟨(), rfl, hs⟩)
theorem rwaiting_c (g : Nat) (ad : Option Addr) (cap : Nat) (fed : List (List UInt8)) (k : Nat) (c : Bool) (hk : k ≤ fed.length) (hn : fed.length ≤ 4194304) :
    Mut Try.prog 31 #[Pv g 0] (HR g ad cap fed k c) (fun _ : Unit => Iv ((fed.length - k : Nat))) (fun _ => HR g ad cap fed k c) := by
  intro w0 B R w h
  replace h : Sat w0 B (HA.blk g (.cells #[.slice ad fed.length cap, Iv k, .bool c] 46) :: HA.row (.slice ad fed.length cap) 9 1 fed.length (fed.map Sv) :: R) w := h
  refine calls_of_ES TB Try.func31 rfl _ Try.ntmps31 rfl h ?_
  repeat (first | apply ES.seq | apply ES.skip | apply ES.region | apply EL.nil | apply ES.block | apply ES.nil | apply ES.exit | apply ES.ret | apply PX.hit | (apply PX.miss; exact rfl) | apply PX.then_x | apply PX.then_r | apply PX.block_n | apply PX.block_r | refine PX.then_n (e := .normal) ?_)
  refine EL.assign rfl rfl rfl ?_
  repeat (first | apply ES.seq | apply ES.skip | apply ES.region | apply EL.nil | apply ES.block | apply ES.nil | apply ES.exit | apply ES.ret | apply PX.hit | (apply PX.miss; exact rfl) | apply PX.then_x | apply PX.then_r | apply PX.block_n | apply PX.block_r | refine PX.then_n (e := .normal) ?_)
  refine ES.draw (X := Unit) (fun _ => [(2, Iv ((fed.length - k : Nat)))]) (fun _ => HA.blk g (.cells #[.slice ad fed.length cap, Iv k, .bool c] 46) :: HA.row (.slice ad fed.length cap) 9 1 fed.length (fed.map Sv) :: R) [HA.blk g (.cells #[.slice ad fed.length cap, Iv k, .bool c] 46)] mixed (by repeat (first | exact Ent.nil _ | exact Ent.refl _ | (apply Ent.cons; case p => repeat (first | exact Pick.here _ _ | apply Pick.there)) | apply Ent.drop)) ?_ (fun _ => ?_)
  · refine ED.take 0 rfl (by decide +kernel) CutX.no_panic (by decide +kernel) rfl rfl rfl (RV.move rfl) ?_
    refine ED.take 1 rfl (by decide +kernel) CutX.no_panic (by decide +kernel) rfl rfl rfl (RV.nilCheck rfl) ?_
    refine ED.take 2 rfl (by decide +kernel) CutX.no_panic (by decide +kernel) rfl rfl rfl (RV.fieldAddr rfl rfl rfl rfl rfl rfl) ?_
    refine ED.take 3 rfl (by decide +kernel) CutX.no_panic (by decide +kernel) rfl rfl rfl (RV.loadB rfl rfl rfl (by repeat (first | exact Mem.here _ _ | apply Mem.there)) rfl) ?_
    refine ED.take 4 rfl (by decide +kernel) CutX.no_panic (by decide +kernel) rfl rfl rfl (RV.lenL rfl rfl rfl) ?_
    refine ED.take 5 rfl (by decide +kernel) CutX.no_panic (by decide +kernel) rfl rfl rfl (RV.move rfl) ?_
    refine ED.take 6 rfl (by decide +kernel) CutX.no_panic (by decide +kernel) rfl rfl rfl (RV.nilCheck rfl) ?_
    refine ED.take 7 rfl (by decide +kernel) CutX.no_panic (by decide +kernel) rfl rfl rfl (RV.fieldAddr rfl rfl rfl rfl rfl rfl) ?_
    refine ED.take 8 rfl (by decide +kernel) CutX.no_panic (by decide +kernel) rfl rfl rfl (RV.loadB rfl rfl rfl (by repeat (first | exact Mem.here _ _ | apply Mem.there)) rfl) ?_
    refine ED.take 9 rfl (by decide +kernel) CutX.no_panic (by decide +kernel) rfl rfl rfl (RV.subN rfl rfl rfl (by omega) (by omega)) ?_
    refine ED.take 10 rfl (by decide +kernel) CutX.no_panic (by decide +kernel) rfl rfl rfl (RV.assign rfl) ?_
    refine ED.done (by decide +kernel) ?_
    exact PX.cutX () ⟨rfl, trivial⟩ (by repeat (first | exact Ent.nil _ | exact Ent.refl _ | (apply Ent.cons; case p => repeat (first | exact Pick.here _ _ | apply Pick.there)) | apply Ent.drop))
  repeat (first | apply ES.seq | apply ES.skip | apply ES.region | apply EL.nil | apply ES.block | apply ES.nil | apply ES.exit | apply ES.ret | apply PX.hit | (apply PX.miss; exact rfl) | apply PX.then_x | apply PX.then_r | apply PX.block_n | apply PX.block_r | refine PX.then_n (e := .normal) ?_)
  exact PX.ret rfl Try.results31 (.cons (.tmp rfl) .nil) (fun w hs => ⟨(), rfl, hs⟩)
theorem rready_c (g : Nat) (ad : Option Addr) (cap : Nat) (fed : List (List UInt8)) (k : Nat) (c : Bool) (hk : k ≤ fed.length) (hn : fed.length ≤ 4194304) :
    Mut Try.prog 26 #[Pv g 0] (HR g ad cap fed k c) (fun _ : Unit => .bool (readyM (viewQ fed k c))) (fun _ => HR g ad cap fed k c) := by
  intro w0 B R w h
  replace h : Sat w0 B (HA.blk g (.cells #[.slice ad fed.length cap, Iv k, .bool c] 46) :: HA.row (.slice ad fed.length cap) 9 1 fed.length (fed.map Sv) :: R) w := h
  refine calls_of_ES TB Try.func26 rfl _ Try.ntmps26 rfl h ?_
  repeat (first | apply ES.seq | apply ES.skip | apply ES.region | apply EL.nil | apply ES.block | apply ES.nil | apply ES.exit | apply ES.ret | apply PX.hit | (apply PX.miss; exact rfl) | apply PX.then_x | apply PX.then_r | apply PX.block_n | apply PX.block_r | refine PX.then_n (e := .normal) ?_)
  refine EL.assign rfl rfl rfl ?_
  repeat (first | apply ES.seq | apply ES.skip | apply ES.region | apply EL.nil | apply ES.block | apply ES.nil | apply ES.exit | apply ES.ret | apply PX.hit | (apply PX.miss; exact rfl) | apply PX.then_x | apply PX.then_r | apply PX.block_n | apply PX.block_r | refine PX.then_n (e := .normal) ?_)
  refine EL.cut [(2, .bool (readyM (viewQ fed k c)))] (HA.blk g (.cells #[.slice ad fed.length cap, Iv k, .bool c] 46) :: HA.row (.slice ad fed.length cap) 9 1 fed.length (fed.map Sv) :: R) ?_ ?_
  · repeat (first | apply ES.seq | apply ES.skip | apply ES.region | apply EL.nil | apply ES.block | apply ES.nil | apply ES.exit | apply ES.ret | apply PX.hit | (apply PX.miss; exact rfl) | apply PX.then_x | apply PX.then_r | apply PX.block_n | apply PX.block_r | refine PX.then_n (e := .normal) ?_)
    refine EL.move rfl rfl rfl ?_
    refine EL.nilCheck rfl rfl rfl ?_
    refine EL.fieldAddr rfl rfl rfl rfl rfl rfl rfl rfl ?_
    (apply EL.loadB; exact rfl; exact rfl; exact rfl; exact rfl; exact rfl; (case hm => (repeat (first | exact Mem.here _ _ | apply Mem.there))); exact rfl)
    refine EL.move rfl rfl rfl ?_
    first | refine EL.splitD (d := 7) rfl (fun hp7 => ?_) (fun hp7 => ?_) | refine EL.splitN (d := 7) rfl (fun hp7 => ?_) (fun hp7 => ?_) | refine EL.splitB (d := 7) rfl (fun hp7 => ?_) (fun hp7 => ?_)
    · refine EL.pass rfl rfl rfl ?_
      refine EL.pass rfl rfl rfl ?_
      refine EL.pass rfl rfl rfl ?_
      refine EL.pickT rfl rfl rfl rfl ?_
      refine EL.assign rfl rfl rfl ?_
      exact EL.endK ⟨getB rfl (by rw [Bool.eq_iff_iff]; simp [readyM, viewQ, *] <;> omega), trivial⟩ (by repeat (first | exact Ent.nil _ | exact Ent.refl _ | (apply Ent.cons; case p => repeat (first | exact Pick.here _ _ | apply Pick.there)) | apply Ent.drop))
    · refine EL.move rfl rfl rfl ?_
      refine EL.callM1 rfl rfl rfl ent31 rfl (rwaiting_c _ _ _ fed k _ hk hn) (by repeat (first | exact Takes.nil _ | (apply Takes.cons; case p => repeat (first | exact Pick.here _ _ | apply Pick.there)))) ?_
      refine EL.geq rfl rfl rfl rfl ?_
      refine EL.pickF rfl rfl rfl rfl ?_
      refine EL.assign rfl rfl rfl ?_
      exact EL.endK ⟨getB rfl (by rw [Bool.eq_iff_iff]; simp [readyM, viewQ, *] <;> omega), trivial⟩ (by repeat (first | exact Ent.nil _ | exact Ent.refl _ | (apply Ent.cons; case p => repeat (first | exact Pick.here _ _ | apply Pick.there)) | apply Ent.drop))
  repeat (first | apply ES.seq | apply ES.skip | apply ES.region | apply EL.nil | apply ES.block | apply ES.nil | apply ES.exit | apply ES.ret | apply PX.hit | (apply PX.miss; exact rfl) | apply PX.then_x | apply PX.then_r | apply PX.block_n | apply PX.block_r | refine PX.then_n (e := .normal) ?_)
  exact PX.ret rfl Try.results26 (.cons (.tmp rfl) .nil) (fun w hs => ⟨(), rfl, hs⟩)
theorem rlast_c (g : Nat) (ad : Option Addr) (cap : Nat) (fed : List (List UInt8)) (k : Nat) (c : Bool) (hk : k ≤ fed.length) (hn : fed.length ≤ 4194304) :
    Mut Try.prog 28 #[Pv g 0] (HR g ad cap fed k c) (fun _ : Unit => .bool (lastM (viewQ fed k c))) (fun _ => HR g ad cap fed k c) := by
  intro w0 B R w h
  replace h : Sat w0 B (HA.blk g (.cells #[.slice ad fed.length cap, Iv k, .bool c] 46) :: HA.row (.slice ad fed.length cap) 9 1 fed.length (fed.map Sv) :: R) w := h
  refine calls_of_ES TB Try.func28 rfl _ Try.ntmps28 rfl h ?_
  have hd : (fed.drop k).isEmpty = decide (fed.length - k = 0) := by
    rw [Bool.eq_iff_iff]; simp [List.isEmpty_iff]; omega
  repeat (first | apply ES.seq | apply ES.skip | apply ES.region | apply EL.nil | apply ES.block | apply ES.nil | apply ES.exit | apply ES.ret | apply PX.hit | (apply PX.miss; exact rfl) | apply PX.then_x | apply PX.then_r | apply PX.block_n | apply PX.block_r | refine PX.then_n (e := .normal) ?_)
  refine EL.assign rfl rfl rfl ?_
  repeat (first | apply ES.seq | apply ES.skip | apply ES.region | apply EL.nil | apply ES.block | apply ES.nil | apply ES.exit | apply ES.ret | apply PX.hit | (apply PX.miss; exact rfl) | apply PX.then_x | apply PX.then_r | apply PX.block_n | apply PX.block_r | refine PX.then_n (e := .normal) ?_)
  refine EL.cut [(2, .bool (lastM (viewQ fed k c)))] (HA.blk g (.cells #[.slice ad fed.length cap, Iv k, .bool c] 46) :: HA.row (.slice ad fed.length cap) 9 1 fed.length (fed.map Sv) :: R) ?_ ?_
  · repeat (first | apply ES.seq | apply ES.skip | apply ES.region | apply EL.nil | apply ES.block | apply ES.nil | apply ES.exit | apply ES.ret | apply PX.hit | (apply PX.miss; exact rfl) | apply PX.then_x | apply PX.then_r | apply PX.block_n | apply PX.block_r | refine PX.then_n (e := .normal) ?_)
    refine EL.move rfl rfl rfl ?_
    refine EL.nilCheck rfl rfl rfl ?_
    refine EL.fieldAddr rfl rfl rfl rfl rfl rfl rfl rfl ?_
    (apply EL.loadB; exact rfl; exact rfl; exact rfl; exact rfl; exact rfl; (case hm => (repeat (first | exact Mem.here _ _ | apply Mem.there))); exact rfl)
    refine EL.move rfl rfl rfl ?_
    first | refine EL.splitD (d := 7) rfl (fun hp7 => ?_) (fun hp7 => ?_) | refine EL.splitN (d := 7) rfl (fun hp7 => ?_) (fun hp7 => ?_) | refine EL.splitB (d := 7) rfl (fun hp7 => ?_) (fun hp7 => ?_)
    · refine EL.move rfl rfl rfl ?_
      refine EL.callM1 rfl rfl rfl ent31 rfl (rwaiting_c _ _ _ fed k _ hk hn) (by repeat (first | exact Takes.nil _ | (apply Takes.cons; case p => repeat (first | exact Pick.here _ _ | apply Pick.there)))) ?_
      refine EL.eqlI rfl rfl rfl rfl ?_
      refine EL.pickT rfl rfl rfl rfl ?_
      refine EL.assign rfl rfl rfl ?_
      exact EL.endK ⟨getB rfl (by simp only [lastM, viewQ, hd]; rw [Bool.eq_iff_iff]; simp [*] <;> omega), trivial⟩ (by repeat (first | exact Ent.nil _ | exact Ent.refl _ | (apply Ent.cons; case p => repeat (first | exact Pick.here _ _ | apply Pick.there)) | apply Ent.drop))
    · refine EL.pass rfl rfl rfl ?_
      refine EL.pass rfl rfl rfl ?_
      refine EL.pass rfl rfl rfl ?_
      refine EL.pickF rfl rfl rfl rfl ?_
      refine EL.assign rfl rfl rfl ?_
      exact EL.endK ⟨getB rfl (by simp only [lastM, viewQ, hd]; rw [Bool.eq_iff_iff]; simp [*] <;> omega), trivial⟩ (by repeat (first | exact Ent.nil _ | exact Ent.refl _ | (apply Ent.cons; case p => repeat (first | exact Pick.here _ _ | apply Pick.there)) | apply Ent.drop))
  repeat (first | apply ES.seq | apply ES.skip | apply ES.region | apply EL.nil | apply ES.block | apply ES.nil | apply ES.exit | apply ES.ret | apply PX.hit | (apply PX.miss; exact rfl) | apply PX.then_x | apply PX.then_r | apply PX.block_n | apply PX.block_r | refine PX.then_n (e := .normal) ?_)
  exact PX.ret rfl Try.results28 (.cons (.tmp rfl) .nil) (fun w hs => ⟨(), rfl, hs⟩)
theorem rheld_c (g : Nat) (ad : Option Addr) (cap : Nat) (fed : List (List UInt8)) (k : Nat) (c : Bool) (hk : k ≤ fed.length) (hn : fed.length ≤ 4194304) (hb : (viewQ fed k c).bytes ≤ 8589934592) :
    Mut Try.prog 33 #[Pv g 0] (HR g ad cap fed k c) (fun _ : Unit => Iv ((viewQ fed k c).bytes : Nat)) (fun _ => HR g ad cap fed k c) := by
  intro w0 B R w h
  replace h : Sat w0 B (HA.blk g (.cells #[.slice ad fed.length cap, Iv k, .bool c] 46) :: HA.row (.slice ad fed.length cap) 9 1 fed.length (fed.map Sv) :: R) w := h
  refine calls_of_ES TB Try.func33 rfl _ Try.ntmps33 rfl h ?_
  repeat (first | apply ES.seq | apply ES.skip | apply ES.region | apply EL.nil | apply ES.block | apply ES.nil | apply ES.exit | apply ES.ret | apply PX.hit | (apply PX.miss; exact rfl) | apply PX.then_x | apply PX.then_r | apply PX.block_n | apply PX.block_r | refine PX.then_n (e := .normal) ?_)
  refine EL.assign rfl rfl rfl ?_
  repeat (first | apply ES.seq | apply ES.skip | apply ES.region | apply EL.nil | apply ES.block | apply ES.nil | apply ES.exit | apply ES.ret | apply PX.hit | (apply PX.miss; exact rfl) | apply PX.then_x | apply PX.then_r | apply PX.block_n | apply PX.block_r | refine PX.then_n (e := .normal) ?_)
  refine EL.assign rfl rfl rfl ?_
  repeat (first | apply ES.seq | apply ES.skip | apply ES.region | apply EL.nil | apply ES.block | apply ES.nil | apply ES.exit | apply ES.ret | apply PX.hit | (apply PX.miss; exact rfl) | apply PX.then_x | apply PX.then_r | apply PX.block_n | apply PX.block_r | refine PX.then_n (e := .normal) ?_)
  refine EL.move rfl rfl rfl ?_
  refine EL.nilCheck rfl rfl rfl ?_
  refine EL.fieldAddr rfl rfl rfl rfl rfl rfl rfl rfl ?_
  (apply EL.loadB; exact rfl; exact rfl; exact rfl; exact rfl; exact rfl; (case hm => (repeat (first | exact Mem.here _ _ | apply Mem.there))); exact rfl)
  refine EL.assign rfl rfl rfl ?_
  repeat (first | apply ES.seq | apply ES.skip | apply ES.region | apply EL.nil | apply ES.block | apply ES.nil | apply ES.exit | apply ES.ret | apply PX.hit | (apply PX.miss; exact rfl) | apply PX.then_x | apply PX.then_r | apply PX.block_n | apply PX.block_r | refine PX.then_n (e := .normal) ?_)
  refine ES.loop (σ := Nat × Nat) (fun (i, n) => k ≤ i ∧ i ≤ fed.length ∧ n + ((fed.drop i).map List.length).sum = (viewQ fed k c).bytes) (fun (i, n) => [(0, Pv g 0), (3, Iv n), (4, Iv i)]) (fun _ => HA.blk g (.cells #[.slice ad fed.length cap, Iv k, .bool c] 46) :: HA.row (.slice ad fed.length cap) 9 1 fed.length (fed.map Sv) :: R) (fun (i, n) => fed.length - i) (k, 0) ⟨Nat.le_refl _, hk, by simp [QS.bytes, viewQ]⟩ ⟨rfl, rfl, rfl, trivial⟩ (by repeat (first | exact Ent.nil _ | exact Ent.refl _ | (apply Ent.cons; case p => repeat (first | exact Pick.here _ _ | apply Pick.there)) | apply Ent.drop)) ?_
  rintro ⟨i, n⟩ ⟨hki, hi, hsum⟩
  dsimp only at hki hi hsum ⊢
  repeat (first | apply ES.seq | apply ES.skip | apply ES.region | apply EL.nil | apply ES.block | apply ES.nil | apply ES.exit | apply ES.ret | apply PX.hit | (apply PX.miss; exact rfl) | apply PX.then_x | apply PX.then_r | apply PX.block_n | apply PX.block_r | refine PX.then_n (e := .normal) ?_)
  refine EL.move rfl rfl rfl ?_
  refine EL.move rfl rfl rfl ?_
  refine EL.nilCheck rfl rfl rfl ?_
  refine EL.fieldAddr rfl rfl rfl rfl rfl rfl rfl rfl ?_
  (apply EL.loadB; exact rfl; exact rfl; exact rfl; exact rfl; exact rfl; (case hm => (repeat (first | exact Mem.here _ _ | apply Mem.there))); exact rfl)
  refine EL.lenL rfl rfl rfl rfl rfl ?_
  refine EL.lss rfl rfl rfl rfl ?_
  repeat (first | apply ES.seq | apply ES.skip | apply ES.region | apply EL.nil | apply ES.block | apply ES.nil | apply ES.exit | apply ES.ret | apply PX.hit | (apply PX.miss; exact rfl) | apply PX.then_x | apply PX.then_r | apply PX.block_n | apply PX.block_r | refine PX.then_n (e := .normal) ?_)
  refine ES.condD rfl (fun hlt => ?_) (fun hge => ?_)
  · have hlt' : i < fed.length := by omega
    refine ES.rowForm (ad := ad) (cap := cap) (e := 9) (sz := 1) (n := fed.length) (cs := fed.map Sv) (by repeat (first | exact Mem.here _ _ | apply Mem.there)) (fun hfm => ?_)
    obtain ⟨g2, rfl⟩ := hfm.2.2.2.2 (by omega)
    rw [drop_getD fed i [] hlt', List.map_cons, List.sum_cons] at hsum
    repeat (first | apply ES.seq | apply ES.skip | apply ES.region | apply EL.nil | apply ES.block | apply ES.nil | apply ES.exit | apply ES.ret | apply PX.hit | (apply PX.miss; exact rfl) | apply PX.then_x | apply PX.then_r | apply PX.block_n | apply PX.block_r | refine PX.then_n (e := .normal) ?_)
    refine EL.move rfl rfl rfl ?_
    refine EL.move rfl rfl rfl ?_
    refine EL.nilCheck rfl rfl rfl ?_
    refine EL.fieldAddr rfl rfl rfl rfl rfl rfl rfl rfl ?_
    (apply EL.loadB; exact rfl; exact rfl; exact rfl; exact rfl; exact rfl; (case hm => (repeat (first | exact Mem.here _ _ | apply Mem.there))); exact rfl)
    refine EL.move rfl rfl rfl ?_
    refine EL.indexAddrL1 rfl rfl rfl rfl rfl rfl rfl rfl (by omega) ?_
    refine EL.loadRm Sv [] rfl rfl rfl rfl rfl (by repeat (first | exact Mem.here _ _ | apply Mem.there)) hlt' ?_
    refine EL.lenS rfl rfl rfl rfl rfl ?_
    refine EL.addN rfl rfl rfl rfl rfl (by omega) ?_
    refine EL.assign rfl rfl rfl ?_
    repeat (first | apply ES.seq | apply ES.skip | apply ES.region | apply EL.nil | apply ES.block | apply ES.nil | apply ES.exit | apply ES.ret | apply PX.hit | (apply PX.miss; exact rfl) | apply PX.then_x | apply PX.then_r | apply PX.block_n | apply PX.block_r | refine PX.then_n (e := .normal) ?_)
    refine EL.move rfl rfl rfl ?_
    refine EL.add1 rfl rfl rfl rfl (by omega) ?_
    refine EL.assign rfl rfl rfl ?_
    repeat (first | apply ES.seq | apply ES.skip | apply ES.region | apply EL.nil | apply ES.block | apply ES.nil | apply ES.exit | apply ES.ret | apply PX.hit | (apply PX.miss; exact rfl) | apply PX.then_x | apply PX.then_r | apply PX.block_n | apply PX.block_r | refine PX.then_n (e := .normal) ?_)
    exact PX.loop (i + 1, n + (fed.getD i []).length) ⟨by simp only; omega, by simp only; omega, by simp only; omega⟩ (by simp only; omega) ⟨rfl, rfl, rfl, trivial⟩ (by repeat (first | exact Ent.nil _ | exact Ent.refl _ | (apply Ent.cons; case p => repeat (first | exact Pick.here _ _ | apply Pick.there)) | apply Ent.drop))
  · obtain rfl : i = fed.length := by omega
    rw [List.drop_length, List.map_nil, List.sum_nil, Nat.add_zero] at hsum
    repeat (first | apply ES.seq | apply ES.skip | apply ES.region | apply EL.nil | apply ES.block | apply ES.nil | apply ES.exit | apply ES.ret | apply PX.hit | (apply PX.miss; exact rfl) | apply PX.then_x | apply PX.then_r | apply PX.block_n | apply PX.block_r | refine PX.then_n (e := .normal) ?_)
    refine EL.move rfl rfl rfl ?_
    refine EL.assign rfl rfl rfl ?_
    repeat (first | apply ES.seq | apply ES.skip | apply ES.region | apply EL.nil | apply ES.block | apply ES.nil | apply ES.exit | apply ES.ret | apply PX.hit | (apply PX.miss; exact rfl) | apply PX.then_x | apply PX.then_r | apply PX.block_n | apply PX.block_r | refine PX.then_n (e := .normal) ?_)
    exact PX.ret rfl Try.results33 (.cons (.tmp rfl) .nil) (fun w hs => ⟨(), by rw [← hsum]; rfl, hs⟩)
def rnextK (fed : List (List UInt8)) (k : Nat) (c : Bool) : Nat := if (nextM (viewQ fed k c)).2.1 then k + 1 else k
theorem nextM_no (fed : List (List UInt8)) (k : Nat) (c : Bool) (h : readyM (viewQ fed k c) = false ∨ fed.length ≤ k) : nextM (viewQ fed k c) = ([], false, viewQ fed k c) := by
  unfold nextM
  rcases h with h | h
  · rw [h]; cases hd : (viewQ fed k c).ls <;> simp
  · have : (viewQ fed k c).ls = [] := by simp [viewQ]; omega
    rw [this]
theorem nextM_yes (fed : List (List UInt8)) (k : Nat) (c : Bool) (h : readyM (viewQ fed k c) = true) (hk : k < fed.length) : nextM (viewQ fed k c) = (fed.getD k [], true, viewQ fed (k + 1) c) := by
  have hd : (viewQ fed k c).ls = fed.getD k [] :: fed.drop (k + 1) := drop_getD fed k [] hk
  unfold nextM
  rw [hd, h]
  simp [viewQ]
theorem rnextK_view (fed : List (List UInt8)) (k : Nat) (c : Bool) (hk : k ≤ fed.length) : viewQ fed (rnextK fed k c) c = (nextM (viewQ fed k c)).2.2 ∧ rnextK fed k c ≤ fed.length := by
  unfold rnextK
  by_cases h : readyM (viewQ fed k c) = true ∧ k < fed.length
  · rw [nextM_yes fed k c h.1 h.2]; exact ⟨rfl, by simp; omega⟩
  · have : readyM (viewQ fed k c) = false ∨ fed.length ≤ k := by
      cases hr : readyM (viewQ fed k c)
      · exact .inl rfl
      · exact .inr (by have : ¬ k < fed.length := fun hl => h ⟨hr, hl⟩; omega)
    rw [nextM_no fed k c this]; exact ⟨rfl, by simpa using hk⟩
theorem rnext_c (g : Nat) (ad : Option Addr) (cap : Nat) (fed : List (List UInt8)) (k : Nat) (c : Bool) (hk : k ≤ fed.length) (hn : fed.length ≤ 4194304) :
    Mut Try.prog 24 #[Pv g 0] (HR g ad cap fed k c) (fun _ : Unit => .tuple #[Sv (nextM (viewQ fed k c)).1, .bool (nextM (viewQ fed k c)).2.1]) (fun _ => HR g ad cap fed (rnextK fed k c) c) := by
  intro w0 B R w h
  have rc := rready_c g ad cap fed k c hk hn
  have wc := rwaiting_c g ad cap fed k c hk hn
  refine calls_of_ES TB Try.func24 rfl _ Try.ntmps24 rfl h ?_
  cases hr : readyM (viewQ fed k c) with
  | false =>
    rw [hr] at rc
    have hf := nextM_no fed k c (.inl hr)
    have hf2 : rnextK fed k c = k := by simp [rnextK, hf]
    rw [hf, hf2]
    repeat (first | apply ES.seq | apply ES.skip | apply ES.region | apply EL.nil | apply ES.block | apply ES.nil | apply ES.exit | apply ES.ret | apply PX.hit | (apply PX.miss; exact rfl) | apply PX.then_x | apply PX.then_r | apply PX.block_n | apply PX.block_r | refine PX.then_n (e := .normal) ?_)
    refine EL.assign rfl rfl rfl ?_
    refine EL.assign rfl rfl rfl ?_
    repeat (first | apply ES.seq | apply ES.skip | apply ES.region | apply EL.nil | apply ES.block | apply ES.nil | apply ES.exit | apply ES.ret | apply PX.hit | (apply PX.miss; exact rfl) | apply PX.then_x | apply PX.then_r | apply PX.block_n | apply PX.block_r | refine PX.then_n (e := .normal) ?_)
    refine EL.move rfl rfl rfl ?_
    refine EL.callM1 rfl rfl rfl ent26 rfl rc (by repeat (first | exact Takes.nil _ | (apply Takes.cons; case p => repeat (first | exact Pick.here _ _ | apply Pick.there)))) ?_
    refine EL.not rfl rfl rfl ?_
    refine EL.move rfl rfl rfl ?_
    refine EL.rew (d := 7) (v' := .bool true) rfl (by first | rfl | (decide) | (simp)) ?_
    refine EL.pass rfl rfl rfl ?_
    refine EL.pass rfl rfl rfl ?_
    refine EL.pass rfl rfl rfl ?_
    refine EL.pickT rfl rfl rfl rfl ?_
    repeat (first | apply ES.seq | apply ES.skip | apply ES.region | apply EL.nil | apply ES.block | apply ES.nil | apply ES.exit | apply ES.ret | apply PX.hit | (apply PX.miss; exact rfl) | apply PX.then_x | apply PX.then_r | apply PX.block_n | apply PX.block_r | refine PX.then_n (e := .normal) ?_)
    repeat (first | apply ES.seq | apply ES.skip | apply ES.region | apply EL.nil | apply ES.block | apply ES.nil | apply ES.exit | apply ES.ret | apply PX.hit | (apply PX.miss; exact rfl) | apply PX.then_x | apply PX.then_r | apply PX.block_n | apply PX.block_r | refine PX.then_n (e := .normal) ?_)
    refine ES.condT rfl ?_
    repeat (first | apply ES.seq | apply ES.skip | apply ES.region | apply EL.nil | apply ES.block | apply ES.nil | apply ES.exit | apply ES.ret | apply PX.hit | (apply PX.miss; exact rfl) | apply PX.then_x | apply PX.then_r | apply PX.block_n | apply PX.block_r | refine PX.then_n (e := .normal) ?_)
    refine EL.assign rfl rfl rfl ?_
    refine EL.assign rfl rfl rfl ?_
    repeat (first | apply ES.seq | apply ES.skip | apply ES.region | apply EL.nil | apply ES.block | apply ES.nil | apply ES.exit | apply ES.ret | apply PX.hit | (apply PX.miss; exact rfl) | apply PX.then_x | apply PX.then_r | apply PX.block_n | apply PX.block_r | refine PX.then_n (e := .normal) ?_)
    exact PX.ret rfl Try.results24 (.cons (.tmp rfl) (.cons (.tmp rfl) .nil)) (fun w hs => ⟨(), rfl, hs⟩)
  | true =>
    rw [hr] at rc
    repeat (first | apply ES.seq | apply ES.skip | apply ES.region | apply EL.nil | apply ES.block | apply ES.nil | apply ES.exit | apply ES.ret | apply PX.hit | (apply PX.miss; exact rfl) | apply PX.then_x | apply PX.then_r | apply PX.block_n | apply PX.block_r | refine PX.then_n (e := .normal) ?_)
    refine EL.assign rfl rfl rfl ?_
    refine EL.assign rfl rfl rfl ?_
    repeat (first | apply ES.seq | apply ES.skip | apply ES.region | apply EL.nil | apply ES.block | apply ES.nil | apply ES.exit | apply ES.ret | apply PX.hit | (apply PX.miss; exact rfl) | apply PX.then_x | apply PX.then_r | apply PX.block_n | apply PX.block_r | refine PX.then_n (e := .normal) ?_)
    refine EL.move rfl rfl rfl ?_
    refine EL.callM1 rfl rfl rfl ent26 rfl rc (by repeat (first | exact Takes.nil _ | (apply Takes.cons; case p => repeat (first | exact Pick.here _ _ | apply Pick.there)))) ?_
    refine EL.not rfl rfl rfl ?_
    refine EL.move rfl rfl rfl ?_
    refine EL.rew (d := 7) (v' := .bool false) rfl (by first | rfl | (decide) | (simp)) ?_
    refine EL.move rfl rfl rfl ?_
    refine EL.callM1 rfl rfl rfl ent31 rfl wc (by repeat (first | exact Takes.nil _ | (apply Takes.cons; case p => repeat (first | exact Pick.here _ _ | apply Pick.there)))) ?_
    refine EL.eqlI rfl rfl rfl rfl ?_
    refine EL.pickF rfl rfl rfl rfl ?_
    repeat (first | apply ES.seq | apply ES.skip | apply ES.region | apply EL.nil | apply ES.block | apply ES.nil | apply ES.exit | apply ES.ret | apply PX.hit | (apply PX.miss; exact rfl) | apply PX.then_x | apply PX.then_r | apply PX.block_n | apply PX.block_r | refine PX.then_n (e := .normal) ?_)
    refine ES.condD rfl (fun hz => ?_) (fun hz => ?_)
    · have hf := nextM_no fed k c (.inr (by omega))
      have hf2 : rnextK fed k c = k := by simp [rnextK, hf]
      rw [hf, hf2]
      repeat (first | apply ES.seq | apply ES.skip | apply ES.region | apply EL.nil | apply ES.block | apply ES.nil | apply ES.exit | apply ES.ret | apply PX.hit | (apply PX.miss; exact rfl) | apply PX.then_x | apply PX.then_r | apply PX.block_n | apply PX.block_r | refine PX.then_n (e := .normal) ?_)
      refine EL.assign rfl rfl rfl ?_
      refine EL.assign rfl rfl rfl ?_
      repeat (first | apply ES.seq | apply ES.skip | apply ES.region | apply EL.nil | apply ES.block | apply ES.nil | apply ES.exit | apply ES.ret | apply PX.hit | (apply PX.miss; exact rfl) | apply PX.then_x | apply PX.then_r | apply PX.block_n | apply PX.block_r | refine PX.then_n (e := .normal) ?_)
      exact PX.ret rfl Try.results24 (.cons (.tmp rfl) (.cons (.tmp rfl) .nil)) (fun w hs => ⟨(), rfl, hs⟩)
    · have hk' : k < fed.length := by omega
      have hf := nextM_yes fed k c hr hk'
      have hf2 : rnextK fed k c = k + 1 := by simp [rnextK, hf]
      rw [hf, hf2]
      repeat (first | apply ES.seq | apply ES.skip | apply EL.nil | apply ES.block | apply ES.nil | apply ES.exit | apply ES.ret | apply PX.hit | (apply PX.miss; exact rfl) | apply PX.then_x | apply PX.then_r | apply PX.block_n | apply PX.block_r | refine PX.then_n (e := .normal) ?_)
      refine ES.sub (E' := [(0, Pv g 0)]) (H' := HA.blk g (.cells #[.slice ad fed.length cap, Iv k, .bool c] 46) :: HA.row (.slice ad fed.length cap) 9 1 fed.length (fed.map Sv) :: R) ⟨rfl, trivial⟩ (by repeat (first | exact Ent.nil _ | exact Ent.refl _ | (apply Ent.cons; case p => repeat (first | exact Pick.here _ _ | apply Pick.there)) | apply Ent.drop)) ?_
      refine ES.rowForm (ad := ad) (cap := cap) (e := 9) (sz := 1) (n := fed.length) (cs := fed.map Sv) (by repeat (first | exact Mem.here _ _ | apply Mem.there)) (fun hfm => ?_)
      obtain ⟨g2, rfl⟩ := hfm.2.2.2.2 (by omega)
      have hsub : k + 1 - 1 = k := by omega
      repeat (first | apply ES.seq | apply ES.skip | apply ES.region | apply EL.nil | apply ES.block | apply ES.nil | apply ES.exit | apply ES.ret | apply PX.hit | (apply PX.miss; exact rfl) | apply PX.then_x | apply PX.then_r | apply PX.block_n | apply PX.block_r | refine PX.then_n (e := .normal) ?_)
      refine EL.move rfl rfl rfl ?_
      refine EL.nilCheck rfl rfl rfl ?_
      refine EL.fieldAddr rfl rfl rfl rfl rfl rfl rfl rfl ?_
      (apply EL.loadB; exact rfl; exact rfl; exact rfl; exact rfl; exact rfl; (case hm => (repeat (first | exact Mem.here _ _ | apply Mem.there))); exact rfl)
      refine EL.add1 rfl rfl rfl rfl (by omega) ?_
      refine EL.nilCheck rfl rfl rfl ?_
      refine EL.fieldAddr rfl rfl rfl rfl rfl rfl rfl rfl ?_
      (apply EL.storeB; exact rfl; exact rfl; exact rfl; exact rfl; exact rfl; exact rfl; (case p => (repeat (first | exact PickSet.here _ _ _ | apply PickSet.there))); exact (by first | decide | simp))
      repeat (first | apply ES.seq | apply ES.skip | apply ES.region | apply EL.nil | apply ES.block | apply ES.nil | apply ES.exit | apply ES.ret | apply PX.hit | (apply PX.miss; exact rfl) | apply PX.then_x | apply PX.then_r | apply PX.block_n | apply PX.block_r | refine PX.then_n (e := .normal) ?_)
      refine ES.blkEq (g := g) (o' := .cells #[.slice (some ⟨g2, 0, none⟩) fed.length cap, Iv (k + 1 : Nat), .bool c] 46) (by repeat (first | exact PickSet.here _ _ _ | apply PickSet.there)) rfl ?_
      refine ES.draw (X := Unit) (fun _ => [(2, Sv (fed.getD k [])), (3, .bool true)]) (fun _ => HA.blk g (.cells #[.slice (some ⟨g2, 0, none⟩) fed.length cap, Iv (k + 1 : Nat), .bool c] 46) :: HA.row (.slice (some ⟨g2, 0, none⟩) fed.length cap) 9 1 fed.length (fed.map Sv) :: R)
        [HA.blk g (.cells #[.slice (some ⟨g2, 0, none⟩) fed.length cap, Iv (k + 1 : Nat), .bool c] 46), HA.row (.slice (some ⟨g2, 0, none⟩) fed.length cap) 9 1 fed.length (fed.map Sv)] mixed (by repeat (first | exact Ent.nil _ | exact Ent.refl _ | (apply Ent.cons; case p => repeat (first | exact Pick.here _ _ | apply Pick.there)) | apply Ent.drop)) ?_ (fun _ => ?_)
      · refine ED.take 0 rfl (by decide +kernel) CutX.no_panic (by decide +kernel) rfl rfl rfl (RV.move rfl) ?_
        refine ED.take 1 rfl (by decide +kernel) CutX.no_panic (by decide +kernel) rfl rfl rfl (RV.nilCheck rfl) ?_
        refine ED.take 2 rfl (by decide +kernel) CutX.no_panic (by decide +kernel) rfl rfl rfl (RV.fieldAddr rfl rfl rfl rfl rfl rfl) ?_
        refine ED.take 3 rfl (by decide +kernel) CutX.no_panic (by decide +kernel) rfl rfl rfl (RV.loadB rfl rfl rfl (by repeat (first | exact Mem.here _ _ | apply Mem.there)) rfl) ?_
        refine ED.take 4 rfl (by decide +kernel) CutX.no_panic (by decide +kernel) rfl rfl rfl (RV.move rfl) ?_
        refine ED.take 5 rfl (by decide +kernel) CutX.no_panic (by decide +kernel) rfl rfl rfl (RV.nilCheck rfl) ?_
        refine ED.take 6 rfl (by decide +kernel) CutX.no_panic (by decide +kernel) rfl rfl rfl (RV.fieldAddr rfl rfl rfl rfl rfl rfl) ?_
        refine ED.take 7 rfl (by decide +kernel) CutX.no_panic (by decide +kernel) rfl rfl rfl (RV.loadB rfl rfl rfl (by repeat (first | exact Mem.here _ _ | apply Mem.there)) rfl) ?_
        refine ED.take 8 rfl (by decide +kernel) CutX.no_panic (by decide +kernel) rfl rfl rfl (RV.sub1 rfl rfl (by omega) (by omega)) ?_
        refine ED.take 9 rfl (by decide +kernel) CutX.no_panic (by decide +kernel) rfl rfl rfl (RV.indexAddrL1 rfl rfl rfl rfl rfl rfl (by omega)) ?_
        refine ED.take 10 rfl (by decide +kernel) CutX.no_panic (by decide +kernel) rfl rfl rfl (RV.loadRm Sv [] rfl rfl rfl (by repeat (first | exact Mem.here _ _ | apply Mem.there)) (by omega)) ?_
        refine ED.take 11 rfl (by decide +kernel) CutX.no_panic (by decide +kernel) rfl rfl rfl (RV.assign rfl) ?_
        refine ED.take 12 rfl (by decide +kernel) CutX.no_panic (by decide +kernel) rfl rfl rfl (RV.assign rfl) ?_
        refine ED.done (by decide +kernel) ?_
        exact PX.cutX () ⟨getA rfl (by rw [hsub]), rfl, trivial⟩ (by repeat (first | exact Ent.nil _ | exact Ent.refl _ | (apply Ent.cons; case p => repeat (first | exact Pick.here _ _ | apply Pick.there)) | apply Ent.drop))
      repeat (first | apply ES.seq | apply ES.skip | apply ES.region | apply EL.nil | apply ES.block | apply ES.nil | apply ES.exit | apply ES.ret | apply PX.hit | (apply PX.miss; exact rfl) | apply PX.then_x | apply PX.then_r | apply PX.block_n | apply PX.block_r | refine PX.then_n (e := .normal) ?_)
      exact PX.ret rfl Try.results24 (.cons (.tmp rfl) (.cons (.tmp rfl) .nil)) (fun w hs => ⟨(), rfl, hs⟩)
end Go.Proofs.Ytbclmngjhhmbdaa
