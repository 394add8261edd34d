/- Go's library: strings.Builder: what its methods do to a builder of one's own. -/
import Derived.Test.YtjjifcfcomhdcaaSlt
import Derived.Test.YtjjifcfcomhdcaaSlw
import Derived.Test.YtjjifcfcomhdcaaTy
namespace Go.Proofs.Ytjjifcfcomhdcaa
open Go Go.RowKit Sl
set_option maxRecDepth 100000
set_option maxHeartbeats 8000000
set_option linter.unusedVariables false
set_option linter.unusedSimpArgs false
attribute [local irreducible] ES EL PX wps

abbrev QA := Option Addr × Nat
/-- A builder in block g, holding bs; used: its own address lies in it. -/
abbrev HB (g : Nat) (used : Bool) (ad : Option Addr) (cap : Nat) (bs : List UInt8) : List HA := [HA.blk g (.cells #[.pointer (if used then some ⟨g, 0, none⟩ else none), .slice ad bs.length cap] 52), HA.buf (.slice ad bs.length cap) 5 bs.length (bs.map Uv)]
theorem ext_noEscape (g : Nat) (w : World) : (callFunc 36 #[Pv g 0]).run Try.prog w = .ok (.value (Pv g 0)) w := by
  rw [run_callFunc_extern (e := Extern.AbiNoEscape.same) Try.func36 (by kernel_rfl) (by kernel_rfl) (by kernel_rfl) (by kernel_rfl)]
  rfl
theorem copyCheck_c (g : Nat) (u : Bool) (v : Value) : Mut Try.prog 32 #[Pv g 0] [HA.blk g (.cells #[.pointer (if u then some ⟨g, 0, none⟩ else none), v] 52)] (fun _ : Unit => .tuple #[]) (fun _ => [HA.blk g (.cells #[Pv g 0, v] 52)]) := by
  intro w0 B R w h
  replace h : Sat w0 B (HA.blk g (.cells #[.pointer (if u then some ⟨g, 0, none⟩ else none), v] 52) :: R) w := h
  refine calls_of_ES TB Try.func32 rfl _ Try.ntmps32 rfl h ?_
  cases u
  · repeat (first | apply ES.seq | apply ES.skip | apply ES.region | apply EL.nil | apply ES.block | apply ES.nil | apply ES.exit | apply ES.ret | apply PX.hit | (apply PX.miss; exact rfl) | apply PX.then_x | apply PX.then_r | apply PX.block_n | apply PX.block_r | refine PX.then_n (e := .normal) ?_)
    refine EL.move rfl rfl rfl ?_
    refine EL.nilCheck rfl rfl rfl ?_
    refine EL.fieldAddr rfl rfl rfl rfl rfl rfl rfl rfl ?_
    (apply EL.loadB; exact rfl; exact rfl; exact rfl; exact rfl; exact rfl; (case hm => (repeat (first | exact Mem.here _ _ | apply Mem.there))); exact rfl)
    refine EL.eqlPn (a := none) rfl rfl rfl rfl rfl rfl ?_
    repeat (first | apply ES.seq | apply ES.skip | apply ES.region | apply EL.nil | apply ES.block | apply ES.nil | apply ES.exit | apply ES.ret | apply PX.hit | (apply PX.miss; exact rfl) | apply PX.then_x | apply PX.then_r | apply PX.block_n | apply PX.block_r | refine PX.then_n (e := .normal) ?_)
    refine ES.condT rfl ?_
    repeat (first | apply ES.seq | apply ES.skip | apply ES.region | apply EL.nil | apply ES.block | apply ES.nil | apply ES.exit | apply ES.ret | apply PX.hit | (apply PX.miss; exact rfl) | apply PX.then_x | apply PX.then_r | apply PX.block_n | apply PX.block_r | refine PX.then_n (e := .normal) ?_)
    refine EL.move rfl rfl rfl ?_
    refine EL.move rfl rfl rfl ?_
    refine EL.ofRV (RV.toUnsafe rfl rfl rfl rfl rfl rfl (by decide) (by repeat (first | exact Mem.here _ _ | apply Mem.there)) (by simp)) rfl rfl rfl (by intro c h; cases h) ?_
    refine EL.callE rfl rfl rfl rfl (ext_noEscape g) ?_
    refine EL.ofRV (RV.fromUnsafe rfl rfl rfl rfl rfl rfl (by repeat (first | exact Mem.here _ _ | apply Mem.there)) (by kernel_rfl)) rfl rfl rfl (by intro c h; cases h) ?_
    refine EL.nilCheck rfl rfl rfl ?_
    refine EL.fieldAddr rfl rfl rfl rfl rfl rfl rfl rfl ?_
    (apply EL.storeB; exact rfl; exact rfl; exact rfl; exact rfl; exact rfl; exact rfl; (case p => (repeat (first | exact PickSet.here _ _ _ | apply PickSet.there))); exact (by first | decide | simp))
    repeat (first | apply ES.seq | apply ES.skip | apply ES.region | apply EL.nil | apply ES.block | apply ES.nil | apply ES.exit | apply ES.ret | apply PX.hit | (apply PX.miss; exact rfl) | apply PX.then_x | apply PX.then_r | apply PX.block_n | apply PX.block_r | refine PX.then_n (e := .normal) ?_)
    exact PX.end rfl Try.results32 .nil (fun w hs => ⟨(), rfl, hs.ent (by repeat (first | exact Ent.nil _ | exact Ent.refl _ | (apply Ent.cons; case p => repeat (first | exact Pick.here _ _ | apply Pick.there)) | apply Ent.drop))⟩)
  · repeat (first | apply ES.seq | apply ES.skip | apply ES.region | apply EL.nil | apply ES.block | apply ES.nil | apply ES.exit | apply ES.ret | apply PX.hit | (apply PX.miss; exact rfl) | apply PX.then_x | apply PX.then_r | apply PX.block_n | apply PX.block_r | refine PX.then_n (e := .normal) ?_)
    refine EL.move rfl rfl rfl ?_
    refine EL.nilCheck rfl rfl rfl ?_
    refine EL.fieldAddr rfl rfl rfl rfl rfl rfl rfl rfl ?_
    (apply EL.loadB; exact rfl; exact rfl; exact rfl; exact rfl; exact rfl; (case hm => (repeat (first | exact Mem.here _ _ | apply Mem.there))); exact rfl)
    refine EL.eqlPn (a := some ⟨g, 0, none⟩) rfl rfl rfl rfl rfl rfl ?_
    repeat (first | apply ES.seq | apply ES.skip | apply ES.region | apply EL.nil | apply ES.block | apply ES.nil | apply ES.exit | apply ES.ret | apply PX.hit | (apply PX.miss; exact rfl) | apply PX.then_x | apply PX.then_r | apply PX.block_n | apply PX.block_r | refine PX.then_n (e := .normal) ?_)
    refine ES.condF rfl ?_
    repeat (first | apply ES.seq | apply ES.skip | apply ES.region | apply EL.nil | apply ES.block | apply ES.nil | apply ES.exit | apply ES.ret | apply PX.hit | (apply PX.miss; exact rfl) | apply PX.then_x | apply PX.then_r | apply PX.block_n | apply PX.block_r | refine PX.then_n (e := .normal) ?_)
    refine EL.move rfl rfl rfl ?_
    refine EL.nilCheck rfl rfl rfl ?_
    refine EL.fieldAddr rfl rfl rfl rfl rfl rfl rfl rfl ?_
    (apply EL.loadB; exact rfl; exact rfl; exact rfl; exact rfl; exact rfl; (case hm => (repeat (first | exact Mem.here _ _ | apply Mem.there))); exact rfl)
    refine EL.move rfl rfl rfl ?_
    refine EL.ofRV (RV.neqPs rfl rfl rfl rfl rfl) rfl rfl rfl (by intro c h; cases h) ?_
    repeat (first | apply ES.seq | apply ES.skip | apply ES.region | apply EL.nil | apply ES.block | apply ES.nil | apply ES.exit | apply ES.ret | apply PX.hit | (apply PX.miss; exact rfl) | apply PX.then_x | apply PX.then_r | apply PX.block_n | apply PX.block_r | refine PX.then_n (e := .normal) ?_)
    refine ES.condF rfl ?_
    repeat (first | apply ES.seq | apply ES.skip | apply ES.region | apply EL.nil | apply ES.block | apply ES.nil | apply ES.exit | apply ES.ret | apply PX.hit | (apply PX.miss; exact rfl) | apply PX.then_x | apply PX.then_r | apply PX.block_n | apply PX.block_r | refine PX.then_n (e := .normal) ?_)
    exact PX.end rfl Try.results32 .nil (fun w hs => ⟨(), rfl, hs.ent (by repeat (first | exact Ent.nil _ | exact Ent.refl _ | (apply Ent.cons; case p => repeat (first | exact Pick.here _ _ | apply Pick.there)) | apply Ent.drop))⟩)
theorem writeString_c (g : Nat) (u : Bool) (ad : Option Addr) (cap : Nat) (bs l : List UInt8) (hb : bs.length + l.length ≤ 140737488355328) : Mut Try.prog 24 #[Pv g 0, Sv l] (HB g u ad cap bs) (fun _ : QA => .tuple #[Iv l.length, .nilIface]) (fun x => HB g true x.1 x.2 (bs ++ l)) := by
  intro w0 B R w h
  replace h : Sat w0 B (HA.blk g (.cells #[.pointer (if u then some ⟨g, 0, none⟩ else none), .slice ad bs.length cap] 52) :: HA.buf (.slice ad bs.length cap) 5 bs.length (bs.map Uv) :: R) w := h
  refine calls_of_ES TB Try.func24 rfl _ Try.ntmps24 rfl h ?_
  repeat (first | apply ES.seq | apply ES.skip | apply ES.region | apply EL.nil | apply ES.block | apply ES.nil | apply ES.exit | apply ES.ret | apply PX.hit | (apply PX.miss; exact rfl) | apply PX.then_x | apply PX.then_r | apply PX.block_n | apply PX.block_r | refine PX.then_n (e := .normal) ?_)
  refine EL.assign rfl rfl rfl ?_
  refine EL.assign rfl rfl rfl ?_
  repeat (first | apply ES.seq | apply ES.skip | apply ES.region | apply EL.nil | apply ES.block | apply ES.nil | apply ES.exit | apply ES.ret | apply PX.hit | (apply PX.miss; exact rfl) | apply PX.then_x | apply PX.then_r | apply PX.block_n | apply PX.block_r | refine PX.then_n (e := .normal) ?_)
  refine EL.move rfl rfl rfl ?_
  refine EL.callM1 rfl rfl rfl ent32 rfl (copyCheck_c g u (.slice ad bs.length cap)) (by repeat (first | exact Takes.nil _ | (apply Takes.cons; case p => repeat (first | exact Pick.here _ _ | apply Pick.there)))) ?_
  repeat (first | apply ES.seq | apply ES.skip | apply ES.region | apply EL.nil | apply ES.block | apply ES.nil | apply ES.exit | apply ES.ret | apply PX.hit | (apply PX.miss; exact rfl) | apply PX.then_x | apply PX.then_r | apply PX.block_n | apply PX.block_r | refine PX.then_n (e := .normal) ?_)
  have e1 : (bs ++ l).length = bs.length + l.length := by simp
  have e2 : (bs ++ l).map Uv = bs.map Uv ++ l.map Uv := by simp
  repeat (first | apply ES.seq | apply ES.skip | apply ES.region | apply EL.nil | apply ES.block | apply ES.nil | apply ES.exit | apply ES.ret | apply PX.hit | (apply PX.miss; exact rfl) | apply PX.then_x | apply PX.then_r | apply PX.block_n | apply PX.block_r | refine PX.then_n (e := .normal) ?_)
  refine EL.move rfl rfl rfl ?_
  refine EL.move rfl rfl rfl ?_
  refine EL.nilCheck rfl rfl rfl ?_
  refine EL.fieldAddr rfl rfl rfl rfl rfl rfl rfl rfl ?_
  (apply EL.loadB; exact rfl; exact rfl; exact rfl; exact rfl; exact rfl; (case hm => (repeat (first | exact Mem.here _ _ | apply Mem.there))); exact rfl)
  refine EL.move rfl rfl rfl ?_
  (refine EL.appendB rfl rfl rfl rfl rfl rfl rfl rfl rfl rfl rfl rfl (by repeat (first | exact Pick.here _ _ | apply Pick.there)) hb ?_; intro ad2 cap2)
  refine EL.nilCheck rfl rfl rfl ?_
  refine EL.fieldAddr rfl rfl rfl rfl rfl rfl rfl rfl ?_
  (apply EL.storeB; exact rfl; exact rfl; exact rfl; exact rfl; exact rfl; exact rfl; (case p => (repeat (first | exact PickSet.here _ _ _ | apply PickSet.there))); exact (by first | decide | simp))
  repeat (first | apply ES.seq | apply ES.skip | apply ES.region | apply EL.nil | apply ES.block | apply ES.nil | apply ES.exit | apply ES.ret | apply PX.hit | (apply PX.miss; exact rfl) | apply PX.then_x | apply PX.then_r | apply PX.block_n | apply PX.block_r | refine PX.then_n (e := .normal) ?_)
  refine EL.move rfl rfl rfl ?_
  refine EL.lenS rfl rfl rfl rfl rfl ?_
  refine EL.assign rfl rfl rfl ?_
  refine EL.assign rfl rfl rfl ?_
  repeat (first | apply ES.seq | apply ES.skip | apply ES.region | apply EL.nil | apply ES.block | apply ES.nil | apply ES.exit | apply ES.ret | apply PX.hit | (apply PX.miss; exact rfl) | apply PX.then_x | apply PX.then_r | apply PX.block_n | apply PX.block_r | refine PX.then_n (e := .normal) ?_)
  exact PX.ret rfl Try.results24 (.cons (.tmp rfl) (.cons (.tmp rfl) .nil)) (fun w hs => ⟨(ad2, cap2), rfl, by
    show Sat w0 B (HA.blk g (.cells #[Pv g 0, .slice ad2 (bs ++ l).length cap2] 52) :: HA.buf (.slice ad2 (bs ++ l).length cap2) 5 (bs ++ l).length ((bs ++ l).map Uv) :: R) w
    rw [e1, e2]
    exact hs.ent (by repeat (first | exact Ent.nil _ | exact Ent.refl _ | (apply Ent.cons; case p => repeat (first | exact Pick.here _ _ | apply Pick.there)) | apply Ent.drop))⟩)
theorem bstring_c (g : Nat) (u : Bool) (ad : Option Addr) (cap : Nat) (bs : List UInt8) (hb : bs.length ≤ 9223372036854775807) : Mut Try.prog 26 #[Pv g 0] (HB g u ad cap bs) (fun _ : Unit => Sv bs) (fun _ => HB g u ad cap bs) := by
  intro w0 B R w h
  replace h : Sat w0 B (HA.blk g (.cells #[.pointer (if u then some ⟨g, 0, none⟩ else none), .slice ad bs.length cap] 52) :: HA.buf (.slice ad bs.length cap) 5 bs.length (bs.map Uv) :: R) w := h
  refine calls_of_ES TB Try.func26 rfl _ Try.ntmps26 rfl h ?_
  repeat (first | apply ES.seq | apply ES.skip | apply ES.region | apply EL.nil | apply ES.block | apply ES.nil | apply ES.exit | apply ES.ret | apply PX.hit | (apply PX.miss; exact rfl) | apply PX.then_x | apply PX.then_r | apply PX.block_n | apply PX.block_r | refine PX.then_n (e := .normal) ?_)
  refine EL.assign rfl rfl rfl ?_
  repeat (first | apply EL.nil | apply ES.seq | apply ES.skip)
  refine ES.draw (X := Unit) (fun _ => [(2, Sv bs)]) (fun _ => HA.blk g (.cells #[.pointer (if u then some ⟨g, 0, none⟩ else none), .slice ad bs.length cap] 52) :: HA.buf (.slice ad bs.length cap) 5 bs.length (bs.map Uv) :: R) [HA.blk g (.cells #[.pointer (if u then some ⟨g, 0, none⟩ else none), .slice ad bs.length cap] 52), HA.buf (.slice ad bs.length cap) 5 bs.length (bs.map Uv)] mixed (by repeat (first | exact Ent.nil _ | exact Ent.refl _ | (apply Ent.cons; case p => repeat (first | exact Pick.here _ _ | apply Pick.there)) | apply Ent.drop)) ?_ (fun _ => ?_)
  · refine ED.take 0 rfl (by decide +kernel) CutX.no_panic (by decide +kernel) rfl rfl rfl (RV.move rfl) ?_
    refine ED.take 1 rfl (by decide +kernel) CutX.no_panic (by decide +kernel) rfl rfl rfl (RV.nilCheck rfl) ?_
    refine ED.take 2 rfl (by decide +kernel) CutX.no_panic (by decide +kernel) rfl rfl rfl (RV.fieldAddr rfl rfl rfl rfl rfl rfl) ?_
    refine ED.take 3 rfl (by decide +kernel) CutX.no_panic (by decide +kernel) rfl rfl rfl (RV.loadB rfl rfl rfl (by repeat (first | exact Mem.here _ _ | apply Mem.there)) rfl) ?_
    refine ED.take 4 rfl (by decide +kernel) CutX.no_panic (by decide +kernel) rfl rfl rfl (RV.sliceData rfl (by repeat (first | exact Mem.here _ _ | apply Mem.there))) ?_
    refine ED.take 5 rfl (by decide +kernel) CutX.no_panic (by decide +kernel) rfl rfl rfl (RV.move rfl) ?_
    refine ED.take 6 rfl (by decide +kernel) CutX.no_panic (by decide +kernel) rfl rfl rfl (RV.nilCheck rfl) ?_
    refine ED.take 7 rfl (by decide +kernel) CutX.no_panic (by decide +kernel) rfl rfl rfl (RV.fieldAddr rfl rfl rfl rfl rfl rfl) ?_
    refine ED.take 8 rfl (by decide +kernel) CutX.no_panic (by decide +kernel) rfl rfl rfl (RV.loadB rfl rfl rfl (by repeat (first | exact Mem.here _ _ | apply Mem.there)) rfl) ?_
    refine ED.take 9 rfl (by decide +kernel) CutX.no_panic (by decide +kernel) rfl rfl rfl (RV.lenL rfl rfl rfl) ?_
    refine ED.loud 10 rfl (by decide +kernel) ?_
    refine EL.unsafeStr rfl rfl rfl rfl rfl (by kernel_rfl) rfl (by repeat (first | exact PickSet.here _ _ _ | apply PickSet.there)) hb ?_
    refine ED.next (by repeat (first | exact Ent.nil _ | exact Ent.refl _ | (apply Ent.cons; case p => repeat (first | exact Pick.here _ _ | apply Pick.there)) | apply Ent.drop)) ?_
    refine ED.take 11 rfl (by decide +kernel) CutX.no_panic (by decide +kernel) rfl rfl rfl (RV.assign rfl) ?_
    refine ED.done (by decide +kernel) ?_
    exact PX.cutX () ⟨rfl, trivial⟩ (by repeat (first | exact Ent.nil _ | exact Ent.refl _ | (apply Ent.cons; case p => repeat (first | exact Pick.here _ _ | apply Pick.there)) | apply Ent.drop))
  repeat (first | apply ES.seq | apply ES.skip | apply ES.region | apply EL.nil | apply ES.block | apply ES.nil | apply ES.exit | apply ES.ret | apply PX.hit | (apply PX.miss; exact rfl) | apply PX.then_x | apply PX.then_r | apply PX.block_n | apply PX.block_r | refine PX.then_n (e := .normal) ?_)
  exact PX.ret rfl Try.results26 (.cons (.tmp rfl) .nil) (fun w hs => ⟨(), rfl, hs⟩)
end Go.Proofs.Ytjjifcfcomhdcaa
