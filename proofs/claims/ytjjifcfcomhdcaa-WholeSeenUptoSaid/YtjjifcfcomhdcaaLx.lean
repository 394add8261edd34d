/- Go's library: strings.Builder: Len, Reset. -/
import Derived.Test.YtjjifcfcomhdcaaCb
namespace Go.Proofs.Ytjjifcfcomhdcaa
open Go Go.RowKit Sl
set_option maxRecDepth 100000
set_option maxHeartbeats 8000000
set_option linter.unusedVariables false
set_option linter.unusedSimpArgs false
attribute [local irreducible] ES EL PX wps

theorem blen_c (g : Nat) (u : Bool) (ad : Option Addr) (cap : Nat) (bs : List UInt8) : Mut Try.prog 29 #[Pv g 0] (HB g u ad cap bs) (fun _ : Unit => Iv bs.length) (fun _ => HB g u ad cap bs) := by
  intro w0 B R w h
  replace h : Sat w0 B (HA.blk g (.cells #[.pointer (if u then some ⟨g, 0, none⟩ else none), .slice ad bs.length cap] 52) :: HA.buf (.slice ad bs.length cap) 5 bs.length (bs.map Uv) :: R) w := h
  refine calls_of_ES TB Try.func29 rfl _ Try.ntmps29 rfl h ?_
  repeat (first | apply ES.seq | apply ES.skip | apply ES.region | apply EL.nil | apply ES.block | apply ES.nil | apply ES.exit | apply ES.ret | apply PX.hit | (apply PX.miss; exact rfl) | apply PX.then_x | apply PX.then_r | apply PX.block_n | apply PX.block_r | refine PX.then_n (e := .normal) ?_)
  refine EL.assign rfl rfl rfl ?_
  repeat (first | apply ES.seq | apply ES.skip | apply ES.region | apply EL.nil | apply ES.block | apply ES.nil | apply ES.exit | apply ES.ret | apply PX.hit | (apply PX.miss; exact rfl) | apply PX.then_x | apply PX.then_r | apply PX.block_n | apply PX.block_r | refine PX.then_n (e := .normal) ?_)
  refine EL.move rfl rfl rfl ?_
  refine EL.nilCheck rfl rfl rfl ?_
  refine EL.fieldAddr rfl rfl rfl rfl rfl rfl rfl rfl ?_
  (apply EL.loadB; exact rfl; exact rfl; exact rfl; exact rfl; exact rfl; (case hm => (repeat (first | exact Mem.here _ _ | apply Mem.there))); exact rfl)
  refine EL.lenL rfl rfl rfl rfl rfl ?_
  refine EL.assign rfl rfl rfl ?_
  repeat (first | apply ES.seq | apply ES.skip | apply ES.region | apply EL.nil | apply ES.block | apply ES.nil | apply ES.exit | apply ES.ret | apply PX.hit | (apply PX.miss; exact rfl) | apply PX.then_x | apply PX.then_r | apply PX.block_n | apply PX.block_r | refine PX.then_n (e := .normal) ?_)
  exact PX.ret rfl Try.results29 (.cons (.tmp rfl) .nil) (fun w hs => ⟨(), rfl, hs⟩)
theorem breset_c (g : Nat) (u : Bool) (ad : Option Addr) (cap : Nat) (bs : List UInt8) : Mut Try.prog 30 #[Pv g 0] (HB g u ad cap bs) (fun _ : Unit => .tuple #[]) (fun _ => HB g false none 0 []) := by
  intro w0 B R w h
  replace h : Sat w0 B (HA.blk g (.cells #[.pointer (if u then some ⟨g, 0, none⟩ else none), .slice ad bs.length cap] 52) :: HA.buf (.slice ad bs.length cap) 5 bs.length (bs.map Uv) :: R) w := h
  refine calls_of_ES TB Try.func30 rfl _ Try.ntmps30 rfl h ?_
  repeat (first | apply ES.seq | apply ES.skip | apply ES.region | apply EL.nil | apply ES.block | apply ES.nil | apply ES.exit | apply ES.ret | apply PX.hit | (apply PX.miss; exact rfl) | apply PX.then_x | apply PX.then_r | apply PX.block_n | apply PX.block_r | refine PX.then_n (e := .normal) ?_)
  refine EL.move rfl rfl rfl ?_
  refine EL.nilCheck rfl rfl rfl ?_
  refine EL.fieldAddr rfl rfl rfl rfl rfl rfl rfl rfl ?_
  (apply EL.storeB; exact rfl; exact rfl; exact rfl; exact rfl; exact rfl; exact rfl; (case p => (repeat (first | exact PickSet.here _ _ _ | apply PickSet.there))); exact (by first | decide | simp))
  repeat (first | apply ES.seq | apply ES.skip | apply ES.region | apply EL.nil | apply ES.block | apply ES.nil | apply ES.exit | apply ES.ret | apply PX.hit | (apply PX.miss; exact rfl) | apply PX.then_x | apply PX.then_r | apply PX.block_n | apply PX.block_r | refine PX.then_n (e := .normal) ?_)
  refine EL.move rfl rfl rfl ?_
  refine EL.nilCheck rfl rfl rfl ?_
  refine EL.fieldAddr rfl rfl rfl rfl rfl rfl rfl rfl ?_
  (apply EL.storeB; exact rfl; exact rfl; exact rfl; exact rfl; exact rfl; exact rfl; (case p => (repeat (first | exact PickSet.here _ _ _ | apply PickSet.there))); exact (by first | decide | simp))
  repeat (first | apply ES.seq | apply ES.skip | apply ES.region | apply EL.nil | apply ES.block | apply ES.nil | apply ES.exit | apply ES.ret | apply PX.hit | (apply PX.miss; exact rfl) | apply PX.then_x | apply PX.then_r | apply PX.block_n | apply PX.block_r | refine PX.then_n (e := .normal) ?_)
  exact PX.end rfl Try.results30 .nil (fun w hs => ⟨(), rfl, (hs.nilBuf 5).ent (by repeat (first | exact Ent.nil _ | exact Ent.refl _ | (apply Ent.cons; case p => repeat (first | exact Pick.here _ _ | apply Pick.there)) | apply Ent.drop))⟩)
end Go.Proofs.Ytjjifcfcomhdcaa
