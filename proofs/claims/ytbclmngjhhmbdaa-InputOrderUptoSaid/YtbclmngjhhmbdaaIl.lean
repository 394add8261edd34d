/- Layer 23 (input): the law InputOrder: lines come out as they went in. -/
import Derived.Test.YtbclmngjhhmbdaaIk
namespace Go.Proofs.Ytbclmngjhhmbdaa
open Go Go.RowKit Sl
set_option maxRecDepth 100000
set_option maxHeartbeats 8000000
set_option linter.unusedVariables false
set_option linter.unusedSimpArgs false
attribute [local irreducible] ES EL PX wps

structure OS where
  s : QS
  ins : LL
  outs : LL
  qa : Option Addr
  qe : Nat
  ia : Option Addr
  ie : Nat
  oa : Option Addr
  oe : Nat
def OH (g : Nat) (x : OS) : List HA := HA.row (.slice x.ia x.ins.length x.ie) 9 1 x.ins.length (x.ins.map Sv) :: HA.row (.slice x.oa x.outs.length x.oe) 9 1 x.outs.length (x.outs.map Sv) :: HQ g x.qa x.qe x.s
theorem order_c (ad : Option Addr) (cap : Nat) (ls : LL) (bd : Option Addr) (bcap : Nat) (ts : List UInt8) (hn : ls.length ≤ 1048576) (w : World) (hrd : Rd w w.heap.size ad (ls.map Sv)) (hrt : Rd w w.heap.size bd (ts.map Uv)) :
    Pure Try.prog 8 #[.slice ad ls.length cap, .slice bd ts.length bcap] (fun _ : Unit => .bool true) (fun _ => []) w := by
  refine calls_of_ES TB Try.func8 rfl _ Try.ntmps8 rfl (Sat.start w) ?_
  repeat (first | apply ES.seq | apply ES.skip | apply ES.region | apply EL.nil | apply ES.block | apply ES.nil | apply ES.exit | apply ES.ret | apply PX.hit | (apply PX.miss; exact rfl) | apply PX.then_x | apply PX.then_r | apply PX.block_n | apply PX.block_r | refine PX.then_n (e := .normal) ?_)
  refine EL.assign rfl rfl rfl ?_
  repeat (first | apply ES.seq | apply ES.skip | apply ES.region | apply EL.nil | apply ES.block | apply ES.nil | apply ES.exit | apply ES.ret | apply PX.hit | (apply PX.miss; exact rfl) | apply PX.then_x | apply PX.then_r | apply PX.block_n | apply PX.block_r | refine PX.then_n (e := .normal) ?_)
  refine EL.callP rfl rfl rfl ent18 rfl awake23_c ?_
  refine EL.not rfl rfl rfl ?_
  repeat (first | apply ES.seq | apply ES.skip | apply ES.region | apply EL.nil | apply ES.block | apply ES.nil | apply ES.exit | apply ES.ret | apply PX.hit | (apply PX.miss; exact rfl) | apply PX.then_x | apply PX.then_r | apply PX.block_n | apply PX.block_r | refine PX.then_n (e := .normal) ?_)
  repeat (first | apply ES.seq | apply ES.skip | apply ES.region | apply EL.nil | apply ES.block | apply ES.nil | apply ES.exit | apply ES.ret | apply PX.hit | (apply PX.miss; exact rfl) | apply PX.then_x | apply PX.then_r | apply PX.block_n | apply PX.block_r | refine PX.then_n (e := .normal) ?_)
  refine ES.condF rfl ?_
  repeat (first | apply ES.seq | apply ES.skip | apply ES.region | apply EL.nil | apply ES.block | apply ES.nil | apply ES.exit | apply ES.ret | apply PX.hit | (apply PX.miss; exact rfl) | apply PX.then_x | apply PX.then_r | apply PX.block_n | apply PX.block_r | refine PX.then_n (e := .normal) ?_)
  (refine EL.callX rfl rfl rfl ent17 rfl qnew_c ?_; intro g)
  refine EL.assign rfl rfl rfl ?_
  repeat (first | apply ES.seq | apply ES.skip | apply ES.region | apply EL.nil | apply ES.block | apply ES.nil | apply ES.exit | apply ES.ret | apply PX.hit | (apply PX.miss; exact rfl) | apply PX.then_x | apply PX.then_r | apply PX.block_n | apply PX.block_r | refine PX.then_n (e := .normal) ?_)
  refine EL.assign rfl rfl rfl ?_
  refine EL.assign rfl rfl rfl ?_
  repeat (first | apply ES.seq | apply ES.skip | apply ES.region | apply EL.nil | apply ES.block | apply ES.nil | apply ES.exit | apply ES.ret | apply PX.hit | (apply PX.miss; exact rfl) | apply PX.then_x | apply PX.then_r | apply PX.block_n | apply PX.block_r | refine PX.then_n (e := .normal) ?_)
  refine EL.move rfl rfl rfl ?_
  refine EL.eqlPn rfl rfl rfl rfl rfl rfl ?_
  repeat (first | apply ES.seq | apply ES.skip | apply ES.region | apply EL.nil | apply ES.block | apply ES.nil | apply ES.exit | apply ES.ret | apply PX.hit | (apply PX.miss; exact rfl) | apply PX.then_x | apply PX.then_r | apply PX.block_n | apply PX.block_r | refine PX.then_n (e := .normal) ?_)
  repeat (first | apply ES.seq | apply ES.skip | apply ES.region | apply EL.nil | apply ES.block | apply ES.nil | apply ES.exit | apply ES.ret | apply PX.hit | (apply PX.miss; exact rfl) | apply PX.then_x | apply PX.then_r | apply PX.block_n | apply PX.block_r | refine PX.then_n (e := .normal) ?_)
  refine ES.condF rfl ?_
  repeat (first | apply ES.seq | apply ES.skip | apply ES.region | apply EL.nil | apply ES.block | apply ES.nil | apply ES.exit | apply ES.ret | apply PX.hit | (apply PX.miss; exact rfl) | apply PX.then_x | apply PX.then_r | apply PX.block_n | apply PX.block_r | refine PX.then_n (e := .normal) ?_)
  refine EL.move rfl rfl rfl ?_
  refine EL.lenL rfl rfl rfl rfl rfl ?_
  refine EL.move rfl rfl rfl ?_
  repeat (first | apply ES.seq | apply ES.skip | apply ES.region | apply EL.nil | apply ES.block | apply ES.nil | apply ES.exit | apply ES.ret | apply PX.hit | (apply PX.miss; exact rfl) | apply PX.then_x | apply PX.then_r | apply PX.block_n | apply PX.block_r | refine PX.then_n (e := .normal) ?_)
  refine ES.nilRow 9 1 ?_
  refine ES.nilRow 9 1 ?_
  refine ES.loop (σ := Nat × OS) (fun (i, x) => i ≤ ls.length ∧ OI i x.s x.ins x.outs) (fun (i, x) => [(1, .slice bd ts.length bcap), (5, Pv g 0), (6, .slice x.ia x.ins.length x.ie), (7, .slice x.oa x.outs.length x.oe), (21, .slice ad ls.length cap), (22, Iv ls.length), (23, Iv i)]) (fun (i, x) => OH g x) (fun (i, x) => ls.length - i) (0, ⟨⟨[], 0, false⟩, [], [], none, 0, none, 0, none, 0⟩) ⟨Nat.zero_le _, ⟨rfl, rfl, rfl, fun h => absurd rfl h, Nat.le_refl _, by simp [QS.bytes]⟩⟩ ⟨rfl, rfl, rfl, rfl, rfl, rfl, rfl, trivial⟩ (by repeat (first | exact Ent.nil _ | exact Ent.refl _ | (apply Ent.cons; case p => repeat (first | exact Pick.here _ _ | apply Pick.there)) | apply Ent.drop)) ?_
  rintro ⟨i, x⟩ ⟨hi, hI⟩
  dsimp only at hi hI ⊢
  repeat (first | apply ES.seq | apply ES.skip | apply ES.region | apply EL.nil | apply ES.block | apply ES.nil | apply ES.exit | apply ES.ret | apply PX.hit | (apply PX.miss; exact rfl) | apply PX.then_x | apply PX.then_r | apply PX.block_n | apply PX.block_r | refine PX.then_n (e := .normal) ?_)
  refine EL.lss rfl rfl rfl rfl ?_
  repeat (first | apply ES.seq | apply ES.skip | apply ES.region | apply EL.nil | apply ES.block | apply ES.nil | apply ES.exit | apply ES.ret | apply PX.hit | (apply PX.miss; exact rfl) | apply PX.then_x | apply PX.then_r | apply PX.block_n | apply PX.block_r | refine PX.then_n (e := .normal) ?_)
  refine ES.condD rfl (fun hlt => ?_) (fun hge => ?_)
  · have hlt' : i < ls.length := by omega
    have hsm := hI.small (by omega)
    obtain ⟨l, hl⟩ : ∃ l, l = ls.getD i [] := ⟨_, rfl⟩
    have hget : (ls.map Sv)[i]? = some (Sv l) := by rw [hl]; exact getElem?_map Sv ls i [] hlt'
    have hrd' := hrd
    obtain ⟨ga, oa, rfl, _⟩ := hrd' (fun e => by rw [e] at hget; simp at hget)
    have hF := hI.feed l
    have hil : x.ins.length ≤ 1048576 := by have := hI.n; omega
    have fc := feed_c g x.qa x.qe x.s l hsm
    repeat (first | apply ES.seq | apply ES.skip | apply ES.region | apply EL.nil | apply ES.block | apply ES.nil | apply ES.exit | apply ES.ret | apply PX.hit | (apply PX.miss; exact rfl) | apply PX.then_x | apply PX.then_r | apply PX.block_n | apply PX.block_r | refine PX.then_n (e := .normal) ?_)
    refine EL.move rfl rfl rfl ?_
    refine EL.indexAddrLo rfl rfl rfl rfl rfl rfl rfl rfl hlt' ?_
    refine EL.loadOld rfl rfl rfl rfl rfl hrd hget ?_
    refine EL.assign rfl rfl rfl ?_
    refine EL.assign rfl rfl rfl ?_
    repeat (first | apply ES.seq | apply ES.skip | apply ES.region | apply EL.nil | apply ES.block | apply ES.nil | apply ES.exit | apply ES.ret | apply PX.hit | (apply PX.miss; exact rfl) | apply PX.then_x | apply PX.then_r | apply PX.block_n | apply PX.block_r | refine PX.then_n (e := .normal) ?_)
    refine EL.move rfl rfl rfl ?_
    refine EL.move rfl rfl rfl ?_
    (refine EL.callM rfl rfl rfl ent19 rfl fc (by repeat (first | exact Takes.nil _ | (apply Takes.cons; case p => repeat (first | exact Pick.here _ _ | apply Pick.there)))) ?_; intro x30)
    refine EL.eqlI rfl rfl rfl rfl ?_
    repeat (first | apply ES.seq | apply ES.skip | apply ES.region | apply EL.nil | apply ES.block | apply ES.nil | apply ES.exit | apply ES.ret | apply PX.hit | (apply PX.miss; exact rfl) | apply PX.then_x | apply PX.then_r | apply PX.block_n | apply PX.block_r | refine PX.then_n (e := .normal) ?_)
    refine ES.cutC (X := { x' : OS // OI (i + 1) x'.s x'.ins x'.outs }) (fun x' => [(8, Iv i), (1, .slice bd ts.length bcap), (5, Pv g 0), (6, .slice x'.1.ia x'.1.ins.length x'.1.ie), (7, .slice x'.1.oa x'.1.outs.length x'.1.oe), (21, .slice (some ⟨ga, oa, none⟩) ls.length cap), (22, Iv ls.length), (23, Iv i)]) (fun x' => OH g x'.1) ?_ (fun x1 => ?_)
    · refine ES.condD rfl (fun hz => ?_) (fun hz => ?_)
      · rw [if_pos hz] at hF
        have e1 : x.ins.length + 1 = (x.ins ++ [l]).length := by simp
        repeat (first | apply ES.seq | apply ES.skip | apply ES.region | apply EL.nil | apply ES.block | apply ES.nil | apply ES.exit | apply ES.ret | apply PX.hit | (apply PX.miss; exact rfl) | apply PX.then_x | apply PX.then_r | apply PX.block_n | apply PX.block_r | refine PX.then_n (e := .normal) ?_)
        refine EL.move rfl rfl rfl ?_
        refine EL.move rfl rfl rfl ?_
        (refine EL.buildSlice1 rfl rfl rfl rfl rfl rfl rfl rfl rfl rfl ?_; intro b34)
        (refine EL.append1 rfl rfl rfl rfl rfl rfl rfl rfl rfl (by repeat (first | exact Mem.here _ _ | apply Mem.there)) (by repeat (first | exact Pick.here _ _ | apply Pick.there)) (by intro u hu; simp [Value.cells] at hu; subst hu; rfl) (by rfl) (by unfold maxLen; omega) (by first | omega | (show 1 * _ ≤ _; omega) | (show 8 * _ ≤ _; omega) | (show 16 * _ ≤ _; omega) | (show 24 * _ ≤ _; omega) | (show _ * 1 ≤ _; omega) | (show _ * 8 ≤ _; omega) | (show _ * 16 ≤ _; omega) | (show _ * 24 ≤ _; omega)) ?_; intro a35 c35)
        refine EL.assign rfl rfl rfl ?_
        repeat (first | apply ES.seq | apply ES.skip | apply ES.region | apply EL.nil | apply ES.block | apply ES.nil | apply ES.exit | apply ES.ret | apply PX.hit | (apply PX.miss; exact rfl) | apply PX.then_x | apply PX.then_r | apply PX.block_n | apply PX.block_r | refine PX.then_n (e := .normal) ?_)
        have e2 : x.ins.map Sv ++ [Sv l] = (x.ins ++ [l]).map Sv := by simp
        refine PX.cutX ⟨⟨(feedM x.s l).2, x.ins ++ [l], x.outs, x30.1, x30.2, some ⟨a35, 0, none⟩, c35, x.oa, x.oe⟩, hF⟩ ⟨rfl, rfl, rfl, getA rfl (by rw [e1]), rfl, rfl, rfl, rfl, trivial⟩ ?_
        simp only [OH]
        rw [← e1, ← e2]
        exact (by repeat (first | exact Ent.nil _ | exact Ent.refl _ | (apply Ent.cons; case p => repeat (first | exact Pick.here _ _ | apply Pick.there)) | apply Ent.drop))
      · rw [if_neg hz] at hF
        repeat (first | apply ES.seq | apply ES.skip | apply ES.region | apply EL.nil | apply ES.block | apply ES.nil | apply ES.exit | apply ES.ret | apply PX.hit | (apply PX.miss; exact rfl) | apply PX.then_x | apply PX.then_r | apply PX.block_n | apply PX.block_r | refine PX.then_n (e := .normal) ?_)
        exact PX.cutX ⟨⟨(feedM x.s l).2, x.ins, x.outs, x30.1, x30.2, x.ia, x.ie, x.oa, x.oe⟩, hF⟩ ⟨rfl, rfl, rfl, rfl, rfl, rfl, rfl, rfl, trivial⟩ (by repeat (first | exact Ent.nil _ | exact Ent.refl _ | (apply Ent.cons; case p => repeat (first | exact Pick.here _ _ | apply Pick.there)) | apply Ent.drop))
    clear fc hF hsm hI hget hil
    obtain ⟨x, hI⟩ := x1
    dsimp only at hI ⊢
    have hsm := hI.small (by omega)
    have hil : x.ins.length ≤ 1048577 := by have := hI.n; omega
    have hio := congrArg List.length hI.io
    rw [List.length_append] at hio
    repeat (first | apply ES.seq | apply ES.skip | apply EL.nil | apply ES.block | apply ES.nil | apply ES.exit | apply ES.ret | apply PX.hit | (apply PX.miss; exact rfl) | apply PX.then_x | apply PX.then_r | apply PX.block_n | apply PX.block_r | refine PX.then_n (e := .normal) ?_)
    refine ES.cutX (X := Bool) (fun b => [(47, .bool b), (1, .slice bd ts.length bcap), (5, Pv g 0), (6, .slice x.ia x.ins.length x.ie), (7, .slice x.oa x.outs.length x.oe), (21, .slice (some ⟨ga, oa, none⟩) ls.length cap), (22, Iv ls.length), (23, Iv i)]) (fun _ => OH g x) ?_ (fun b => ?_)
    · repeat (first | apply ES.seq | apply ES.skip | apply ES.region | apply EL.nil | apply ES.block | apply ES.nil | apply ES.exit | apply ES.ret | apply PX.hit | (apply PX.miss; exact rfl) | apply PX.then_x | apply PX.then_r | apply PX.block_n | apply PX.block_r | refine PX.then_n (e := .normal) ?_)
      refine EL.move rfl rfl rfl ?_
      refine EL.move rfl rfl rfl ?_
      refine EL.lenL rfl rfl rfl rfl rfl ?_
      refine EL.lss rfl rfl rfl rfl ?_
      refine EL.move rfl rfl rfl ?_
      first | refine EL.splitD (d := 40) rfl (fun hp40 => ?_) (fun hp40 => ?_) | refine EL.splitN (d := 40) rfl (fun hp40 => ?_) (fun hp40 => ?_) | refine EL.splitB (d := 40) rfl (fun hp40 => ?_) (fun hp40 => ?_)
      · refine EL.move rfl rfl rfl ?_
        refine EL.move rfl rfl rfl ?_
        (obtain ⟨gt, ot, rfl, _⟩ := hrt (by intro e; rw [List.map_eq_nil_iff] at e; subst e; simp at hp40; omega); refine EL.indexAddrLo rfl rfl rfl rfl rfl rfl rfl rfl (by omega) ?_)
        refine EL.loadOld (v := Uv (ts.getD i 0)) rfl rfl rfl rfl rfl hrt (getElem?_map Uv ts i 0 (by omega)) ?_
        refine EL.remN (n := 2) rfl rfl rfl rfl (by omega) ?_
        refine EL.eqlI rfl rfl rfl rfl ?_
        refine EL.pickT rfl rfl rfl rfl ?_
        exact EL.endX _ ⟨rfl, rfl, rfl, rfl, rfl, rfl, rfl, rfl, trivial⟩ (by repeat (first | exact Ent.nil _ | exact Ent.refl _ | (apply Ent.cons; case p => repeat (first | exact Pick.here _ _ | apply Pick.there)) | apply Ent.drop))
      · refine EL.pass rfl rfl rfl ?_
        refine EL.pass rfl rfl rfl ?_
        refine EL.pass rfl rfl rfl ?_
        refine EL.pass rfl rfl rfl ?_
        refine EL.pass rfl rfl rfl ?_
        refine EL.pass rfl rfl rfl ?_
        refine EL.pickF rfl rfl rfl rfl ?_
        exact EL.endX _ ⟨rfl, rfl, rfl, rfl, rfl, rfl, rfl, rfl, trivial⟩ (by repeat (first | exact Ent.nil _ | exact Ent.refl _ | (apply Ent.cons; case p => repeat (first | exact Pick.here _ _ | apply Pick.there)) | apply Ent.drop))
    have nc := next_c g x.qa x.qe x.s hsm
    have hN := hI.next
    refine ES.cutC (X := { x' : OS // OI (i + 1) x'.s x'.ins x'.outs }) (fun x' => [(1, .slice bd ts.length bcap), (5, Pv g 0), (6, .slice x'.1.ia x'.1.ins.length x'.1.ie), (7, .slice x'.1.oa x'.1.outs.length x'.1.oe), (21, .slice (some ⟨ga, oa, none⟩) ls.length cap), (22, Iv ls.length), (23, Iv i)]) (fun x' => OH g x'.1) ?_ (fun x1 => ?_)
    · refine ES.cond rfl (fun hb => ?_) (fun hb => ?_)
      · repeat (first | apply ES.seq | apply ES.skip | apply ES.region | apply EL.nil | apply ES.block | apply ES.nil | apply ES.exit | apply ES.ret | apply PX.hit | (apply PX.miss; exact rfl) | apply PX.then_x | apply PX.then_r | apply PX.block_n | apply PX.block_r | refine PX.then_n (e := .normal) ?_)
        refine EL.move rfl rfl rfl ?_
        (refine EL.callM rfl rfl rfl ent23 rfl nc (by repeat (first | exact Takes.nil _ | (apply Takes.cons; case p => repeat (first | exact Pick.here _ _ | apply Pick.there)))) ?_; intro x50)
        refine EL.move rfl rfl rfl ?_
        refine EL.extract rfl rfl rfl rfl ?_
        refine EL.extract rfl rfl rfl rfl ?_
        refine EL.assign rfl rfl rfl ?_
        refine EL.assign rfl rfl rfl ?_
        repeat (first | apply ES.seq | apply ES.skip | apply ES.region | apply EL.nil | apply ES.block | apply ES.nil | apply ES.exit | apply ES.ret | apply PX.hit | (apply PX.miss; exact rfl) | apply PX.then_x | apply PX.then_r | apply PX.block_n | apply PX.block_r | refine PX.then_n (e := .normal) ?_)
        refine EL.move rfl rfl rfl ?_
        repeat (first | apply ES.seq | apply ES.skip | apply ES.region | apply EL.nil | apply ES.block | apply ES.nil | apply ES.exit | apply ES.ret | apply PX.hit | (apply PX.miss; exact rfl) | apply PX.then_x | apply PX.then_r | apply PX.block_n | apply PX.block_r | refine PX.then_n (e := .normal) ?_)
        refine ES.cond rfl (fun hz => ?_) (fun hz => ?_)
        · rw [if_pos hz] at hN
          have e1 : x.outs.length + 1 = (x.outs ++ [(nextM x.s).1]).length := by simp
          have e2 : x.outs.map Sv ++ [Sv (nextM x.s).1] = (x.outs ++ [(nextM x.s).1]).map Sv := by simp
          repeat (first | apply ES.seq | apply ES.skip | apply ES.region | apply EL.nil | apply ES.block | apply ES.nil | apply ES.exit | apply ES.ret | apply PX.hit | (apply PX.miss; exact rfl) | apply PX.then_x | apply PX.then_r | apply PX.block_n | apply PX.block_r | refine PX.then_n (e := .normal) ?_)
          refine EL.move rfl rfl rfl ?_
          refine EL.move rfl rfl rfl ?_
          (refine EL.buildSlice1 rfl rfl rfl rfl rfl rfl rfl rfl rfl rfl ?_; intro b56)
          (refine EL.append1 rfl rfl rfl rfl rfl rfl rfl rfl rfl (by repeat (first | exact Mem.here _ _ | apply Mem.there)) (by repeat (first | exact Pick.here _ _ | apply Pick.there)) (by intro u hu; simp [Value.cells] at hu; subst hu; rfl) (by rfl) (by unfold maxLen; omega) (by first | omega | (show 1 * _ ≤ _; omega) | (show 8 * _ ≤ _; omega) | (show 16 * _ ≤ _; omega) | (show 24 * _ ≤ _; omega) | (show _ * 1 ≤ _; omega) | (show _ * 8 ≤ _; omega) | (show _ * 16 ≤ _; omega) | (show _ * 24 ≤ _; omega)) ?_; intro a57 c57)
          refine EL.assign rfl rfl rfl ?_
          repeat (first | apply ES.seq | apply ES.skip | apply ES.region | apply EL.nil | apply ES.block | apply ES.nil | apply ES.exit | apply ES.ret | apply PX.hit | (apply PX.miss; exact rfl) | apply PX.then_x | apply PX.then_r | apply PX.block_n | apply PX.block_r | refine PX.then_n (e := .normal) ?_)
          refine PX.cutX ⟨⟨(nextM x.s).2.2, x.ins, x.outs ++ [(nextM x.s).1], x50.1, x50.2, x.ia, x.ie, some ⟨a57, 0, none⟩, c57⟩, hN⟩ ⟨rfl, rfl, rfl, getA rfl (by rw [e1]), rfl, rfl, rfl, trivial⟩ ?_
          simp only [OH]
          rw [← e1, ← e2]
          exact (by repeat (first | exact Ent.nil _ | exact Ent.refl _ | (apply Ent.cons; case p => repeat (first | exact Pick.here _ _ | apply Pick.there)) | apply Ent.drop))
        · rw [hz] at hN
          repeat (first | apply ES.seq | apply ES.skip | apply ES.region | apply EL.nil | apply ES.block | apply ES.nil | apply ES.exit | apply ES.ret | apply PX.hit | (apply PX.miss; exact rfl) | apply PX.then_x | apply PX.then_r | apply PX.block_n | apply PX.block_r | refine PX.then_n (e := .normal) ?_)
          exact PX.cutX ⟨⟨(nextM x.s).2.2, x.ins, x.outs, x50.1, x50.2, x.ia, x.ie, x.oa, x.oe⟩, hN⟩ ⟨rfl, rfl, rfl, rfl, rfl, rfl, rfl, trivial⟩ (by repeat (first | exact Ent.nil _ | exact Ent.refl _ | (apply Ent.cons; case p => repeat (first | exact Pick.here _ _ | apply Pick.there)) | apply Ent.drop))
      · repeat (first | apply ES.seq | apply ES.skip | apply ES.region | apply EL.nil | apply ES.block | apply ES.nil | apply ES.exit | apply ES.ret | apply PX.hit | (apply PX.miss; exact rfl) | apply PX.then_x | apply PX.then_r | apply PX.block_n | apply PX.block_r | refine PX.then_n (e := .normal) ?_)
        exact PX.cutX ⟨x, hI⟩ ⟨rfl, rfl, rfl, rfl, rfl, rfl, rfl, trivial⟩ (by repeat (first | exact Ent.nil _ | exact Ent.refl _ | (apply Ent.cons; case p => repeat (first | exact Pick.here _ _ | apply Pick.there)) | apply Ent.drop))
    clear nc hN hsm hI hil hio
    obtain ⟨x, hI⟩ := x1
    dsimp only at hI ⊢
    have hil : x.ins.length ≤ 1048577 := by have := hI.n; omega
    have hio := congrArg List.length hI.io
    rw [List.length_append] at hio
    have htk := hI.tk
    have hne := hI.ne
    repeat (first | apply ES.seq | apply ES.skip | apply EL.nil | apply ES.block | apply ES.nil | apply ES.exit | apply ES.ret | apply PX.hit | (apply PX.miss; exact rfl) | apply PX.then_x | apply PX.then_r | apply PX.block_n | apply PX.block_r | refine PX.then_n (e := .normal) ?_)
    refine ES.cutR [(84, .bool false), (1, .slice bd ts.length bcap), (5, Pv g 0), (6, .slice x.ia x.ins.length x.ie), (7, .slice x.oa x.outs.length x.oe), (21, .slice (some ⟨ga, oa, none⟩) ls.length cap), (22, Iv ls.length), (23, Iv i)] (OH g x) ?_ ?_
    · repeat (first | apply ES.seq | apply ES.skip | apply ES.region | apply EL.nil | apply ES.block | apply ES.nil | apply ES.exit | apply ES.ret | apply PX.hit | (apply PX.miss; exact rfl) | apply PX.then_x | apply PX.then_r | apply PX.block_n | apply PX.block_r | refine PX.then_n (e := .normal) ?_)
      refine EL.move rfl rfl rfl ?_
      refine EL.callM1 rfl rfl rfl ent29 rfl (number_c g x.qa x.qe x.s) (by repeat (first | exact Takes.nil _ | (apply Takes.cons; case p => repeat (first | exact Pick.here _ _ | apply Pick.there)))) ?_
      refine EL.move rfl rfl rfl ?_
      refine EL.lenL rfl rfl rfl rfl rfl ?_
      refine EL.neqI rfl rfl rfl rfl ?_
      refine EL.move rfl rfl rfl ?_
      refine EL.rew (d := 63) (v' := .bool false) rfl (by simp [htk]) ?_
      refine EL.move rfl rfl rfl ?_
      refine EL.callM1 rfl rfl rfl ent30 rfl (waiting_c g x.qa x.qe x.s) (by repeat (first | exact Takes.nil _ | (apply Takes.cons; case p => repeat (first | exact Pick.here _ _ | apply Pick.there)))) ?_
      refine EL.move rfl rfl rfl ?_
      refine EL.lenL rfl rfl rfl rfl rfl ?_
      refine EL.move rfl rfl rfl ?_
      refine EL.lenL rfl rfl rfl rfl rfl ?_
      refine EL.subN rfl rfl rfl rfl rfl (by omega) (by omega) ?_
      refine EL.neqI rfl rfl rfl rfl ?_
      refine EL.pickF rfl rfl rfl rfl ?_
      refine EL.move rfl rfl rfl ?_
      refine EL.rew (d := 73) (v' := .bool false) rfl (by simp; omega) ?_
      refine EL.move rfl rfl rfl ?_
      refine EL.lenL rfl rfl rfl rfl rfl ?_
      refine EL.gtr rfl rfl rfl rfl ?_
      refine EL.move rfl rfl rfl ?_
      first | refine EL.splitD (d := 77) rfl (fun hp77 => ?_) (fun hp77 => ?_) | refine EL.splitN (d := 77) rfl (fun hp77 => ?_) (fun hp77 => ?_) | refine EL.splitB (d := 77) rfl (fun hp77 => ?_) (fun hp77 => ?_)
      · refine EL.move rfl rfl rfl ?_
        refine EL.lenL rfl rfl rfl rfl rfl ?_
        refine EL.move rfl rfl rfl ?_
        refine EL.lenL rfl rfl rfl rfl rfl ?_
        refine EL.geq rfl rfl rfl rfl ?_
        refine EL.pickT rfl rfl rfl rfl ?_
        refine EL.pickF rfl rfl rfl rfl ?_
        exact EL.endK ⟨getB rfl (by first | rfl | (have hp := hne (by intro e; rw [e] at hp77; simp at hp77); simp; omega)), rfl, rfl, rfl, rfl, rfl, rfl, rfl, trivial⟩ (by repeat (first | exact Ent.nil _ | exact Ent.refl _ | (apply Ent.cons; case p => repeat (first | exact Pick.here _ _ | apply Pick.there)) | apply Ent.drop))
      · refine EL.pass rfl rfl rfl ?_
        refine EL.pass rfl rfl rfl ?_
        refine EL.pass rfl rfl rfl ?_
        refine EL.pass rfl rfl rfl ?_
        refine EL.pass rfl rfl rfl ?_
        refine EL.pickF rfl rfl rfl rfl ?_
        refine EL.pickF rfl rfl rfl rfl ?_
        exact EL.endK ⟨getB rfl (by first | rfl | (have hp := hne (by intro e; rw [e] at hp77; simp at hp77); simp; omega)), rfl, rfl, rfl, rfl, rfl, rfl, rfl, trivial⟩ (by repeat (first | exact Ent.nil _ | exact Ent.refl _ | (apply Ent.cons; case p => repeat (first | exact Pick.here _ _ | apply Pick.there)) | apply Ent.drop))
    refine ES.condF rfl ?_
    repeat (first | apply ES.seq | apply ES.skip | apply ES.region | apply EL.nil | apply ES.block | apply ES.nil | apply ES.exit | apply ES.ret | apply PX.hit | (apply PX.miss; exact rfl) | apply PX.then_x | apply PX.then_r | apply PX.block_n | apply PX.block_r | refine PX.then_n (e := .normal) ?_)
    refine EL.add1 rfl rfl rfl rfl (by omega) ?_
    refine EL.move rfl rfl rfl ?_
    repeat (first | apply ES.seq | apply ES.skip | apply ES.region | apply EL.nil | apply ES.block | apply ES.nil | apply ES.exit | apply ES.ret | apply PX.hit | (apply PX.miss; exact rfl) | apply PX.then_x | apply PX.then_r | apply PX.block_n | apply PX.block_r | refine PX.then_n (e := .normal) ?_)
    exact PX.loop (i + 1, x) ⟨by simp only; omega, hI⟩ (by simp only; omega) ⟨rfl, rfl, rfl, rfl, rfl, rfl, rfl, trivial⟩ (by repeat (first | exact Ent.nil _ | exact Ent.refl _ | (apply Ent.cons; case p => repeat (first | exact Pick.here _ _ | apply Pick.there)) | apply Ent.drop))
  · have hcl : closeM x.s = (0, ⟨x.s.ls, x.s.taken, true⟩) := by simp [closeM, hI.op]
    have c1 := close_c g x.qa x.qe x.s
    rw [hcl] at c1
    have c2 := close_c g x.qa x.qe ⟨x.s.ls, x.s.taken, true⟩
    obtain ⟨N, hN⟩ : ∃ N, N = x.ins.length := ⟨_, rfl⟩
    have hOC : OC 0 ⟨x.s.ls, x.s.taken, true⟩ x.ins x.outs := by
      have h1 := congrArg List.length hI.io
      rw [List.length_append] at h1
      exact ⟨hI.io, rfl, by simp only; omega, hI.tk, by have := hI.b; have := hI.n; show QS.bytes x.s ≤ _; omega, by have := hI.n; omega⟩
    repeat (first | apply ES.seq | apply ES.skip | apply ES.region | apply EL.nil | apply ES.block | apply ES.nil | apply ES.exit | apply ES.ret | apply PX.hit | (apply PX.miss; exact rfl) | apply PX.then_x | apply PX.then_r | apply PX.block_n | apply PX.block_r | refine PX.then_n (e := .normal) ?_)
    refine EL.move rfl rfl rfl ?_
    refine EL.callM1 rfl rfl rfl ent21 rfl c1 (by repeat (first | exact Takes.nil _ | (apply Takes.cons; case p => repeat (first | exact Pick.here _ _ | apply Pick.there)))) ?_
    refine EL.neqI rfl rfl rfl rfl ?_
    refine EL.move rfl rfl rfl ?_
    refine EL.rew (d := 89) (v' := .bool false) rfl (by first | rfl | (decide) | (simp)) ?_
    refine EL.move rfl rfl rfl ?_
    refine EL.callM1 rfl rfl rfl ent21 rfl c2 (by repeat (first | exact Takes.nil _ | (apply Takes.cons; case p => repeat (first | exact Pick.here _ _ | apply Pick.there)))) ?_
    refine EL.neqI rfl rfl rfl rfl ?_
    refine EL.pickF rfl rfl rfl rfl ?_
    repeat (first | apply ES.seq | apply ES.skip | apply ES.region | apply EL.nil | apply ES.block | apply ES.nil | apply ES.exit | apply ES.ret | apply PX.hit | (apply PX.miss; exact rfl) | apply PX.then_x | apply PX.then_r | apply PX.block_n | apply PX.block_r | refine PX.then_n (e := .normal) ?_)
    refine ES.condK false rfl rfl ?_
    repeat (first | apply ES.seq | apply ES.skip | apply ES.region | apply EL.nil | apply ES.block | apply ES.nil | apply ES.exit | apply ES.ret | apply PX.hit | (apply PX.miss; exact rfl) | apply PX.then_x | apply PX.then_r | apply PX.block_n | apply PX.block_r | refine PX.then_n (e := .normal) ?_)
    refine EL.move rfl rfl rfl ?_
    refine EL.lenL rfl rfl rfl rfl rfl ?_
    refine EL.move rfl rfl rfl ?_
    repeat (first | apply ES.seq | apply ES.skip | apply ES.region | apply EL.nil | apply ES.block | apply ES.nil | apply ES.exit | apply ES.ret | apply PX.hit | (apply PX.miss; exact rfl) | apply PX.then_x | apply PX.then_r | apply PX.block_n | apply PX.block_r | refine PX.then_n (e := .normal) ?_)
    refine ES.loop (σ := Nat × OS) (fun (j, y) => j ≤ N ∧ y.ins.length = N ∧ OC j y.s y.ins y.outs) (fun (j, y) => [(5, Pv g 0), (6, .slice y.ia y.ins.length y.ie), (7, .slice y.oa y.outs.length y.oe), (95, Iv N), (96, Iv j)]) (fun (j, y) => OH g y) (fun (j, y) => N - j) (0, ⟨⟨x.s.ls, x.s.taken, true⟩, x.ins, x.outs, x.qa, x.qe, x.ia, x.ie, x.oa, x.oe⟩) ⟨Nat.zero_le _, hN.symm, hOC⟩ ⟨rfl, rfl, rfl, getA rfl (by rw [hN]), rfl, trivial⟩ (by repeat (first | exact Ent.nil _ | exact Ent.refl _ | (apply Ent.cons; case p => repeat (first | exact Pick.here _ _ | apply Pick.there)) | apply Ent.drop)) ?_
    rintro ⟨j, y⟩ ⟨hj, hyN, hO⟩
    dsimp only at hj hyN hO ⊢
    repeat (first | apply ES.seq | apply ES.skip | apply ES.region | apply EL.nil | apply ES.block | apply ES.nil | apply ES.exit | apply ES.ret | apply PX.hit | (apply PX.miss; exact rfl) | apply PX.then_x | apply PX.then_r | apply PX.block_n | apply PX.block_r | refine PX.then_n (e := .normal) ?_)
    refine EL.lss rfl rfl rfl rfl ?_
    repeat (first | apply ES.seq | apply ES.skip | apply ES.region | apply EL.nil | apply ES.block | apply ES.nil | apply ES.exit | apply ES.ret | apply PX.hit | (apply PX.miss; exact rfl) | apply PX.then_x | apply PX.then_r | apply PX.block_n | apply PX.block_r | refine PX.then_n (e := .normal) ?_)
    refine ES.condD rfl (fun hlt => ?_) (fun hge => ?_)
    · have hlt' : j < N := by omega
      have nc := next_c g y.qa y.qe y.s hO.small
      have hX := hO.next (by omega)
      have hle := congrArg List.length hO.io
      rw [List.length_append] at hle
      have hin := hO.n
      repeat (first | apply ES.seq | apply ES.skip | apply ES.region | apply EL.nil | apply ES.block | apply ES.nil | apply ES.exit | apply ES.ret | apply PX.hit | (apply PX.miss; exact rfl) | apply PX.then_x | apply PX.then_r | apply PX.block_n | apply PX.block_r | refine PX.then_n (e := .normal) ?_)
      refine EL.move rfl rfl rfl ?_
      (refine EL.callM rfl rfl rfl ent23 rfl nc (by repeat (first | exact Takes.nil _ | (apply Takes.cons; case p => repeat (first | exact Pick.here _ _ | apply Pick.there)))) ?_; intro x50)
      refine EL.move rfl rfl rfl ?_
      refine EL.extract rfl rfl rfl rfl ?_
      refine EL.extract rfl rfl rfl rfl ?_
      refine EL.assign rfl rfl rfl ?_
      refine EL.assign rfl rfl rfl ?_
      repeat (first | apply ES.seq | apply ES.skip | apply ES.region | apply EL.nil | apply ES.block | apply ES.nil | apply ES.exit | apply ES.ret | apply PX.hit | (apply PX.miss; exact rfl) | apply PX.then_x | apply PX.then_r | apply PX.block_n | apply PX.block_r | refine PX.then_n (e := .normal) ?_)
      refine EL.move rfl rfl rfl ?_
      repeat (first | apply ES.seq | apply ES.skip | apply ES.region | apply EL.nil | apply ES.block | apply ES.nil | apply ES.exit | apply ES.ret | apply PX.hit | (apply PX.miss; exact rfl) | apply PX.then_x | apply PX.then_r | apply PX.block_n | apply PX.block_r | refine PX.then_n (e := .normal) ?_)
      refine ES.cutC (X := { x' : OS // x'.ins.length = N ∧ OC (j + 1) x'.s x'.ins x'.outs }) (fun x' => [(5, Pv g 0), (6, .slice x'.1.ia x'.1.ins.length x'.1.ie), (7, .slice x'.1.oa x'.1.outs.length x'.1.oe), (95, Iv N), (96, Iv j)]) (fun x' => OH g x'.1) ?_ (fun x1 => ?_)
      · refine ES.cond rfl (fun hz => ?_) (fun hz => ?_)
        · rw [if_pos hz] at hX
          have e1 : y.outs.length + 1 = (y.outs ++ [(nextM y.s).1]).length := by simp
          have e2 : y.outs.map Sv ++ [Sv (nextM y.s).1] = (y.outs ++ [(nextM y.s).1]).map Sv := by simp
          repeat (first | apply ES.seq | apply ES.skip | apply ES.region | apply EL.nil | apply ES.block | apply ES.nil | apply ES.exit | apply ES.ret | apply PX.hit | (apply PX.miss; exact rfl) | apply PX.then_x | apply PX.then_r | apply PX.block_n | apply PX.block_r | refine PX.then_n (e := .normal) ?_)
          refine EL.move rfl rfl rfl ?_
          refine EL.move rfl rfl rfl ?_
          (refine EL.buildSlice1 rfl rfl rfl rfl rfl rfl rfl rfl rfl rfl ?_; intro b106)
          (refine EL.append1 rfl rfl rfl rfl rfl rfl rfl rfl rfl (by repeat (first | exact Mem.here _ _ | apply Mem.there)) (by repeat (first | exact Pick.here _ _ | apply Pick.there)) (by intro u hu; simp [Value.cells] at hu; subst hu; rfl) (by rfl) (by unfold maxLen; omega) (by first | omega | (show 1 * _ ≤ _; omega) | (show 8 * _ ≤ _; omega) | (show 16 * _ ≤ _; omega) | (show 24 * _ ≤ _; omega) | (show _ * 1 ≤ _; omega) | (show _ * 8 ≤ _; omega) | (show _ * 16 ≤ _; omega) | (show _ * 24 ≤ _; omega)) ?_; intro a107 c107)
          refine EL.assign rfl rfl rfl ?_
          repeat (first | apply ES.seq | apply ES.skip | apply ES.region | apply EL.nil | apply ES.block | apply ES.nil | apply ES.exit | apply ES.ret | apply PX.hit | (apply PX.miss; exact rfl) | apply PX.then_x | apply PX.then_r | apply PX.block_n | apply PX.block_r | refine PX.then_n (e := .normal) ?_)
          refine PX.cutX ⟨⟨(nextM y.s).2.2, y.ins, y.outs ++ [(nextM y.s).1], x50.1, x50.2, y.ia, y.ie, some ⟨a107, 0, none⟩, c107⟩, hyN, hX⟩ ⟨rfl, rfl, getA rfl (by rw [e1]), rfl, rfl, trivial⟩ ?_
          simp only [OH]
          rw [← e1, ← e2]
          exact (by repeat (first | exact Ent.nil _ | exact Ent.refl _ | (apply Ent.cons; case p => repeat (first | exact Pick.here _ _ | apply Pick.there)) | apply Ent.drop))
        · rw [hz] at hX
          repeat (first | apply ES.seq | apply ES.skip | apply ES.region | apply EL.nil | apply ES.block | apply ES.nil | apply ES.exit | apply ES.ret | apply PX.hit | (apply PX.miss; exact rfl) | apply PX.then_x | apply PX.then_r | apply PX.block_n | apply PX.block_r | refine PX.then_n (e := .normal) ?_)
          exact PX.cutX ⟨⟨(nextM y.s).2.2, y.ins, y.outs, x50.1, x50.2, y.ia, y.ie, y.oa, y.oe⟩, hyN, hX⟩ ⟨rfl, rfl, rfl, rfl, rfl, trivial⟩ (by repeat (first | exact Ent.nil _ | exact Ent.refl _ | (apply Ent.cons; case p => repeat (first | exact Pick.here _ _ | apply Pick.there)) | apply Ent.drop))
      obtain ⟨y', hy1, hy2⟩ := x1
      dsimp only
      repeat (first | apply ES.seq | apply ES.skip | apply ES.region | apply EL.nil | apply ES.block | apply ES.nil | apply ES.exit | apply ES.ret | apply PX.hit | (apply PX.miss; exact rfl) | apply PX.then_x | apply PX.then_r | apply PX.block_n | apply PX.block_r | refine PX.then_n (e := .normal) ?_)
      refine EL.add1 rfl rfl rfl rfl (by omega) ?_
      refine EL.move rfl rfl rfl ?_
      repeat (first | apply ES.seq | apply ES.skip | apply ES.region | apply EL.nil | apply ES.block | apply ES.nil | apply ES.exit | apply ES.ret | apply PX.hit | (apply PX.miss; exact rfl) | apply PX.then_x | apply PX.then_r | apply PX.block_n | apply PX.block_r | refine PX.then_n (e := .normal) ?_)
      exact PX.loop (j + 1, y') ⟨by simp only; omega, hy1, hy2⟩ (by simp only; omega) ⟨rfl, rfl, rfl, rfl, rfl, trivial⟩ (by repeat (first | exact Ent.nil _ | exact Ent.refl _ | (apply Ent.cons; case p => repeat (first | exact Pick.here _ _ | apply Pick.there)) | apply Ent.drop))
    · have hs0 : y.s.ls = [] := by
        have := hO.left
        exact List.eq_nil_of_length_eq_zero (by omega)
      have hio : y.ins = y.outs := by have := hO.io; rw [hs0] at this; simpa using this
      have hb0 : y.s.bytes = 0 := by simp [QS.bytes, hs0]
      have hl0 : lastM y.s = true := by simp [lastM, hO.cl, hs0]
      have hin := hO.n
      have hno : y.outs.length = N := by rw [← hio]; exact hyN
      have lc := last_c g y.qa y.qe y.s
      rw [hl0] at lc
      have hc := held_c g y.qa y.qe y.s
      rw [hb0] at hc
      repeat (first | apply ES.seq | apply ES.skip | apply ES.region | apply EL.nil | apply ES.block | apply ES.nil | apply ES.exit | apply ES.ret | apply PX.hit | (apply PX.miss; exact rfl) | apply PX.then_x | apply PX.then_r | apply PX.block_n | apply PX.block_r | refine PX.then_n (e := .normal) ?_)
      refine EL.move rfl rfl rfl ?_
      refine EL.lenL rfl rfl rfl rfl rfl ?_
      refine EL.move rfl rfl rfl ?_
      refine EL.lenL rfl rfl rfl rfl rfl ?_
      refine EL.neqI rfl rfl rfl rfl ?_
      refine EL.move rfl rfl rfl ?_
      refine EL.rew (d := 114) (v' := .bool false) rfl (by simp [hio]) ?_
      refine EL.move rfl rfl rfl ?_
      refine EL.callM1 rfl rfl rfl ent27 rfl lc (by repeat (first | exact Takes.nil _ | (apply Takes.cons; case p => repeat (first | exact Pick.here _ _ | apply Pick.there)))) ?_
      refine EL.not rfl rfl rfl ?_
      refine EL.pickF rfl rfl rfl rfl ?_
      refine EL.move rfl rfl rfl ?_
      refine EL.rew (d := 119) (v' := .bool false) rfl (by first | rfl | (decide) | (simp)) ?_
      refine EL.move rfl rfl rfl ?_
      refine EL.callM1 rfl rfl rfl ent32 rfl hc (by repeat (first | exact Takes.nil _ | (apply Takes.cons; case p => repeat (first | exact Pick.here _ _ | apply Pick.there)))) ?_
      refine EL.neqI rfl rfl rfl rfl ?_
      refine EL.pickF rfl rfl rfl rfl ?_
      repeat (first | apply ES.seq | apply ES.skip | apply ES.region | apply EL.nil | apply ES.block | apply ES.nil | apply ES.exit | apply ES.ret | apply PX.hit | (apply PX.miss; exact rfl) | apply PX.then_x | apply PX.then_r | apply PX.block_n | apply PX.block_r | refine PX.then_n (e := .normal) ?_)
      refine ES.condK false rfl rfl ?_
      repeat (first | apply ES.seq | apply ES.skip | apply ES.region | apply EL.nil | apply ES.block | apply ES.nil | apply ES.exit | apply ES.ret | apply PX.hit | (apply PX.miss; exact rfl) | apply PX.then_x | apply PX.then_r | apply PX.block_n | apply PX.block_r | refine PX.then_n (e := .normal) ?_)
      refine EL.move rfl rfl rfl ?_
      refine EL.lenL rfl rfl rfl rfl rfl ?_
      refine EL.move rfl rfl rfl ?_
      repeat (first | apply ES.seq | apply ES.skip | apply ES.region | apply EL.nil | apply ES.block | apply ES.nil | apply ES.exit | apply ES.ret | apply PX.hit | (apply PX.miss; exact rfl) | apply PX.then_x | apply PX.then_r | apply PX.block_n | apply PX.block_r | refine PX.then_n (e := .normal) ?_)
      refine ES.rowForm (ad := y.ia) (cap := y.ie) (e := 9) (sz := 1) (n := y.ins.length) (cs := y.ins.map Sv) (by repeat (first | exact Mem.here _ _ | apply Mem.there)) (fun hfi => ?_)
      refine ES.rowForm (ad := y.oa) (cap := y.oe) (e := 9) (sz := 1) (n := y.outs.length) (cs := y.outs.map Sv) (by repeat (first | exact Mem.here _ _ | apply Mem.there)) (fun hfo => ?_)
      refine ES.loop (σ := Nat) (fun k => k ≤ N) (fun k => [(7, .slice y.oa y.outs.length y.oe), (124, .slice y.ia y.ins.length y.ie), (125, Iv N), (126, Iv k)]) (fun k => OH g y) (fun k => N - k) 0 (Nat.zero_le _) ⟨rfl, rfl, getA rfl (by rw [hyN]), rfl, trivial⟩ (by repeat (first | exact Ent.nil _ | exact Ent.refl _ | (apply Ent.cons; case p => repeat (first | exact Pick.here _ _ | apply Pick.there)) | apply Ent.drop)) ?_
      intro k hk
      repeat (first | apply ES.seq | apply ES.skip | apply ES.region | apply EL.nil | apply ES.block | apply ES.nil | apply ES.exit | apply ES.ret | apply PX.hit | (apply PX.miss; exact rfl) | apply PX.then_x | apply PX.then_r | apply PX.block_n | apply PX.block_r | refine PX.then_n (e := .normal) ?_)
      refine EL.lss rfl rfl rfl rfl ?_
      repeat (first | apply ES.seq | apply ES.skip | apply ES.region | apply EL.nil | apply ES.block | apply ES.nil | apply ES.exit | apply ES.ret | apply PX.hit | (apply PX.miss; exact rfl) | apply PX.then_x | apply PX.then_r | apply PX.block_n | apply PX.block_r | refine PX.then_n (e := .normal) ?_)
      refine ES.condD rfl (fun hlt2 => ?_) (fun hge2 => ?_)
      · have hk' : k < N := by omega
        obtain ⟨gi, hgi⟩ := hfi.2.2.2.2 (by omega)
        obtain ⟨go, hgo⟩ := hfo.2.2.2.2 (by omega)
        have hOH : OH g y = HA.row (.slice (some ⟨gi, 0, none⟩) y.ins.length y.ie) 9 1 y.ins.length (y.ins.map Sv) :: HA.row (.slice (some ⟨go, 0, none⟩) y.outs.length y.oe) 9 1 y.outs.length (y.outs.map Sv) :: HQ g y.qa y.qe y.s := by simp only [OH]; rw [hgi, hgo]
        rw [hOH, hgi, hgo]
        repeat (first | apply ES.seq | apply ES.skip | apply ES.region | apply EL.nil | apply ES.block | apply ES.nil | apply ES.exit | apply ES.ret | apply PX.hit | (apply PX.miss; exact rfl) | apply PX.then_x | apply PX.then_r | apply PX.block_n | apply PX.block_r | refine PX.then_n (e := .normal) ?_)
        refine EL.move rfl rfl rfl ?_
        refine EL.indexAddrL1 rfl rfl rfl rfl rfl rfl rfl rfl (by omega) ?_
        refine EL.loadRm Sv [] rfl rfl rfl rfl rfl (by repeat (first | exact Mem.here _ _ | apply Mem.there)) (by omega) ?_
        refine EL.assign rfl rfl rfl ?_
        refine EL.assign rfl rfl rfl ?_
        repeat (first | apply ES.seq | apply ES.skip | apply ES.region | apply EL.nil | apply ES.block | apply ES.nil | apply ES.exit | apply ES.ret | apply PX.hit | (apply PX.miss; exact rfl) | apply PX.then_x | apply PX.then_r | apply PX.block_n | apply PX.block_r | refine PX.then_n (e := .normal) ?_)
        refine EL.move rfl rfl rfl ?_
        refine EL.move rfl rfl rfl ?_
        refine EL.indexAddrL1 rfl rfl rfl rfl rfl rfl rfl rfl (by omega) ?_
        refine EL.loadRm Sv [] rfl rfl rfl rfl rfl (by repeat (first | exact Mem.here _ _ | apply Mem.there)) (by omega) ?_
        refine EL.move rfl rfl rfl ?_
        refine EL.neqS rfl rfl rfl rfl ?_
        repeat (first | apply ES.seq | apply ES.skip | apply ES.region | apply EL.nil | apply ES.block | apply ES.nil | apply ES.exit | apply ES.ret | apply PX.hit | (apply PX.miss; exact rfl) | apply PX.then_x | apply PX.then_r | apply PX.block_n | apply PX.block_r | refine PX.then_n (e := .normal) ?_)
        refine ES.condK false rfl (by simp [hio]) ?_
        repeat (first | apply ES.seq | apply ES.skip | apply ES.region | apply EL.nil | apply ES.block | apply ES.nil | apply ES.exit | apply ES.ret | apply PX.hit | (apply PX.miss; exact rfl) | apply PX.then_x | apply PX.then_r | apply PX.block_n | apply PX.block_r | refine PX.then_n (e := .normal) ?_)
        refine EL.add1 rfl rfl rfl rfl (by omega) ?_
        refine EL.move rfl rfl rfl ?_
        repeat (first | apply ES.seq | apply ES.skip | apply ES.region | apply EL.nil | apply ES.block | apply ES.nil | apply ES.exit | apply ES.ret | apply PX.hit | (apply PX.miss; exact rfl) | apply PX.then_x | apply PX.then_r | apply PX.block_n | apply PX.block_r | refine PX.then_n (e := .normal) ?_)
        exact PX.loop (k + 1) (by omega) (by omega) ⟨rfl, rfl, rfl, rfl, trivial⟩ (by repeat (first | exact Ent.nil _ | exact Ent.refl _ | (apply Ent.cons; case p => repeat (first | exact Pick.here _ _ | apply Pick.there)) | apply Ent.drop))
      · repeat (first | apply ES.seq | apply ES.skip | apply ES.region | apply EL.nil | apply ES.block | apply ES.nil | apply ES.exit | apply ES.ret | apply PX.hit | (apply PX.miss; exact rfl) | apply PX.then_x | apply PX.then_r | apply PX.block_n | apply PX.block_r | refine PX.then_n (e := .normal) ?_)
        refine EL.assign rfl rfl rfl ?_
        repeat (first | apply ES.seq | apply ES.skip | apply ES.region | apply EL.nil | apply ES.block | apply ES.nil | apply ES.exit | apply ES.ret | apply PX.hit | (apply PX.miss; exact rfl) | apply PX.then_x | apply PX.then_r | apply PX.block_n | apply PX.block_r | refine PX.then_n (e := .normal) ?_)
        exact PX.ret rfl Try.results8 (.cons (.tmp rfl) .nil) (fun w hs => ⟨(), rfl, hs.ent (.nil _)⟩)
end Go.Proofs.Ytbclmngjhhmbdaa
