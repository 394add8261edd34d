/- Layer 11 (matcher): a BRE that was read. -/
import Derived.Test.YtblpgpgbnlhjlaaGc
namespace Go.Proofs.Ytblpgpgbnlhjlaa
open Go Go.RowKit Sl
set_option maxRecDepth 100000
set_option maxHeartbeats 8000000
set_option linter.unusedVariables false
set_option linter.unusedSimpArgs false
attribute [local irreducible] ES EL PX wps

def mfn (me : Me) : Nat := if me.back = true then 54 else 53
abbrev mbC (g : Nat) (t : List UInt8) (me : Me) (st : Int) : Array Value := #[Sv t, Iv me.pos, Iv me.grp, Iv me.least, Iv me.most, .bool me.back, .bool me.bol, .bool me.eol, Iv st, .func (.func (mfn me)) #[Pv g 0] #[]]
abbrev MB (g : Nat) (t : List UInt8) (me : Me) (st : Int) : HA := HA.blk g (.cells (mbC g t me st) 112)
abbrev meOf (t : List UInt8) : Me := measM (parseM t).tree
theorem newBad_c (t : List UInt8) (he : (parseM t).e ≠ 0) (ht : t.length ≤ 4611686018427387904) (w : World) (hG : GR w w.heap.size) :
    Pure Try.prog 36 #[Sv t] (fun _ : Unit => .tuple #[.pointer none, .agg #[Iv (parseM t).e, Iv ((parseM t).at_ : Nat)]]) (fun _ => []) w := by
  have hpc := fun w hG => parse_c t ht w hG
  generalize parseM t = p at he hpc
  obtain ⟨tree, pe, pat⟩ := p
  dsimp only at he hpc
  refine calls_of_ES TB Try.func36 rfl _ Try.ntmps36 rfl (Sat.start w) ?_
  refine .go ?_; repeat constructor
  refine EL.assign rfl rfl rfl ?_
  (refine EL.alloc rfl rfl rfl ?_; intro g3)
  refine .go ?_; repeat constructor
  refine EL.move rfl rfl rfl ?_
  (refine EL.callXw rfl rfl rfl ent40 rfl (fun w hs => hpc w (GR.sat hG hs)) ?_; intro px)
  refine EL.move rfl rfl rfl ?_
  refine EL.extract rfl rfl rfl rfl ?_
  refine EL.extract rfl rfl rfl rfl ?_
  (refine EL.alloc rfl rfl rfl ?_; intro g4)
  (refine EL.alloc rfl rfl rfl ?_; intro g5)
  (apply EL.storeAll; exact rfl; exact rfl; exact rfl; exact rfl; exact rfl; (case p => repeat constructor); exact rfl; (case h1 => exact (by first | rfl | exact all1 rfl | (intro u hu; simp only [List.mem_cons, List.not_mem_nil, or_false] at hu; rcases hu with rfl | rfl | rfl | rfl <;> rfl) | (intro u hu; simp at hu; rcases hu with rfl | rfl | rfl | rfl <;> rfl) | (intro u hu; simp at hu; rcases hu with rfl | rfl | rfl <;> rfl) | (intro u hu; simp at hu; rcases hu with rfl | rfl <;> rfl) | (intro u hu; simp at hu; obtain ⟨_, _, rfl⟩ := hu; rfl))))
  (apply EL.storeAll; exact rfl; exact rfl; exact rfl; exact rfl; exact rfl; (case p => repeat constructor); exact rfl; (case h1 => exact (by first | rfl | exact all1 rfl | (intro u hu; simp only [List.mem_cons, List.not_mem_nil, or_false] at hu; rcases hu with rfl | rfl | rfl | rfl <;> rfl) | (intro u hu; simp at hu; rcases hu with rfl | rfl | rfl | rfl <;> rfl) | (intro u hu; simp at hu; rcases hu with rfl | rfl | rfl <;> rfl) | (intro u hu; simp at hu; rcases hu with rfl | rfl <;> rfl) | (intro u hu; simp at hu; obtain ⟨_, _, rfl⟩ := hu; rfl))))
  refine .go ?_; repeat constructor
  refine .go ?_; repeat constructor
  refine EL.fieldAddr rfl rfl rfl rfl rfl rfl rfl rfl ?_
  (apply EL.loadB; exact rfl; exact rfl; exact rfl; exact rfl; exact rfl; (case hm => repeat constructor); exact rfl)
  refine EL.neqI rfl rfl rfl rfl ?_
  refine .go ?_; repeat constructor
  refine ES.condN rfl (fun hne => ?_) (fun h0 => ?_)
  · refine .g0 ?_; repeat constructor
    refine ES.draw (X := Unit) (fun _ => [(2, .pointer none), (3, Pv g3 0)]) (fun _ => HA.blk g3 (.cells #[Iv pe, Iv (pat : Nat)] 67) :: []) (HA.blk g5 (.cells #[Iv pe, Iv (pat : Nat)] 67) :: []) mixed (.i (by repeat constructor)) ?_ (fun _ => ?_)
    · refine ED.take 0 rfl (by decide +kernel) CutX.no_panic (by decide +kernel) rfl rfl rfl (RV.loadAggB rfl rfl rfl (by repeat constructor) rfl) ?_
      refine ED.take 1 rfl (by decide +kernel) CutX.no_panic (by decide +kernel) rfl rfl rfl (RV.assign rfl) ?_
      refine ED.last 2 rfl (by decide +kernel) (by decide +kernel) (by decide +kernel) ?_
      (apply EL.storeAll; exact rfl; exact rfl; exact rfl; exact rfl; exact rfl; (case p => repeat constructor); exact rfl; (case h1 => exact (by first | rfl | exact all1 rfl | (intro u hu; simp only [List.mem_cons, List.not_mem_nil, or_false] at hu; rcases hu with rfl | rfl | rfl | rfl <;> rfl) | (intro u hu; simp at hu; rcases hu with rfl | rfl | rfl | rfl <;> rfl) | (intro u hu; simp at hu; rcases hu with rfl | rfl | rfl <;> rfl) | (intro u hu; simp at hu; rcases hu with rfl | rfl <;> rfl) | (intro u hu; simp at hu; obtain ⟨_, _, rfl⟩ := hu; rfl))))
      refine EL.endQ ?_
      exact PX.cutX () ⟨rfl, rfl, trivial⟩ (.i (by repeat constructor))
    refine .go ?_; repeat constructor
    exact PX.ret rfl Try.results36 (.cons (.tmp rfl) (.cons (.blkA rfl rfl rfl (by repeat constructor) rfl) .nil)) (fun w hs => ⟨(), rfl, hs.ent (.i (by repeat constructor))⟩)
  · exact absurd h0 he
theorem newOk_c (t : List UInt8) (he : (parseM t).e = 0) (ht : t.length ≤ 4611686018427387904) (w : World) (hG : GR w w.heap.size) :
    Pure Try.prog 36 #[Sv t] (fun g : Nat => .tuple #[Pv g 0, .agg #[Iv 0, Iv 0]]) (fun g => [MB g t (meOf t) 0]) w := by
  have hpc := fun w hG => parse_c t ht w hG
  have hof : ofM t = (measM (parseM t).tree, 0, 0) := by unfold ofM; rw [if_neg (fun h => h he)]
  have hmc := fun w hG => measOf_c t ht w hG
  rw [hof] at hmc
  unfold meOf
  generalize parseM t = p at he hpc hmc
  obtain ⟨tree, pe, pat⟩ := p
  dsimp only at he hpc hmc ⊢
  subst he
  generalize measM tree = me at hmc
  refine calls_of_ES TB Try.func36 rfl _ Try.ntmps36 rfl (Sat.start w) ?_
  refine .go ?_; repeat constructor
  refine EL.assign rfl rfl rfl ?_
  (refine EL.alloc rfl rfl rfl ?_; intro g3)
  refine .go ?_; repeat constructor
  refine EL.move rfl rfl rfl ?_
  (refine EL.callXw rfl rfl rfl ent40 rfl (fun w hs => hpc w (GR.sat hG hs)) ?_; intro px)
  refine EL.move rfl rfl rfl ?_
  refine EL.extract rfl rfl rfl rfl ?_
  refine EL.extract rfl rfl rfl rfl ?_
  (refine EL.alloc rfl rfl rfl ?_; intro g4)
  (refine EL.alloc rfl rfl rfl ?_; intro g5)
  (apply EL.storeAll; exact rfl; exact rfl; exact rfl; exact rfl; exact rfl; (case p => repeat constructor); exact rfl; (case h1 => exact (by first | rfl | exact all1 rfl | (intro u hu; simp only [List.mem_cons, List.not_mem_nil, or_false] at hu; rcases hu with rfl | rfl | rfl | rfl <;> rfl) | (intro u hu; simp at hu; rcases hu with rfl | rfl | rfl | rfl <;> rfl) | (intro u hu; simp at hu; rcases hu with rfl | rfl | rfl <;> rfl) | (intro u hu; simp at hu; rcases hu with rfl | rfl <;> rfl) | (intro u hu; simp at hu; obtain ⟨_, _, rfl⟩ := hu; rfl))))
  (apply EL.storeAll; exact rfl; exact rfl; exact rfl; exact rfl; exact rfl; (case p => repeat constructor); exact rfl; (case h1 => exact (by first | rfl | exact all1 rfl | (intro u hu; simp only [List.mem_cons, List.not_mem_nil, or_false] at hu; rcases hu with rfl | rfl | rfl | rfl <;> rfl) | (intro u hu; simp at hu; rcases hu with rfl | rfl | rfl | rfl <;> rfl) | (intro u hu; simp at hu; rcases hu with rfl | rfl | rfl <;> rfl) | (intro u hu; simp at hu; rcases hu with rfl | rfl <;> rfl) | (intro u hu; simp at hu; obtain ⟨_, _, rfl⟩ := hu; rfl))))
  refine .go ?_; repeat constructor
  refine .go ?_; repeat constructor
  refine EL.fieldAddr rfl rfl rfl rfl rfl rfl rfl rfl ?_
  (apply EL.loadB; exact rfl; exact rfl; exact rfl; exact rfl; exact rfl; (case hm => repeat constructor); exact rfl)
  refine EL.neqI rfl rfl rfl rfl ?_
  refine .go ?_; repeat constructor
  refine ES.condF rfl ?_
  refine .go ?_; repeat constructor
  refine EL.move rfl rfl rfl ?_
  refine EL.buildS #[Sv t, Iv 0, Iv 0, Iv 0, Iv 0, .bool false, .bool false, .bool false, Iv 0, .nilFunc] rfl rfl rfl rfl rfl (by kernel_rfl) rfl ?_
  (refine EL.box rfl rfl rfl ?_; intro g18)
  refine EL.assign rfl rfl rfl ?_
  refine .go ?_; repeat constructor
  refine .go ?_; repeat constructor
  refine EL.move rfl rfl rfl ?_
  refine EL.move rfl rfl rfl ?_
  refine EL.callPw rfl rfl rfl ent42 rfl (fun w hs => hmc w (GR.sat hG hs)) ?_
  refine EL.move rfl rfl rfl ?_
  refine EL.extract rfl rfl rfl rfl ?_
  refine EL.extract rfl rfl rfl rfl ?_
  refine EL.nilCheck rfl rfl rfl ?_
  refine EL.fieldAddr rfl rfl rfl rfl rfl rfl rfl rfl ?_
  (refine EL.storeBA (vs := me.cells) rfl rfl rfl rfl rfl (by repeat constructor) (Nat.le_of_ble_eq_true rfl) (all1 rfl) ?_; refine EL.blkEq (g := g18) (o' := .cells #[Sv t, Iv me.pos, Iv me.grp, Iv me.least, Iv me.most, .bool me.back, .bool me.bol, .bool me.eol, Iv 0, .nilFunc] 112) (by repeat constructor) rfl ?_)
  refine .go ?_; repeat constructor
  refine .go ?_; repeat constructor
  refine EL.move rfl rfl rfl ?_
  refine EL.move rfl rfl rfl ?_
  refine EL.makeBound rfl rfl rfl ?_
  refine EL.nilCheck rfl rfl rfl ?_
  refine EL.fieldAddr rfl rfl rfl rfl rfl rfl rfl rfl ?_
  (apply EL.storeB; exact rfl; exact rfl; exact rfl; exact rfl; exact rfl; exact rfl; (case p => repeat constructor); exact (by first | decide | exact Nat.le_of_ble_eq_true rfl | simp))
  refine .go ?_; repeat constructor
  refine EL.move rfl rfl rfl ?_
  refine EL.nilCheck rfl rfl rfl ?_
  refine EL.fieldAddr rfl rfl rfl rfl rfl rfl rfl rfl ?_
  refine EL.fieldAddr rfl rfl rfl rfl rfl rfl rfl rfl ?_
  (apply EL.loadB; exact rfl; exact rfl; exact rfl; exact rfl; exact rfl; (case hm => repeat constructor); exact rfl)
  refine .go ?_; repeat constructor
  refine ES.cutC (X := Unit) (fun _ => [(3, Pv g3 0), (6, Pv g18 0)]) (fun _ => MB g18 t me 0 :: HA.blk g3 (.cells #[Iv 0, Iv 0] 67) :: []) ?_ (fun _ => ?_)
  · refine ES.cond rfl (fun hb => ?_) (fun hb => ?_)
    · have hb' : me.back = true := hb
      have hm : mfn me = 54 := if_pos hb'
      unfold MB mbC
      rw [hm]
      refine .go ?_; repeat constructor
      refine EL.move rfl rfl rfl ?_
      refine EL.move rfl rfl rfl ?_
      refine EL.makeBound rfl rfl rfl ?_
      refine EL.nilCheck rfl rfl rfl ?_
      refine EL.fieldAddr rfl rfl rfl rfl rfl rfl rfl rfl ?_
      (apply EL.storeB; exact rfl; exact rfl; exact rfl; exact rfl; exact rfl; exact rfl; (case p => repeat constructor); exact (by first | decide | exact Nat.le_of_ble_eq_true rfl | simp))
      refine .go ?_; repeat constructor
      exact PX.cutX () ⟨rfl, rfl, trivial⟩ (.i (by repeat constructor))
    · have hb' : me.back = false := hb
      have hm : mfn me = 53 := if_neg (by rw [hb']; simp)
      unfold MB mbC
      rw [hm]
      refine .go ?_; repeat constructor
      exact PX.cutX () ⟨rfl, rfl, trivial⟩ (.i (by repeat constructor))
  refine .go ?_; repeat constructor
  refine EL.move rfl rfl rfl ?_
  refine EL.buildZ rfl rfl rfl rfl rfl ?_
  refine EL.assign rfl rfl rfl ?_
  (apply EL.storeAll; exact rfl; exact rfl; exact rfl; exact rfl; exact rfl; (case p => repeat constructor); exact rfl; (case h1 => exact (by first | rfl | exact all1 rfl | (intro u hu; simp only [List.mem_cons, List.not_mem_nil, or_false] at hu; rcases hu with rfl | rfl | rfl | rfl <;> rfl) | (intro u hu; simp at hu; rcases hu with rfl | rfl | rfl | rfl <;> rfl) | (intro u hu; simp at hu; rcases hu with rfl | rfl | rfl <;> rfl) | (intro u hu; simp at hu; rcases hu with rfl | rfl <;> rfl) | (intro u hu; simp at hu; obtain ⟨_, _, rfl⟩ := hu; rfl))))
  refine .go ?_; repeat constructor
  exact PX.ret rfl Try.results36 (.cons (.tmp rfl) (.cons (.blkA rfl rfl rfl (by repeat constructor) rfl) .nil)) (fun w hs => ⟨g18, rfl, hs.ent (.i (by repeat constructor))⟩)
/-- What a matcher answers. -/
abbrev mrV (m : MR) (x : Option Addr × Nat) : Value := .tuple #[.slice x.1 m.spans.length x.2, .bool m.ok, Iv m.e]
abbrev McCt (f g : Nat) (t : List UInt8) (me : Me) (s : List UInt8) (a : Int) (m : MR) (w0 : World) (B : Nat) : Prop := ∀ st : Int,
  MutAt Try.prog f #[Pv g 0, Sv s, Iv a] [MB g t me st] (mrV m) (fun x => [PRow x.1 x.2 m.spans, MB g t me (w64 (st + (m.steps : Nat)))]) w0 B
theorem bySets_c (F g : Nat) (t : List UInt8) (ht : t.length ≤ 4611686018427387904) (me : Me) (s : List UInt8) (a : Int) (m : MR) (hm : setM F t s a = some m) (w0 : World) (B : Nat) (hG : GR w0 B) : McCt 53 g t me s a m w0 B := by
  intro st R w h
  replace h : Sat w0 B (MB g t me st :: R) w := h
  have hsc := fun w hG => setMatch_c F t s a m hm ht w hG
  refine calls_of_ES TB Try.func53 rfl _ Try.ntmps53 rfl h ?_
  refine .go ?_; repeat constructor
  refine EL.assign rfl rfl rfl ?_
  refine EL.assign rfl rfl rfl ?_
  refine EL.assign rfl rfl rfl ?_
  refine .go ?_; repeat constructor
  refine EL.move rfl rfl rfl ?_
  refine EL.nilCheck rfl rfl rfl ?_
  refine EL.fieldAddr rfl rfl rfl rfl rfl rfl rfl rfl ?_
  (apply EL.loadB; exact rfl; exact rfl; exact rfl; exact rfl; exact rfl; (case hm => repeat constructor); exact rfl)
  refine EL.move rfl rfl rfl ?_
  refine EL.move rfl rfl rfl ?_
  (refine EL.callXw rfl rfl rfl ent18 rfl (fun w hs => hsc w (GR.sat hG hs)) ?_; intro x)
  refine EL.move rfl rfl rfl ?_
  refine EL.extract rfl rfl rfl rfl ?_
  refine EL.extract rfl rfl rfl rfl ?_
  refine EL.extract rfl rfl rfl rfl ?_
  refine EL.extract rfl rfl rfl rfl ?_
  refine EL.assign rfl rfl rfl ?_
  refine EL.assign rfl rfl rfl ?_
  refine EL.assign rfl rfl rfl ?_
  refine EL.assign rfl rfl rfl ?_
  refine .go ?_; repeat constructor
  refine .go ?_; repeat constructor
  refine EL.move rfl rfl rfl ?_
  refine EL.nilCheck rfl rfl rfl ?_
  refine EL.fieldAddr rfl rfl rfl rfl rfl rfl rfl rfl ?_
  (apply EL.loadB; exact rfl; exact rfl; exact rfl; exact rfl; exact rfl; (case hm => repeat constructor); exact rfl)
  refine EL.move rfl rfl rfl ?_
  refine EL.add (w64 (st + (m.steps : Nat))) rfl rfl rfl rfl rfl ?_
  refine EL.nilCheck rfl rfl rfl ?_
  refine EL.fieldAddr rfl rfl rfl rfl rfl rfl rfl rfl ?_
  (apply EL.storeB; exact rfl; exact rfl; exact rfl; exact rfl; exact rfl; exact rfl; (case p => repeat constructor); exact (by first | decide | exact Nat.le_of_ble_eq_true rfl | simp))
  refine .go ?_; repeat constructor
  refine EL.move rfl rfl rfl ?_
  refine EL.move rfl rfl rfl ?_
  refine EL.move rfl rfl rfl ?_
  refine EL.assign rfl rfl rfl ?_
  refine EL.assign rfl rfl rfl ?_
  refine EL.assign rfl rfl rfl ?_
  refine .go ?_; repeat constructor
  exact PX.ret rfl Try.results53 (.cons (.tmp rfl) (.cons (.tmp rfl) (.cons (.tmp rfl) .nil))) (fun w hs => ⟨x, rfl, hs.ent (.i (by repeat constructor))⟩)
theorem matchNil_c (s : List UInt8) (a : Int) (w : World) : Pure Try.prog 22 #[.pointer none, Sv s, Iv a] (fun _ : Unit => .tuple #[.slice none 0 0, .bool false, Iv 25]) (fun _ => []) w := by
  refine calls_of_ES TB Try.func22 rfl _ Try.ntmps22 rfl (Sat.start w) ?_
  refine .go ?_; repeat constructor
  refine EL.assign rfl rfl rfl ?_
  refine EL.assign rfl rfl rfl ?_
  refine EL.assign rfl rfl rfl ?_
  refine .go ?_; repeat constructor
  refine EL.move rfl rfl rfl ?_
  refine EL.eqlPn rfl rfl rfl rfl rfl rfl ?_
  refine EL.move rfl rfl rfl ?_
  refine EL.rew (d := 11) (v' := .bool true) rfl (by first | rfl | (decide) | (simp)) ?_
  refine EL.pass rfl rfl rfl ?_
  refine EL.pass rfl rfl rfl ?_
  refine EL.pass rfl rfl rfl ?_
  refine EL.pass rfl rfl rfl ?_
  refine EL.pass rfl rfl rfl ?_
  refine EL.pickT rfl rfl rfl rfl ?_
  refine .go ?_; repeat constructor
  refine ES.condT rfl ?_
  refine .go ?_; repeat constructor
  refine EL.assign rfl rfl rfl ?_
  refine EL.assign rfl rfl rfl ?_
  refine EL.assign rfl rfl rfl ?_
  refine .go ?_; repeat constructor
  exact PX.ret rfl Try.results22 (.cons (.tmp rfl) (.cons (.tmp rfl) (.cons (.tmp rfl) .nil))) (fun w hs => ⟨(), rfl, hs.ent (.i (by repeat constructor))⟩)
theorem match_c (g : Nat) (t : List UInt8) (me : Me) (s : List UInt8) (a : Int) (m : MR) (w0 : World) (B : Nat) (he : Enters Try.prog (mfn me)) (hc : McCt (mfn me) g t me s a m w0 B) : McCt 22 g t me s a m w0 B := by
  intro st R w h
  replace h : Sat w0 B (MB g t me st :: R) w := h
  refine calls_of_ES TB Try.func22 rfl _ Try.ntmps22 rfl h ?_
  refine .go ?_; repeat constructor
  refine EL.assign rfl rfl rfl ?_
  refine EL.assign rfl rfl rfl ?_
  refine EL.assign rfl rfl rfl ?_
  refine .go ?_; repeat constructor
  refine EL.move rfl rfl rfl ?_
  refine EL.eqlPn rfl rfl rfl rfl rfl rfl ?_
  refine EL.move rfl rfl rfl ?_
  refine EL.rew (d := 11) (v' := .bool false) rfl (by first | rfl | (decide) | (simp)) ?_
  refine EL.move rfl rfl rfl ?_
  refine EL.nilCheck rfl rfl rfl ?_
  refine EL.fieldAddr rfl rfl rfl rfl rfl rfl rfl rfl ?_
  (apply EL.loadB; exact rfl; exact rfl; exact rfl; exact rfl; exact rfl; (case hm => repeat constructor); exact rfl)
  refine EL.eqlFt rfl rfl rfl rfl rfl rfl ?_
  refine EL.pickF rfl rfl rfl rfl ?_
  refine .go ?_; repeat constructor
  refine ES.condF rfl ?_
  refine .go ?_; repeat constructor
  refine EL.move rfl rfl rfl ?_
  refine EL.nilCheck rfl rfl rfl ?_
  refine EL.fieldAddr rfl rfl rfl rfl rfl rfl rfl rfl ?_
  (apply EL.loadB; exact rfl; exact rfl; exact rfl; exact rfl; exact rfl; (case hm => repeat constructor); exact rfl)
  refine EL.move rfl rfl rfl ?_
  refine EL.move rfl rfl rfl ?_
  (refine EL.callB (bs := [Pv g 0]) (vs := [Sv s, Iv a]) rfl rfl rfl he rfl (hc st) (by repeat constructor) ?_; intro x)
  refine EL.extract rfl rfl rfl rfl ?_
  refine EL.extract rfl rfl rfl rfl ?_
  refine EL.extract rfl rfl rfl rfl ?_
  refine EL.assign rfl rfl rfl ?_
  refine EL.assign rfl rfl rfl ?_
  refine EL.assign rfl rfl rfl ?_
  refine .go ?_; repeat constructor
  exact PX.ret rfl Try.results22 (.cons (.tmp rfl) (.cons (.tmp rfl) (.cons (.tmp rfl) .nil))) (fun w hs => ⟨x, rfl, hs.ent (.i (by repeat constructor))⟩)
/-- A matcher of a BRE without back-references. -/
theorem matchSets_c (F g : Nat) (t : List UInt8) (ht : t.length ≤ 4611686018427387904) (me : Me) (hb : me.back = false) (s : List UInt8) (a : Int) (m : MR) (hm : setM F t s a = some m) (w0 : World) (B : Nat) (hG : GR w0 B) : McCt 22 g t me s a m w0 B := by
  have e : mfn me = 53 := if_neg (by rw [hb]; simp)
  exact match_c g t me s a m w0 B (by rw [e]; exact ent53) (by rw [e]; exact bySets_c F g t ht me s a m hm w0 B hG)
end Go.Proofs.Ytblpgpgbnlhjlaa
