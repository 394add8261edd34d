/- Layer 4 (bre): the tokens, one at a time; the parser's methods. -/
import Derived.Test.YtblpgpgbnlhjlaaPd
import Derived.Test.YtblpgpgbnlhjlaaSlp
namespace Go.Proofs.Ytblpgpgbnlhjlaa
open Go Go.RowKit Sl
set_option maxRecDepth 100000
set_option maxHeartbeats 8000000
set_option linter.unusedVariables false
set_option linter.unusedSimpArgs false
attribute [local irreducible] ES EL PX wps

/-! the tokens -/
abbrev yt (t : List UInt8) : List (List Value) := (toksM t).map fun k => [tokV k]
theorem toks_len (t : List UInt8) : ∀ (n a : Nat) (f b : Bool), (toksGo t n a f b).length ≤ n
  | 0, _, _, _ => Nat.zero_le _
  | n + 1, a, f, b => by
    rw [toksGo]
    split
    · simp
    · dsimp only
      split
      · simp
      · have := toks_len t n (readT t a f b).2 (decide ((readT t a f b).1.kind = 3)) (decide ((readT t a f b).1.kind = 3) || decide ((readT t a f b).1.kind = 1))
        simp only [List.length_cons]; omega
theorem tok1_iter (gs : Nat) (t : List UInt8) (ht : t.length ≤ 1073741824) (W0 : World) (B0 : Nat) (hG : GR W0 B0) : Iter Try.prog 75 #[Pv gs 0] (yt t) [HA.blk gs (.cells #[Sv t] 9)] W0 B0 := by
  intro l I Ix hY A R W hI hs
  replace hs : Sat W0 B0 (HA.blk gs (.cells #[Sv t] 9) :: A :: R) W := hs
  refine calls_of_ES TB Try.func75 rfl _ Try.ntmps75 rfl hs ?_
  refine .go ?_; repeat constructor
  refine EL.assign rfl rfl rfl ?_
  refine EL.assign rfl rfl rfl ?_
  refine .go ?_; repeat constructor
  refine EL.assign rfl rfl rfl ?_
  refine .go ?_; repeat constructor
  refine ES.loop (σ := Nat × Nat × Nat × Bool × Bool × HA) (fun (i, n, a, f, b, A) => a ≤ t.length ∧ t.length ≤ n + a ∧ toksGo t n a f b = (toksM t).drop i ∧ i ≤ (toksM t).length ∧ I i A) (fun (i, n, a, f, b, A) => [(0, .func (.yield l) #[] #[]), (1, Pv gs 0), (3, .bool f), (4, .bool b), (5, Iv (a : Nat))])
    (fun (i, n, a, f, b, A) => HA.blk gs (.cells #[Sv t] 9) :: A :: R) (fun (i, n, a, f, b, A) => t.length - a) (0, t.length, 0, true, true, A) ⟨Nat.zero_le _, by omega, rfl, Nat.zero_le _, hI⟩ ⟨rfl, rfl, rfl, rfl, rfl, trivial⟩ (.i (by repeat constructor)) ?_
  rintro ⟨i, n, a, f, b, A⟩ ⟨ha, hn, hgo, hi, hI⟩
  dsimp only at ha hn hgo hi hI ⊢
  refine .go ?_; repeat constructor
  refine EL.move rfl rfl rfl ?_
  (apply EL.loadB; exact rfl; exact rfl; exact rfl; exact rfl; exact rfl; (case hm => repeat constructor); exact rfl)
  refine EL.lenS rfl rfl rfl rfl rfl ?_
  refine EL.lss rfl rfl rfl rfl ?_
  refine .go ?_; repeat constructor
  refine ES.condD rfl (fun hlt => ?_) (fun hge => ?_)
  · have hlt' : a < t.length := by omega
    obtain ⟨m, rfl⟩ : ∃ m, n = m + 1 := ⟨n - 1, by omega⟩
    rw [toksGo, if_neg (by omega)] at hgo
    dsimp only at hgo
    have hnx := readT_at t a f b hlt'
    have hrc := readTok_c t a f b hlt' ht
    generalize readT t a f b = r at hgo hnx hrc
    obtain ⟨k, nx⟩ := r
    dsimp only at hgo hnx hrc
    have hat : (toksM t)[i]? = some k := by
      have : ((toksM t).drop i)[0]? = some k := by rw [← hgo]; split <;> rfl
      simpa using this
    have hilt : i < (toksM t).length := (List.getElem?_eq_some_iff.1 hat).1
    have hx : (yt t)[i]? = some [tokV k] := by rw [List.getElem?_map, hat]; rfl
    refine .go ?_; repeat constructor
    (apply EL.loadB; exact rfl; exact rfl; exact rfl; exact rfl; exact rfl; (case hm => repeat constructor); exact rfl)
    refine EL.move rfl rfl rfl ?_
    refine EL.move rfl rfl rfl ?_
    refine EL.move rfl rfl rfl ?_
    refine EL.callPw rfl rfl rfl ent76 rfl (fun w hs => hrc w (GR.sat hG hs)) ?_
    refine EL.move rfl rfl rfl ?_
    refine EL.extract rfl rfl rfl rfl ?_
    refine EL.extract rfl rfl rfl rfl ?_
    (refine EL.alloc rfl rfl rfl ?_; intro g6)
    (apply EL.storeAll; exact rfl; exact rfl; exact rfl; exact rfl; exact rfl; (case p => repeat constructor); exact rfl; (case h1 => exact (by first | rfl | exact all1 rfl | (intro u hu; simp only [List.mem_cons, List.not_mem_nil, or_false] at hu; rcases hu with rfl | rfl | rfl | rfl <;> rfl) | (intro u hu; simp at hu; rcases hu with rfl | rfl | rfl | rfl <;> rfl) | (intro u hu; simp at hu; rcases hu with rfl | rfl | rfl <;> rfl) | (intro u hu; simp at hu; rcases hu with rfl | rfl <;> rfl) | (intro u hu; simp at hu; obtain ⟨_, _, rfl⟩ := hu; rfl))))
    refine EL.assign rfl rfl rfl ?_
    refine .go ?_; repeat constructor
    refine EL.fieldAddr rfl rfl rfl rfl rfl rfl rfl rfl ?_
    (apply EL.loadB; exact rfl; exact rfl; exact rfl; exact rfl; exact rfl; (case hm => repeat constructor); exact rfl)
    refine EL.eqlI rfl rfl rfl rfl ?_
    refine EL.assign rfl rfl rfl ?_
    refine .go ?_; repeat constructor
    refine EL.cutX (X := Unit) (fun _ => [(0, .func (.yield l) #[] #[]), (1, Pv gs 0), (3, .bool (decide (k.kind = 3))), (4, .bool (decide (k.kind = 3) || decide (k.kind = 1))), (6, Pv g6 0), (7, Iv (nx : Nat))]) (fun _ => HA.blk g6 (.cells (tokCells k) 148) :: HA.blk gs (.cells #[Sv t] 9) :: A :: R) ?_ (fun _ => ?_)
    · refine .go ?_; repeat constructor
      refine EL.move rfl rfl rfl ?_
      refine EL.move rfl rfl rfl ?_
      first | refine EL.splitD (d := 24) rfl (fun hp24 => ?_) (fun hp24 => ?_) | refine EL.splitN (d := 24) rfl (fun hp24 => ?_) (fun hp24 => ?_) | refine EL.splitB (d := 24) rfl (fun hp24 => ?_) (fun hp24 => ?_)
      · refine EL.pass rfl rfl rfl ?_
        refine EL.pass rfl rfl rfl ?_
        refine EL.pass rfl rfl rfl ?_
        refine EL.pickT rfl rfl rfl rfl ?_
        refine EL.assign rfl rfl rfl ?_
        exact EL.endX () ⟨rfl, rfl, getA rfl (congrArg Value.bool (by rw [Bool.eq_iff_iff]; simp only [decide_eq_true_eq]; omega)), getA rfl (congrArg Value.bool (by rw [Bool.eq_iff_iff]; simp only [decide_eq_true_eq, Bool.or_eq_true, true_iff]; omega)), rfl, rfl, trivial⟩ (.i (by repeat constructor))
      · refine EL.fieldAddr rfl rfl rfl rfl rfl rfl rfl rfl ?_
        (apply EL.loadB; exact rfl; exact rfl; exact rfl; exact rfl; exact rfl; (case hm => repeat constructor); exact rfl)
        refine EL.eqlI rfl rfl rfl rfl ?_
        refine EL.pickF rfl rfl rfl rfl ?_
        refine EL.assign rfl rfl rfl ?_
        exact EL.endX () ⟨rfl, rfl, getA rfl (congrArg Value.bool (by rw [Bool.eq_iff_iff]; simp only [decide_eq_true_eq]; omega)), getA rfl (congrArg Value.bool (by rw [Bool.eq_iff_iff]; simp only [decide_eq_true_eq, Bool.or_eq_true, true_iff]; omega)), rfl, rfl, trivial⟩ (.i (by repeat constructor))
    refine .go ?_; repeat constructor
    refine EL.move rfl rfl rfl ?_
    (apply EL.loadAggB; exact rfl; exact rfl; exact rfl; exact rfl; exact rfl; (case hm => repeat constructor); exact rfl)
    refine EL.yield rfl rfl rfl rfl hY hI hx (by repeat constructor) (fun A' hI' => ?_) (fun A' hX' => ?_)
    · refine EL.not rfl rfl rfl ?_
      refine EL.move rfl rfl rfl ?_
      refine EL.rew (d := 33) (v' := .bool false) rfl (by first | rfl | (decide) | (simp)) ?_
      refine EL.fieldAddr rfl rfl rfl rfl rfl rfl rfl rfl ?_
      (apply EL.loadB; exact rfl; exact rfl; exact rfl; exact rfl; exact rfl; (case hm => repeat constructor); exact rfl)
      refine EL.eqlI rfl rfl rfl rfl ?_
      refine EL.pickF rfl rfl rfl rfl ?_
      refine .go ?_; repeat constructor
      refine ES.condD rfl (fun h7 => ?_) (fun h7 => ?_)
      · rw [if_pos (by omega)] at hgo
        have hlen : (yt t).length = i + 1 := by
          have := congrArg List.length hgo
          simp only [List.length_cons, List.length_nil, List.length_drop] at this
          simp only [List.length_map]; omega
        refine .go ?_; repeat constructor
        exact PX.ret rfl Try.results75 .nil (fun w hs => ⟨⟨_, rfl⟩, .inl ⟨A', by rw [hlen]; exact hI', hs.ent (.i (by repeat constructor))⟩⟩)
      · rw [if_neg (by omega)] at hgo
        have hb2 := hnx (by omega)
        refine .go ?_; repeat constructor
        refine EL.move rfl rfl rfl ?_
        refine EL.assign rfl rfl rfl ?_
        refine .go ?_; repeat constructor
        refine PX.loop (i + 1, m, nx, decide (k.kind = 3), decide (k.kind = 3) || decide (k.kind = 1), A') ⟨hb2.2, by simp only; omega, by simp only; have := congrArg List.tail hgo; simpa [List.tail_drop] using this, by simp only; omega, hI'⟩ (by simp only; omega) ⟨rfl, rfl, rfl, rfl, rfl, trivial⟩ (.i (by repeat constructor))
    · refine EL.not rfl rfl rfl ?_
      refine EL.move rfl rfl rfl ?_
      refine EL.rew (d := 33) (v' := .bool true) rfl (by first | rfl | (decide) | (simp)) ?_
      refine EL.pass rfl rfl rfl ?_
      refine EL.pass rfl rfl rfl ?_
      refine EL.pass rfl rfl rfl ?_
      refine EL.pickT rfl rfl rfl rfl ?_
      refine .go ?_; repeat constructor
      refine ES.condT rfl ?_
      refine .go ?_; repeat constructor
      exact PX.ret rfl Try.results75 .nil (fun w hs => ⟨⟨_, rfl⟩, .inr ⟨_, A', hX', hs.ent (.i (by repeat constructor))⟩⟩)
  · have hlen : (yt t).length = i := by
      have h1 : toksGo t n a f b = [] := by
        cases n with
        | zero => rfl
        | succ n => rw [toksGo, if_pos (by omega)]
      rw [h1] at hgo
      have := congrArg List.length hgo
      simp only [List.length_nil, List.length_drop] at this
      simp only [List.length_map]; omega
    refine .go ?_; repeat constructor
    exact PX.end rfl Try.results75 .nil (fun w hs => ⟨⟨_, rfl⟩, .inl ⟨A, by rw [hlen]; exact hI, hs.ent (.i (by repeat constructor))⟩⟩)
theorem tokens_c (t : List UInt8) (w : World) : Pure Try.prog 57 #[Sv t] (fun g : Nat => .func (.func 75) #[] #[Pv g 0]) (fun g => [HA.blk g (.cells #[Sv t] 9)]) w := by
  refine calls_of_ES TB Try.func57 rfl _ Try.ntmps57 rfl (Sat.start w) ?_
  refine .go ?_; repeat constructor
  (refine EL.box rfl rfl rfl ?_; intro g1)
  refine EL.assign rfl rfl rfl ?_
  refine .go ?_; repeat constructor
  refine EL.makeFunc rfl rfl rfl ?_
  refine EL.assign rfl rfl rfl ?_
  refine .go ?_; repeat constructor
  exact PX.ret rfl Try.results57 (.cons (.tmp rfl) .nil) (fun w hs => ⟨g1, rfl, hs.ent (.i (by repeat constructor))⟩)

/-! the frames in memory -/
def frC (kad : Option Addr) (n kcap : Nat) (sad : Option Addr) (m scap gr at_ : Nat) : List Value := [.slice kad n kcap, .slice sad m scap, Iv (gr : Nat), Iv (at_ : Nat)]
theorem pre_at (pre cs : List Value) (k i : Nat) (h : pre.length = k) : (pre ++ cs)[k + i]? = cs[i]? := by
  rw [List.getElem?_append_right (by omega), h]; congr 1; omega
theorem pre_set (pre cs : List Value) (k i : Nat) (u : Value) (h : pre.length = k) : (pre ++ cs).set (k + i) u = pre ++ cs.set i u := by
  rw [List.set_append_right _ _ (by omega), h]; congr 2; omega
abbrev FB (fg m fcap : Nat) (cs : List Value) : HA := HA.row (.slice (some ⟨fg, 0, none⟩) m fcap) 139 4 m cs
abbrev PB (g fg m fcap : Nat) (rest : List Value) : HA := HA.blk g (.cells (Value.slice (some ⟨fg, 0, none⟩) m fcap :: rest).toArray 143)
abbrev KR (kad : Option Addr) (n kcap : Nat) (kcs : List Value) : HA := HA.row (.slice kad n kcap) 82 9 n kcs
abbrev ZR (sad : Option Addr) (scap : Nat) (zs : List Nat) : HA := HA.row (.slice sad zs.length scap) 3 1 zs.length (zs.map fun z : Nat => Iv (z : Nat))
theorem put_end (kcs z9 rc : List Value) (off : Nat) (h1 : kcs.length = off) (h2 : z9.length = rc.length) : putAt (kcs ++ z9) off rc = kcs ++ rc := by
  unfold putAt
  rw [List.take_left' h1, List.drop_of_length_le (by rw [List.length_append]; omega), List.append_nil]
theorem top_c (g fg k fcap : Nat) (rest cs : List Value) (hk : k ≤ 4096) :
    Mut Try.prog 59 #[Pv g 0] [PB g fg (k + 1) fcap rest, FB fg (k + 1) fcap cs] (fun _ : Unit => Pv fg (k * 4)) (fun _ => [PB g fg (k + 1) fcap rest, FB fg (k + 1) fcap cs]) := by
  intro w0 B R w h
  replace h : Sat w0 B (PB g fg (k + 1) fcap rest :: FB fg (k + 1) fcap cs :: R) w := h
  refine calls_of_ES TB Try.func59 rfl _ Try.ntmps59 rfl h ?_
  refine .go ?_; repeat constructor
  refine EL.assign rfl rfl rfl ?_
  refine .go ?_; repeat constructor
  refine ES.draw (X := Unit) (fun _ => [(2, Pv fg (k * 4))]) (fun _ => PB g fg (k + 1) fcap rest :: FB fg (k + 1) fcap cs :: R) (PB g fg (k + 1) fcap rest :: FB fg (k + 1) fcap cs :: R) mixed (.i (by repeat constructor)) ?_ (fun _ => ?_)
  · refine ED.take 0 rfl (by decide +kernel) CutX.no_panic (by decide +kernel) rfl rfl rfl (RV.move rfl) ?_
    refine ED.take 1 rfl (by decide +kernel) CutX.no_panic (by decide +kernel) rfl rfl rfl (RV.nilCheck rfl) ?_
    refine ED.take 2 rfl (by decide +kernel) CutX.no_panic (by decide +kernel) rfl rfl rfl (RV.fieldAddr rfl rfl rfl rfl rfl rfl) ?_
    refine ED.take 3 rfl (by decide +kernel) CutX.no_panic (by decide +kernel) rfl rfl rfl (RV.loadB rfl rfl rfl (by repeat constructor) rfl) ?_
    refine ED.take 4 rfl (by decide +kernel) CutX.no_panic (by decide +kernel) rfl rfl rfl (RV.move rfl) ?_
    refine ED.take 5 rfl (by decide +kernel) CutX.no_panic (by decide +kernel) rfl rfl rfl (RV.nilCheck rfl) ?_
    refine ED.take 6 rfl (by decide +kernel) CutX.no_panic (by decide +kernel) rfl rfl rfl (RV.fieldAddr rfl rfl rfl rfl rfl rfl) ?_
    refine ED.take 7 rfl (by decide +kernel) CutX.no_panic (by decide +kernel) rfl rfl rfl (RV.loadB rfl rfl rfl (by repeat constructor) rfl) ?_
    refine ED.take 8 rfl (by decide +kernel) CutX.no_panic (by decide +kernel) rfl rfl rfl (RV.lenL rfl rfl rfl) ?_
    refine ED.take 9 rfl (by decide +kernel) CutX.no_panic (by decide +kernel) rfl rfl rfl (RV.sub1 rfl rfl (by omega) (by omega)) ?_
    refine ED.take 10 rfl (by decide +kernel) CutX.no_panic (by decide +kernel) rfl rfl rfl (RV.indexAddrL rfl rfl rfl rfl rfl (by omega)) ?_
    refine ED.take 11 rfl (by decide +kernel) CutX.no_panic (by decide +kernel) rfl rfl rfl (RV.assign rfl) ?_
    refine ED.done (by decide +kernel) ?_
    exact PX.cutX () ⟨getA rfl (congrArg (Pv fg) (Nat.zero_add _)), trivial⟩ (.i (by repeat constructor))
  refine .go ?_; repeat constructor
  exact PX.ret rfl Try.results59 (.cons (.tmp rfl) .nil) (fun w hs => ⟨(), rfl, hs.ent (.i (by repeat constructor))⟩)
theorem put_c (g fg k fcap : Nat) (rest pre : List Value) (hpre : pre.length = k * 4) (hk : k ≤ 4096) (kad : Option Addr) (n kcap : Nat) (sad : Option Addr) (scap gr at_ : Nat) (kcs rc : List Value) (zs : List Nat) (z : Nat) (hn : n ≤ 65536) (hz : zs.length ≤ 65536) (hkl : kcs.length = n * 9) (hrc : rc.length = 9) (h1 : ∀ u ∈ rc, u.oneCell' = true) :
    Mut Try.prog 77 #[Pv g 0, .agg rc.toArray, Iv (z : Nat)] [PB g fg (k + 1) fcap rest, FB fg (k + 1) fcap (pre ++ frC kad n kcap sad zs.length scap gr at_), KR kad n kcap kcs, ZR sad scap zs]
      (fun _ : (Option Addr × Nat) × (Option Addr × Nat) => Iv 0)
      (fun x => [PB g fg (k + 1) fcap rest, FB fg (k + 1) fcap (pre ++ frC x.1.1 (n + 1) x.1.2 x.2.1 (zs.length + 1) x.2.2 gr at_), KR x.1.1 (n + 1) x.1.2 (kcs ++ rc), ZR x.2.1 x.2.2 (zs ++ [z])]) := by
  intro w0 B R w h
  replace h : Sat w0 B (PB g fg (k + 1) fcap rest :: FB fg (k + 1) fcap (pre ++ frC kad n kcap sad zs.length scap gr at_) :: KR kad n kcap kcs :: ZR sad scap zs :: R) w := h
  have htop := top_c g fg k fcap rest (pre ++ frC kad n kcap sad zs.length scap gr at_) hk
  refine calls_of_ES TB Try.func77 rfl _ Try.ntmps77 rfl h ?_
  refine .go ?_; repeat constructor
  (refine EL.box rfl rfl rfl ?_; intro g4)
  refine EL.assign rfl rfl rfl ?_
  refine .go ?_; repeat constructor
  refine EL.move rfl rfl rfl ?_
  refine EL.callM1 rfl rfl rfl ent59 rfl htop (by repeat constructor) ?_
  refine EL.assign rfl rfl rfl ?_
  refine .go ?_; repeat constructor
  refine ES.drawG (X := Nat × Nat) (fun x => [(0, Pv g 0), (2, Iv (z : Nat)), (7, Pv fg (k * 4))]) (fun x => PB g fg (k + 1) fcap rest :: FB fg (k + 1) fcap (pre ++ frC (some ⟨x.1, 0, none⟩) (n + 1) x.2 sad zs.length scap gr at_) :: KR (some ⟨x.1, 0, none⟩) (n + 1) x.2 (kcs ++ rc) :: ZR sad scap zs :: R) 7
    (HA.blk g4 (.cells rc.toArray 82) :: FB fg (k + 1) fcap (pre ++ frC kad n kcap sad zs.length scap gr at_) :: R) mixed (by decide +kernel) (.i (by repeat constructor)) ?_ (fun x => ?_)
  · refine EG.take 0 rfl (by decide +kernel) CutX.no_panic (by decide +kernel) rfl rfl rfl (RV.move rfl) ?_
    refine EG.take 1 rfl (by decide +kernel) CutX.no_panic (by decide +kernel) rfl rfl rfl (RV.nilCheck rfl) ?_
    refine EG.take 2 rfl (by decide +kernel) CutX.no_panic (by decide +kernel) rfl rfl rfl (RV.fieldAddr rfl rfl rfl rfl rfl rfl) ?_
    refine EG.take 3 rfl (by decide +kernel) CutX.no_panic (by decide +kernel) rfl rfl rfl (RV.loadR rfl rfl rfl (by repeat constructor) (pre_at pre _ (k * 4) 0 hpre)) ?_
    refine EG.take 4 rfl (by decide +kernel) CutX.no_panic (by decide +kernel) rfl rfl rfl (RV.loadBA rc rfl rfl rfl (by rw [hrc]; rfl) (by repeat constructor) (by simp)) ?_
    refine EG.take 5 rfl (by decide +kernel) CutX.no_panic (by decide +kernel) rfl rfl rfl (RV.lenL rfl rfl rfl) ?_
    refine EG.loud 6 rfl (by decide +kernel) ?_
    (refine EL.buildSlice1 rfl rfl rfl rfl rfl rfl rfl rfl rfl rfl ?_; intro b16)
    refine EG.next (by decide +kernel) rfl (.i (by repeat constructor)) ?_
    refine EG.loud 7 rfl (by decide +kernel) ?_
    (refine EL.append1 rfl rfl rfl rfl rfl rfl rfl rfl rfl (by repeat constructor) (by repeat constructor) (by first | (intro u hu; simp [Value.cells] at hu; subst hu; rfl) | exact all1 rfl) (by rfl) (by unfold maxLen; omega) (by first | omega | (show 1 * _ ≤ _; omega) | (show 8 * _ ≤ _; omega) | (show 16 * _ ≤ _; omega) | (show 24 * _ ≤ _; omega) | (show _ * 1 ≤ _; omega) | (show _ * 8 ≤ _; omega) | (show _ * 16 ≤ _; omega) | (show _ * 24 ≤ _; omega) | exact Nat.le_trans (Nat.mul_le_mul_right _ (show _ ≤ 1073741824 by omega)) (by decide)) ?_; intro a17 c17)
    refine EG.nextL (by decide +kernel) rfl (by decide +kernel) ?_
    refine EG.take 8 rfl (by decide +kernel) CutX.no_panic (by decide +kernel) rfl rfl rfl (RV.indexAddrL (i := n) rfl rfl rfl rfl rfl (by omega)) ?_
    refine EG.take 10 rfl (by decide +kernel) CutX.no_panic (by decide +kernel) rfl rfl rfl (RV.nilCheck rfl) ?_
    refine EG.take 11 rfl (by decide +kernel) CutX.no_panic (by decide +kernel) rfl rfl rfl (RV.fieldAddr rfl rfl rfl rfl rfl rfl) ?_
    refine EG.fork 9 [12] (by decide +kernel) ⟨⟨_, rfl, ?_⟩, ⟨_, rfl, ?_⟩, trivial⟩
    · (refine EL.storeRA (vs := rc) rfl rfl rfl rfl (by rw [hrc]; rfl) (by repeat constructor) (by rw [List.length_append, hkl, hrc]; exact Nat.le_of_eq (by show 0 + n * 9 + 9 = n * 9 + 9; omega)) h1 ?_; refine EL.rowEq (v := .slice (some ⟨a17, 0, none⟩) (n + 1) c17) (by repeat constructor) (put_end _ _ _ _ (by rw [hkl]; show n * 9 = 0 + n * 9; omega) (by rw [hrc]; rfl)) ?_)
      refine EG.nextL (by decide +kernel) rfl (by decide +kernel) ?_
      refine EG.loud 12 rfl (by decide +kernel) ?_
      (refine EL.storeR rfl rfl rfl rfl rfl rfl (by repeat constructor) (by rw [List.length_append, hpre]; show k * 4 + 0 < k * 4 + 4; omega) ?_; refine EL.rowEq (v := .slice (some ⟨fg, 0, none⟩) (k + 1) fcap) (by repeat constructor) (pre_set pre _ (k * 4) 0 _ hpre) ?_)
      refine EG.nextL (by decide +kernel) rfl (by decide +kernel) ?_
      refine EG.done (by decide +kernel) ?_
      exact PX.cutX (a17, c17) ⟨rfl, rfl, rfl, trivial⟩ (.i (by repeat constructor))
    · (refine EL.storeR rfl rfl rfl rfl rfl rfl (by repeat constructor) (by rw [List.length_append, hpre]; show k * 4 + 0 < k * 4 + 4; omega) ?_; refine EL.rowEq (v := .slice (some ⟨fg, 0, none⟩) (k + 1) fcap) (by repeat constructor) (pre_set pre _ (k * 4) 0 _ hpre) ?_)
      refine EG.nextL (by decide +kernel) rfl (by decide +kernel) ?_
      refine EG.loud 9 rfl (by decide +kernel) ?_
      (refine EL.storeRA (vs := rc) rfl rfl rfl rfl (by rw [hrc]; rfl) (by repeat constructor) (by rw [List.length_append, hkl, hrc]; exact Nat.le_of_eq (by show 0 + n * 9 + 9 = n * 9 + 9; omega)) h1 ?_; refine EL.rowEq (v := .slice (some ⟨a17, 0, none⟩) (n + 1) c17) (by repeat constructor) (put_end _ _ _ _ (by rw [hkl]; show n * 9 = 0 + n * 9; omega) (by rw [hrc]; rfl)) ?_)
      refine EG.nextL (by decide +kernel) rfl (by decide +kernel) ?_
      refine EG.done (by decide +kernel) ?_
      exact PX.cutX (a17, c17) ⟨rfl, rfl, rfl, trivial⟩ (.i (by repeat constructor))
  obtain ⟨kg, kc⟩ := x
  dsimp only
  refine .go ?_; repeat constructor
  refine EL.move rfl rfl rfl ?_
  refine EL.move rfl rfl rfl ?_
  refine EL.nilCheck rfl rfl rfl ?_
  refine EL.fieldAddr rfl rfl rfl rfl rfl rfl rfl rfl ?_
  refine EL.loadR rfl rfl rfl rfl rfl (by repeat constructor) (pre_at pre _ (k * 4) 1 hpre) ?_
  refine EL.move rfl rfl rfl ?_
  (refine EL.buildSlice1 rfl rfl rfl rfl rfl rfl rfl rfl rfl rfl ?_; intro b27)
  (refine EL.append1 rfl rfl rfl rfl rfl rfl rfl rfl rfl (by repeat constructor) (by repeat constructor) (by first | (intro u hu; simp [Value.cells] at hu; subst hu; rfl) | exact all1 rfl) (by rfl) (by unfold maxLen; omega) (by first | omega | (show 1 * _ ≤ _; omega) | (show 8 * _ ≤ _; omega) | (show 16 * _ ≤ _; omega) | (show 24 * _ ≤ _; omega) | (show _ * 1 ≤ _; omega) | (show _ * 8 ≤ _; omega) | (show _ * 16 ≤ _; omega) | (show _ * 24 ≤ _; omega) | exact Nat.le_trans (Nat.mul_le_mul_right _ (show _ ≤ 1073741824 by omega)) (by decide)) ?_; intro a28 c28)
  refine EL.nilCheck rfl rfl rfl ?_
  refine EL.fieldAddr rfl rfl rfl rfl rfl rfl rfl rfl ?_
  (refine EL.storeR rfl rfl rfl rfl rfl rfl (by repeat constructor) (by rw [List.length_append, hpre]; show k * 4 + 1 < k * 4 + 4; omega) ?_; refine EL.rowEq (v := .slice (some ⟨fg, 0, none⟩) (k + 1) fcap) (by repeat constructor) (pre_set pre _ (k * 4) 1 _ hpre) ?_)
  refine .go ?_; repeat constructor
  refine EL.assign rfl rfl rfl ?_
  refine .go ?_; repeat constructor
  refine PX.ret rfl Try.results77 (.cons (.tmp rfl) .nil) (fun w hs => ⟨((some ⟨kg, 0, none⟩, kc), (some ⟨a28, 0, none⟩, c28)), rfl, ?_⟩)
  show Sat w0 B (PB g fg (k + 1) fcap rest :: FB fg (k + 1) fcap (pre ++ frC (some ⟨kg, 0, none⟩) (n + 1) kc (some ⟨a28, 0, none⟩) (zs.length + 1) c28 gr at_) :: KR (some ⟨kg, 0, none⟩) (n + 1) kc (kcs ++ rc) :: HA.row (.slice (some ⟨a28, 0, none⟩) (zs ++ [z]).length c28) 3 1 (zs ++ [z]).length ((zs ++ [z]).map fun z : Nat => Iv (z : Nat)) :: R) w
  rw [List.length_append, List.length_singleton, List.map_append]
  exact hs.ent (.i (by repeat constructor))
end Go.Proofs.Ytblpgpgbnlhjlaa
