/- Texts of this claim, bundled. -/
import Derived.Test.YthcbjbkheodejaaGreatZg2
set_option linter.unusedVariables false
set_option linter.unusedSimpArgs false
namespace Go.Proofs.YthcbjbkheodejaaGreat
open Go Go.RowKit Sl
set_option maxRecDepth 100000
set_option maxHeartbeats 8000000
attribute [local irreducible] ES EL PX wps
abbrev yt (t : List UInt8) : List (List Value) := (toksM t).map fun k => [tokV k]
theorem toks_len (t : List UInt8) : ∀ (n a : Nat) (f b : Bool), (toksGo t n a f b).length ≤ n
  | 0, _, _, _ => Nat.zero_le _
  | n + 1, a, f, b => by
    rw [toksGo]
    split
    · simp
    · dsimp only
      split
      · simp
      · have := toks_len t n (readT t a f b).2 (decide ((readT t a f b).1.kind = 3)) (decide ((readT t a f b).1.kind = 3) || decide ((readT t a f b).1.kind = 1))
        simp only [List.length_cons]; omega
theorem tok1_iter (gs : Nat) (t : List UInt8) (ht : t.length ≤ 1073741824) (W0 : World) (B0 : Nat) (hG : GR W0 B0) : Iter Tryz.prog 53 #[Pv gs 0] (yt t) [HA.blk gs (.cells #[Sv t] 9)] W0 B0 := by
  intro l I Ix hY A R W hI hs
  replace hs : Sat W0 B0 (HA.blk gs (.cells #[Sv t] 9) :: A :: R) W := hs
  refine calls_of_ES TB Tryz.func53 rfl _ Tryz.ntmps53 rfl hs ?_; refine .go ?_; (repeat constructor); refine .as_ ?_; refine .as_ ?_; refine .go ?_; (repeat constructor); refine .as_ ?_; refine .go ?_; repeat constructor
  refine ES.loop (σ := Nat × Nat × Nat × Bool × Bool × HA) (fun (i, n, a, f, b, A) => a ≤ t.length ∧ t.length ≤ n + a ∧ toksGo t n a f b = (toksM t).drop i ∧ i ≤ (toksM t).length ∧ I i A) (fun (i, n, a, f, b, A) => [(0, .func (.yield l) #[] #[]), (1, Pv gs 0), (3, .bool f), (4, .bool b), (5, Iv (a : Nat))])
    (fun (i, n, a, f, b, A) => HA.blk gs (.cells #[Sv t] 9) :: A :: R) (fun (i, n, a, f, b, A) => t.length - a) (0, t.length, 0, true, true, A) ⟨Nat.zero_le _, by omega, rfl, Nat.zero_le _, hI⟩ ⟨rfl, rfl, rfl, rfl, rfl, trivial⟩ (.i (by repeat constructor)) ?_
  rintro ⟨i, n, a, f, b, A⟩ ⟨ha, hn, hgo, hi, hI⟩
  dsimp only at ha hn hgo hi hI ⊢
  refine .go ?_; (repeat constructor); refine .mv ?_; refine .lb ?_; refine .lS ?_; refine .ls ?_; refine .go ?_; repeat constructor
  refine ES.condD rfl (fun hlt => ?_) (fun hge => ?_)
  · have hlt' : a < t.length := by omega
    obtain ⟨m, rfl⟩ : ∃ m, n = m + 1 := ⟨n - 1, by omega⟩
    rw [toksGo, if_neg (by omega)] at hgo
    dsimp only at hgo
    have hnx := readT_at t a f b hlt'
    have hrc := readTok_c t a f b hlt' ht
    generalize readT t a f b = r at hgo hnx hrc
    obtain ⟨k, nx⟩ := r
    dsimp only at hgo hnx hrc
    have hat : (toksM t)[i]? = some k := by
      have : ((toksM t).drop i)[0]? = some k := by rw [← hgo]; split <;> rfl
      simpa using this
    have hilt : i < (toksM t).length := (List.getElem?_eq_some_iff.1 hat).1
    have hx : (yt t)[i]? = some [tokV k] := by rw [List.getElem?_map, hat]; rfl
    refine .go ?_; (repeat constructor); refine .lb ?_; refine .mv ?_; refine .mv ?_; refine .mv ?_; refine EL.callPw rfl rfl rfl ent54 rfl (fun w hs => hrc w (GR.sat hG hs)) ?_; refine .mv ?_; refine .ex ?_; refine .ex ?_; (refine .al ?_; intro g6); refine .sa ?_; refine .as_ ?_; refine .go ?_; (repeat constructor); refine .fa ?_; refine .lb ?_; refine .ei ?_; refine .as_ ?_; refine .go ?_; repeat constructor
    refine EL.cutX (X := Unit) (fun _ => [(0, .func (.yield l) #[] #[]), (1, Pv gs 0), (3, .bool (decide (k.kind = 3))), (4, .bool (decide (k.kind = 3) || decide (k.kind = 1))), (6, Pv g6 0), (7, Iv (nx : Nat))]) (fun _ => HA.blk g6 (.cells (tokCells k) 112) :: HA.blk gs (.cells #[Sv t] 9) :: A :: R) ?_ (fun _ => ?_)
    · refine .go ?_; (repeat constructor); refine .mv ?_; refine .mv ?_
      first | refine EL.splitD (d := 24) rfl (fun hp24 => ?_) (fun hp24 => ?_) | refine EL.splitN (d := 24) rfl (fun hp24 => ?_) (fun hp24 => ?_) | refine EL.splitB (d := 24) rfl (fun hp24 => ?_) (fun hp24 => ?_)
      · refine .ps ?_; refine .ps ?_; refine .ps ?_; refine .pt ?_; refine .as_ ?_
        exact .dx () ⟨rfl, rfl, getA rfl (congrArg Value.bool (by rw [Bool.eq_iff_iff]; simp only [decide_eq_true_eq]; omega)), getA rfl (congrArg Value.bool (by rw [Bool.eq_iff_iff]; simp only [decide_eq_true_eq, Bool.or_eq_true, true_iff]; omega)), rfl, rfl, trivial⟩
      · refine .fa ?_; refine .lb ?_; refine .ei ?_; refine .pf ?_; refine .as_ ?_
        exact .dx () ⟨rfl, rfl, getA rfl (congrArg Value.bool (by rw [Bool.eq_iff_iff]; simp only [decide_eq_true_eq]; omega)), getA rfl (congrArg Value.bool (by rw [Bool.eq_iff_iff]; simp only [decide_eq_true_eq, Bool.or_eq_true, true_iff]; omega)), rfl, rfl, trivial⟩
    refine .go ?_; (repeat constructor); refine .mv ?_; refine .lg ?_
    refine EL.yield rfl rfl rfl rfl hY hI hx (by repeat constructor) (fun A' hI' => ?_) (fun A' hX' => ?_)
    · refine .nt ?_; refine .mv ?_
      refine EL.rew (d := 33) (v' := .bool false) rfl (by first | rfl | (decide) | (simp)) ?_
      refine .fa ?_; refine .lb ?_; refine .ei ?_; refine .pf ?_; refine .go ?_; repeat constructor
      refine ES.condD rfl (fun h7 => ?_) (fun h7 => ?_)
      · rw [if_pos (by omega)] at hgo
        have hlen : (yt t).length = i + 1 := by
          have := congrArg List.length hgo
          simp only [List.length_cons, List.length_nil, List.length_drop] at this
          simp only [List.length_map]; omega
        refine .go ?_; repeat constructor
        exact PX.ret rfl Tryz.results53 .nil (fun w hs => ⟨⟨_, rfl⟩, .inl ⟨A', by rw [hlen]; exact hI', hs.ent (.i (by repeat constructor))⟩⟩)
      · rw [if_neg (by omega)] at hgo
        have hb2 := hnx (by omega)
        refine .go ?_; (repeat constructor); refine .mv ?_; refine .as_ ?_; refine .go ?_; repeat constructor
        refine .ly (i + 1, m, nx, decide (k.kind = 3), decide (k.kind = 3) || decide (k.kind = 1), A') ⟨hb2.2, by simp only; omega, by simp only; have := congrArg List.tail hgo; simpa [List.tail_drop] using this, by simp only; omega, hI'⟩ (by simp only; omega)
    · refine .nt ?_; refine .mv ?_
      refine EL.rew (d := 33) (v' := .bool true) rfl (by first | rfl | (decide) | (simp)) ?_
      refine .ps ?_; refine .ps ?_; refine .ps ?_; refine .pt ?_; refine .go ?_; (repeat constructor); refine ES.condT rfl ?_; refine .go ?_; repeat constructor
      exact PX.ret rfl Tryz.results53 .nil (fun w hs => ⟨⟨_, rfl⟩, .inr ⟨_, A', hX', hs.ent (.i (by repeat constructor))⟩⟩)
  · have hlen : (yt t).length = i := by
      have h1 : toksGo t n a f b = [] := by
        cases n with
        | zero => rfl
        | succ n => rw [toksGo, if_pos (by omega)]
      rw [h1] at hgo
      have := congrArg List.length hgo
      simp only [List.length_nil, List.length_drop] at this
      simp only [List.length_map]; omega
    refine .go ?_; repeat constructor
    exact PX.end rfl Tryz.results53 .nil (fun w hs => ⟨⟨_, rfl⟩, .inl ⟨A, by rw [hlen]; exact hI, hs.ent (.i (by repeat constructor))⟩⟩)
theorem tokens_c (t : List UInt8) (w : World) : Pure Tryz.prog 36 #[Sv t] (fun g : Nat => .func (.func 53) #[] #[Pv g 0]) (fun g => [HA.blk g (.cells #[Sv t] 9)]) w := by
  refine calls_of_ES TB Tryz.func36 rfl _ Tryz.ntmps36 rfl (Sat.start w) ?_; refine .go ?_; (repeat constructor); (refine .bx ?_; intro g1); refine .as_ ?_; refine .go ?_; (repeat constructor); refine EL.makeFunc rfl rfl rfl ?_; refine .as_ ?_; refine .go ?_; repeat constructor
  exact PX.ret rfl Tryz.results36 (.cons (.tmp rfl) .nil) (fun w hs => ⟨g1, rfl, hs.ent (.i (by repeat constructor))⟩)
def frC (kad : Option Addr) (n kcap : Nat) (sad : Option Addr) (m scap gr at_ : Nat) : List Value := [.slice kad n kcap, .slice sad m scap, Iv (gr : Nat), Iv (at_ : Nat)]
theorem pre_at (pre cs : List Value) (k i : Nat) (h : pre.length = k) : (pre ++ cs)[k + i]? = cs[i]? := by
  rw [List.getElem?_append_right (by omega), h]; congr 1; omega
theorem pre_set (pre cs : List Value) (k i : Nat) (u : Value) (h : pre.length = k) : (pre ++ cs).set (k + i) u = pre ++ cs.set i u := by
  rw [List.set_append_right _ _ (by omega), h]; congr 2; omega
abbrev FB (fg m fcap : Nat) (cs : List Value) : HA := HA.row (.slice (some ⟨fg, 0, none⟩) m fcap) 103 4 m cs
abbrev PB (g fg m fcap : Nat) (rest : List Value) : HA := HA.blk g (.cells (Value.slice (some ⟨fg, 0, none⟩) m fcap :: rest).toArray 107)
abbrev KR (kad : Option Addr) (n kcap : Nat) (kcs : List Value) : HA := HA.row (.slice kad n kcap) 46 9 n kcs
abbrev ZR (sad : Option Addr) (scap : Nat) (zs : List Nat) : HA := HA.row (.slice sad zs.length scap) 3 1 zs.length (zs.map fun z : Nat => Iv (z : Nat))
theorem put_end (kcs z9 rc : List Value) (off : Nat) (h1 : kcs.length = off) (h2 : z9.length = rc.length) : putAt (kcs ++ z9) off rc = kcs ++ rc := by
  unfold putAt
  rw [List.take_left' h1, List.drop_of_length_le (by rw [List.length_append]; omega), List.append_nil]
theorem top_c (g fg k fcap : Nat) (rest cs : List Value) (hk : k ≤ 4096) :
    Mut Tryz.prog 38 #[Pv g 0] [PB g fg (k + 1) fcap rest, FB fg (k + 1) fcap cs] (fun _ : Unit => Pv fg (k * 4)) (fun _ => [PB g fg (k + 1) fcap rest, FB fg (k + 1) fcap cs]) := by
  intro w0 B R w h
  replace h : Sat w0 B (PB g fg (k + 1) fcap rest :: FB fg (k + 1) fcap cs :: R) w := h
  refine calls_of_ES TB Tryz.func38 rfl _ Tryz.ntmps38 rfl h ?_; refine .go ?_; (repeat constructor); refine .as_ ?_; refine .go ?_; repeat constructor
  refine ES.draw (X := Unit) (fun _ => [(2, Pv fg (k * 4))]) (fun _ => PB g fg (k + 1) fcap rest :: FB fg (k + 1) fcap cs :: R) (PB g fg (k + 1) fcap rest :: FB fg (k + 1) fcap cs :: R) mixed (.i (by repeat constructor)) ?_ (fun _ => ?_)
  · refine .tk 0 rfl (RV.move rfl) ?_; refine .tk 1 rfl (RV.nilCheck rfl) ?_; refine .tk 2 rfl (RV.fieldAddr rfl rfl rfl rfl rfl rfl) ?_; refine .tk 3 rfl (RV.loadB rfl rfl rfl (by repeat constructor) rfl) ?_; refine .tk 4 rfl (RV.move rfl) ?_; refine .tk 5 rfl (RV.nilCheck rfl) ?_; refine .tk 6 rfl (RV.fieldAddr rfl rfl rfl rfl rfl rfl) ?_; refine .tk 7 rfl (RV.loadB rfl rfl rfl (by repeat constructor) rfl) ?_; refine .tk 8 rfl (RV.lenL rfl rfl rfl) ?_; refine .tk 9 rfl (RV.sub1 rfl rfl (by omega) (by omega)) ?_; refine .tk 10 rfl (RV.indexAddrL rfl rfl rfl rfl rfl (by omega)) ?_; refine .tk 11 rfl (RV.assign rfl) ?_; refine .dn ?_
    exact .cx () ⟨getA rfl (congrArg (Pv fg) (Nat.zero_add _)), trivial⟩
  refine .go ?_; repeat constructor
  exact PX.ret rfl Tryz.results38 (.cons (.tmp rfl) .nil) (fun w hs => ⟨(), rfl, hs.ent (.i (by repeat constructor))⟩)
theorem put_c (g fg k fcap : Nat) (rest pre : List Value) (hpre : pre.length = k * 4) (hk : k ≤ 4096) (kad : Option Addr) (n kcap : Nat) (sad : Option Addr) (scap gr at_ : Nat) (kcs rc : List Value) (zs : List Nat) (z : Nat) (hn : n ≤ 65536) (hz : zs.length ≤ 65536) (hkl : kcs.length = n * 9) (hrc : rc.length = 9) (h1 : ∀ u ∈ rc, u.oneCell' = true) :
    Mut Tryz.prog 55 #[Pv g 0, .agg rc.toArray, Iv (z : Nat)] [PB g fg (k + 1) fcap rest, FB fg (k + 1) fcap (pre ++ frC kad n kcap sad zs.length scap gr at_), KR kad n kcap kcs, ZR sad scap zs]
      (fun _ : (Option Addr × Nat) × (Option Addr × Nat) => Iv 0)
      (fun x => [PB g fg (k + 1) fcap rest, FB fg (k + 1) fcap (pre ++ frC x.1.1 (n + 1) x.1.2 x.2.1 (zs.length + 1) x.2.2 gr at_), KR x.1.1 (n + 1) x.1.2 (kcs ++ rc), ZR x.2.1 x.2.2 (zs ++ [z])]) := by
  intro w0 B R w h
  replace h : Sat w0 B (PB g fg (k + 1) fcap rest :: FB fg (k + 1) fcap (pre ++ frC kad n kcap sad zs.length scap gr at_) :: KR kad n kcap kcs :: ZR sad scap zs :: R) w := h
  have htop := top_c g fg k fcap rest (pre ++ frC kad n kcap sad zs.length scap gr at_) hk
  refine calls_of_ES TB Tryz.func55 rfl _ Tryz.ntmps55 rfl h ?_; refine .go ?_; (repeat constructor); (refine .bx ?_; intro g4); refine .as_ ?_; refine .go ?_; (repeat constructor); refine .mv ?_; refine EL.callM1 rfl rfl rfl ent38 rfl htop (by repeat constructor) ?_; refine .as_ ?_; refine .go ?_; repeat constructor
  refine ES.drawG (X := Nat × Nat) (fun x => [(0, Pv g 0), (2, Iv (z : Nat)), (7, Pv fg (k * 4))]) (fun x => PB g fg (k + 1) fcap rest :: FB fg (k + 1) fcap (pre ++ frC (some ⟨x.1, 0, none⟩) (n + 1) x.2 sad zs.length scap gr at_) :: KR (some ⟨x.1, 0, none⟩) (n + 1) x.2 (kcs ++ rc) :: ZR sad scap zs :: R) 7
    (HA.blk g4 (.cells rc.toArray 46) :: FB fg (k + 1) fcap (pre ++ frC kad n kcap sad zs.length scap gr at_) :: R) mixed (by decide +kernel) (.i (by repeat constructor)) ?_ (fun x => ?_)
  · refine .tk 0 rfl (RV.move rfl) ?_; refine .tk 1 rfl (RV.nilCheck rfl) ?_; refine .tk 2 rfl (RV.fieldAddr rfl rfl rfl rfl rfl rfl) ?_; refine .tk 3 rfl (RV.loadR rfl rfl rfl (by repeat constructor) (pre_at pre _ (k * 4) 0 hpre)) ?_
    refine .tk 4 rfl (RV.loadBA rc rfl rfl rfl (by rw [hrc]; rfl) (by repeat constructor) (by simp)) ?_
    refine .tk 5 rfl (RV.lenL rfl rfl rfl) ?_; refine EG.loud 6 rfl (by decide +kernel) ?_; (refine .b1 ?_; intro b16); refine EG.next (by decide +kernel) rfl (.i (by repeat constructor)) ?_; refine EG.loud 7 rfl (by decide +kernel) ?_
    (refine EL.append1 rfl rfl rfl rfl rfl rfl rfl rfl rfl (by repeat constructor) (by repeat constructor) (by first | (intro u hu; simp [Value.cells] at hu; subst hu; rfl) | exact all1 rfl) (by rfl) (by unfold maxLen; omega) (by first | omega | (show 1 * _ ≤ _; omega) | (show 8 * _ ≤ _; omega) | (show 16 * _ ≤ _; omega) | (show 24 * _ ≤ _; omega) | (show _ * 1 ≤ _; omega) | (show _ * 8 ≤ _; omega) | (show _ * 16 ≤ _; omega) | (show _ * 24 ≤ _; omega) | exact Nat.le_trans (Nat.mul_le_mul_right _ (show _ ≤ 1073741824 by omega)) (by decide)) ?_; intro a17 c17)
    refine EG.nextL (by decide +kernel) rfl (by decide +kernel) ?_; refine .tk 8 rfl (RV.indexAddrL (i := n) rfl rfl rfl rfl rfl (by omega)) ?_; refine .tk 10 rfl (RV.nilCheck rfl) ?_; refine .tk 11 rfl (RV.fieldAddr rfl rfl rfl rfl rfl rfl) ?_
    refine EG.fork 9 [12] (by decide +kernel) ⟨⟨_, rfl, ?_⟩, ⟨_, rfl, ?_⟩, trivial⟩
    · (refine EL.storeRA (vs := rc) rfl rfl rfl rfl (by rw [hrc]; rfl) (by repeat constructor) (by rw [List.length_append, hkl, hrc]; exact Nat.le_of_eq (by show 0 + n * 9 + 9 = n * 9 + 9; omega)) h1 ?_; refine EL.rowEq (v := .slice (some ⟨a17, 0, none⟩) (n + 1) c17) (by repeat constructor) (put_end _ _ _ _ (by rw [hkl]; show n * 9 = 0 + n * 9; omega) (by rw [hrc]; rfl)) ?_)
      refine EG.nextL (by decide +kernel) rfl (by decide +kernel) ?_; refine EG.loud 12 rfl (by decide +kernel) ?_
      (refine EL.storeR rfl rfl rfl rfl rfl rfl (by repeat constructor) (by rw [List.length_append, hpre]; show k * 4 + 0 < k * 4 + 4; omega) ?_; refine EL.rowEq (v := .slice (some ⟨fg, 0, none⟩) (k + 1) fcap) (by repeat constructor) (pre_set pre _ (k * 4) 0 _ hpre) ?_)
      refine EG.nextL (by decide +kernel) rfl (by decide +kernel) ?_; refine .dn ?_
      exact .cy (a17, c17)
    · (refine EL.storeR rfl rfl rfl rfl rfl rfl (by repeat constructor) (by rw [List.length_append, hpre]; show k * 4 + 0 < k * 4 + 4; omega) ?_; refine EL.rowEq (v := .slice (some ⟨fg, 0, none⟩) (k + 1) fcap) (by repeat constructor) (pre_set pre _ (k * 4) 0 _ hpre) ?_)
      refine EG.nextL (by decide +kernel) rfl (by decide +kernel) ?_; refine EG.loud 9 rfl (by decide +kernel) ?_
      (refine EL.storeRA (vs := rc) rfl rfl rfl rfl (by rw [hrc]; rfl) (by repeat constructor) (by rw [List.length_append, hkl, hrc]; exact Nat.le_of_eq (by show 0 + n * 9 + 9 = n * 9 + 9; omega)) h1 ?_; refine EL.rowEq (v := .slice (some ⟨a17, 0, none⟩) (n + 1) c17) (by repeat constructor) (put_end _ _ _ _ (by rw [hkl]; show n * 9 = 0 + n * 9; omega) (by rw [hrc]; rfl)) ?_)
      refine EG.nextL (by decide +kernel) rfl (by decide +kernel) ?_; refine .dn ?_
      exact .cy (a17, c17)
  obtain ⟨kg, kc⟩ := x
  dsimp only
  refine .go ?_; (repeat constructor); refine .mv ?_; refine .mv ?_; refine .nc ?_; refine .fa ?_; refine EL.loadR rfl rfl rfl rfl rfl (by repeat constructor) (pre_at pre _ (k * 4) 1 hpre) ?_; refine .mv ?_; (refine .b1 ?_; intro b27)
  (refine EL.append1 rfl rfl rfl rfl rfl rfl rfl rfl rfl (by repeat constructor) (by repeat constructor) (by first | (intro u hu; simp [Value.cells] at hu; subst hu; rfl) | exact all1 rfl) (by rfl) (by unfold maxLen; omega) (by first | omega | (show 1 * _ ≤ _; omega) | (show 8 * _ ≤ _; omega) | (show 16 * _ ≤ _; omega) | (show 24 * _ ≤ _; omega) | (show _ * 1 ≤ _; omega) | (show _ * 8 ≤ _; omega) | (show _ * 16 ≤ _; omega) | (show _ * 24 ≤ _; omega) | exact Nat.le_trans (Nat.mul_le_mul_right _ (show _ ≤ 1073741824 by omega)) (by decide)) ?_; intro a28 c28)
  refine .nc ?_; refine .fa ?_
  (refine EL.storeR rfl rfl rfl rfl rfl rfl (by repeat constructor) (by rw [List.length_append, hpre]; show k * 4 + 1 < k * 4 + 4; omega) ?_; refine EL.rowEq (v := .slice (some ⟨fg, 0, none⟩) (k + 1) fcap) (by repeat constructor) (pre_set pre _ (k * 4) 1 _ hpre) ?_)
  refine .go ?_; (repeat constructor); refine .as_ ?_; refine .go ?_; repeat constructor
  refine PX.ret rfl Tryz.results55 (.cons (.tmp rfl) .nil) (fun w hs => ⟨((some ⟨kg, 0, none⟩, kc), (some ⟨a28, 0, none⟩, c28)), rfl, ?_⟩)
  show Sat w0 B (PB g fg (k + 1) fcap rest :: FB fg (k + 1) fcap (pre ++ frC (some ⟨kg, 0, none⟩) (n + 1) kc (some ⟨a28, 0, none⟩) (zs.length + 1) c28 gr at_) :: KR (some ⟨kg, 0, none⟩) (n + 1) kc (kcs ++ rc) :: HA.row (.slice (some ⟨a28, 0, none⟩) (zs ++ [z]).length c28) 3 1 (zs ++ [z]).length ((zs ++ [z]).map fun z : Nat => Iv (z : Nat)) :: R) w
  rw [List.length_append, List.length_singleton, List.map_append]
  exact hs.ent (.i (by repeat constructor))
abbrev PR (groups : Nat) (sh : List Bool) (size : Nat) : List Value := Iv (groups : Nat) :: (sh.map Value.bool ++ [Iv (size : Nat)])
theorem setIf_list (l : List Value) (i : Nat) (u : Value) : l.toArray.setIfInBounds i u = (l.set i u).toArray := by simp
theorem pr_size_get (v : Value) (gr size : Nat) (sh : List Bool) (h : sh.length = 10) : (v :: PR gr sh size).toArray[12]? = some (Iv (size : Nat)) := by
  simp only [List.getElem?_toArray, PR, List.getElem?_cons_succ]
  rw [List.getElem?_append_right (by simp; omega)]
  simp [h]
theorem pr_size_set (v : Value) (gr size s2 : Nat) (sh : List Bool) (h : sh.length = 10) : (v :: PR gr sh size).toArray.setIfInBounds 12 (Iv (s2 : Nat)) = (v :: PR gr sh s2).toArray := by
  rw [setIf_list]
  simp only [PR, List.set_cons_succ]
  rw [List.set_append_right _ _ (by simp; omega)]
  simp [h]
theorem pr_shut_get (v : Value) (gr size i : Nat) (sh : List Bool) (hi : i < sh.length) : (v :: PR gr sh size).toArray[2 + i]? = some (.bool (sh.getD i false)) := by
  rw [List.getElem?_toArray, show 2 + i = i + 1 + 1 by omega]
  simp only [PR, List.getElem?_cons_succ]
  rw [List.getElem?_append_left (by simpa using hi), List.getElem?_map, List.getElem?_eq_getElem hi]
  simp [List.getD_eq_getElem?_getD, List.getElem?_eq_getElem hi]
theorem pr_shut_set (v : Value) (gr size i : Nat) (sh : List Bool) (b : Bool) (hi : i < sh.length) : (v :: PR gr sh size).toArray.setIfInBounds (2 + i) (.bool b) = (v :: PR gr (sh.set i b) size).toArray := by
  rw [setIf_list, show 2 + i = i + 1 + 1 by omega]
  simp only [PR, List.set_cons_succ]
  rw [List.set_append_left _ _ (by simpa using hi), List.map_set]
theorem pr_shut_put (v : Value) (gr size i n : Nat) (sh : List Bool) (b : Bool) (hi : i < sh.length) (hn : n = 2 + i) : (v :: PR gr sh size).toArray.setIfInBounds n (.bool b) = (v :: PR gr (sh.set i b) size).toArray := by
  rw [hn]; exact pr_shut_set v gr size i sh b hi
theorem pr_groups_set (v : Value) (gr g2 size : Nat) (sh : List Bool) : (v :: PR gr sh size).toArray.setIfInBounds 1 (Iv (g2 : Nat)) = (v :: PR g2 sh size).toArray := by
  rw [setIf_list]; rfl
theorem pr_frames_set (v u : Value) (rest : List Value) : (v :: rest).toArray.setIfInBounds 0 u = (u :: rest).toArray := by
  rw [setIf_list]; rfl
theorem pr_len (v : Value) (gr size : Nat) (sh : List Bool) (h : sh.length = 10) : (v :: PR gr sh size).toArray.size = 13 := by simp [h]
theorem grow_c (g fg m fcap gr size s2 : Nat) (sh : List Bool) (d : Int) (hsh : sh.length = 10) (hd : (size : Int) + d = (s2 : Nat)) (hs : s2 ≤ 1073741824) :
    Mut Tryz.prog 56 #[Pv g 0, Iv d] [PB g fg m fcap (PR gr sh size)] (fun _ : Unit => Iv (growE s2)) (fun _ => [PB g fg m fcap (PR gr sh s2)]) := by
  intro w0 B R w h
  replace h : Sat w0 B (PB g fg m fcap (PR gr sh size) :: R) w := h
  have hge : growE s2 = if 256 < s2 then 13 else 0 := rfl
  refine calls_of_ES TB Tryz.func56 rfl _ Tryz.ntmps56 rfl h ?_; refine .go ?_; (repeat constructor); refine .as_ ?_; refine .go ?_; (repeat constructor); refine .mv ?_; refine .nc ?_; refine .fa ?_; refine EL.loadB rfl rfl rfl rfl rfl (by repeat constructor) (pr_size_get _ gr size sh hsh) ?_; refine .mv ?_
  refine EL.add ((s2 : Nat) : Int) rfl rfl rfl rfl (by rw [hd]; exact wrap_i64 _ (by omega) (by omega)) ?_
  refine .nc ?_; refine .fa ?_
  (refine EL.storeB rfl rfl rfl rfl rfl rfl (by repeat constructor) (by rw [pr_len _ _ _ _ hsh]; decide) ?_; refine EL.blkEq (g := g) (by repeat constructor) (congrArg (fun a => Obj.cells a 107 (0, 0)) (pr_size_set _ gr size s2 sh hsh)) ?_)
  refine .go ?_; (repeat constructor); refine .mv ?_; refine .nc ?_; refine .fa ?_; refine EL.loadB rfl rfl rfl rfl rfl (by repeat constructor) (pr_size_get _ gr s2 sh hsh) ?_; refine .gt_ ?_; refine .go ?_; repeat constructor
  refine ES.condD rfl (fun hgt => ?_) (fun hle => ?_)
  · rw [if_pos (by omega)] at hge
    rw [hge]
    refine .go ?_; (repeat constructor); refine .as_ ?_; refine .go ?_; repeat constructor
    exact PX.ret rfl Tryz.results56 (.cons (.tmp rfl) .nil) (fun w hs => ⟨(), rfl, hs.ent (.i (by repeat constructor))⟩)
  · rw [if_neg (by omega)] at hge
    rw [hge]
    refine .go ?_; (repeat constructor); refine .as_ ?_; refine .go ?_; repeat constructor
    exact PX.ret rfl Tryz.results56 (.cons (.tmp rfl) .nil) (fun w hs => ⟨(), rfl, hs.ent (.i (by repeat constructor))⟩)
theorem open_full (g fg m fcap : Nat) (rest : List Value) (a : Nat) :
    Mut Tryz.prog 57 #[Pv g 0, Iv (a : Nat)] [PB g fg m fcap (Iv 9 :: rest)] (fun _ : Unit => Iv 4) (fun _ => []) := by
  intro w0 B R w h
  replace h : Sat w0 B (PB g fg m fcap (Iv 9 :: rest) :: R) w := h
  refine calls_of_ES TB Tryz.func57 rfl _ Tryz.ntmps57 rfl h ?_; refine .go ?_; (repeat constructor); refine .as_ ?_; refine .go ?_; (repeat constructor); refine .mv ?_; refine .nc ?_; refine .fa ?_; refine .lb ?_; refine .ei ?_; refine .go ?_; (repeat constructor); refine ES.condK true rfl (decide_eq_true rfl) ?_; refine .go ?_; (repeat constructor); refine .as_ ?_; refine .go ?_; repeat constructor
  exact PX.ret rfl Tryz.results57 (.cons (.tmp rfl) .nil) (fun w hs => ⟨(), rfl, hs.ent (.i (by repeat constructor))⟩)
theorem open_c (g fg m fcap gr size a : Nat) (sh : List Bool) (cs : List Value) (hgr : gr < 9) (hm : m ≤ 4096) :
    Mut Tryz.prog 57 #[Pv g 0, Iv (a : Nat)] [PB g fg m fcap (PR gr sh size), FB fg m fcap cs] (fun _ : Nat × Nat => Iv 0) (fun x => [PB g x.1 (m + 1) x.2 (PR (gr + 1) sh size), FB x.1 (m + 1) x.2 (cs ++ frC none 0 0 none 0 0 (gr + 1) a)]) := by
  intro w0 B R w h
  replace h : Sat w0 B (PB g fg m fcap (PR gr sh size) :: FB fg m fcap cs :: R) w := h
  refine calls_of_ES TB Tryz.func57 rfl _ Tryz.ntmps57 rfl h ?_; refine .go ?_; (repeat constructor); refine .as_ ?_; refine .go ?_; (repeat constructor); refine .mv ?_; refine .nc ?_; refine .fa ?_; refine .lb ?_; refine .ei ?_; refine .go ?_; (repeat constructor); refine ES.condK false rfl (decide_eq_false (by omega)) ?_; refine .go ?_; (repeat constructor); refine .mv ?_; refine .nc ?_; refine .fa ?_; refine .lb ?_; refine .a1 ?_; refine .nc ?_; refine .fa ?_
  (refine EL.storeB rfl rfl rfl rfl rfl rfl (by repeat constructor) (by simp) ?_; refine EL.blkEq (g := g) (by repeat constructor) (congrArg (fun a => Obj.cells a 107 (0, 0)) (pr_groups_set _ gr (gr + 1) size sh)) ?_)
  refine .go ?_; repeat constructor
  refine ES.draw (X := Nat × Nat) (fun x => []) (fun x => PB g x.1 (m + 1) x.2 (PR (gr + 1) sh size) :: FB x.1 (m + 1) x.2 (cs ++ frC none 0 0 none 0 0 (gr + 1) a) :: R) (PB g fg m fcap (PR (gr + 1) sh size) :: R) mixed (.i (by repeat constructor)) ?_ (fun x => ?_)
  · refine .tk 0 rfl (RV.move rfl) ?_; refine .tk 1 rfl (RV.move rfl) ?_; refine .tk 2 rfl (RV.nilCheck rfl) ?_; refine .tk 3 rfl (RV.fieldAddr rfl rfl rfl rfl rfl rfl) ?_; refine .tk 4 rfl (RV.loadB rfl rfl rfl (by repeat constructor) rfl) ?_; refine .tk 5 rfl (RV.move rfl) ?_; refine .tk 6 rfl (RV.nilCheck rfl) ?_; refine .tk 7 rfl (RV.fieldAddr rfl rfl rfl rfl rfl rfl) ?_; refine .tk 8 rfl (RV.loadB rfl rfl rfl (by repeat constructor) rfl) ?_; refine .tk 9 rfl (RV.move rfl) ?_; refine .tk 10 rfl (RV.buildS #[.slice none 0 0, .slice none 0 0, _, _] rfl rfl rfl rfl rfl) ?_; refine .ld 11 ?_; (refine .b1 ?_; intro b28); refine .nx ?_; refine .ld 12 ?_
    (refine EL.append1 rfl rfl rfl rfl rfl rfl rfl rfl rfl (by repeat constructor) (by repeat constructor) (by first | (intro u hu; simp [Value.cells] at hu; subst hu; rfl) | exact all1 rfl) (by rfl) (by unfold maxLen; omega) (by first | omega | (show 1 * _ ≤ _; omega) | (show 8 * _ ≤ _; omega) | (show 16 * _ ≤ _; omega) | (show 24 * _ ≤ _; omega) | (show _ * 1 ≤ _; omega) | (show _ * 8 ≤ _; omega) | (show _ * 16 ≤ _; omega) | (show _ * 24 ≤ _; omega) | exact Nat.le_trans (Nat.mul_le_mul_right _ (show _ ≤ 1073741824 by omega)) (by decide)) ?_; intro a29 c29)
    refine .nx ?_; refine .tk 13 rfl (RV.nilCheck rfl) ?_; refine .tk 14 rfl (RV.fieldAddr rfl rfl rfl rfl rfl rfl) ?_; refine ED.last 15 rfl (by decide +kernel) (by decide +kernel) (by decide +kernel) ?_
    (refine EL.storeB rfl rfl rfl rfl rfl rfl (by repeat constructor) (by simp) ?_; refine EL.blkEq (g := g) (by repeat constructor) (congrArg (fun a => Obj.cells a 107 (0, 0)) (pr_frames_set _ _ _)) ?_)
    refine EL.endQ ?_
    exact .cx (a29, c29) trivial
  refine .go ?_; (repeat constructor); refine .as_ ?_; refine .go ?_; repeat constructor
  exact PX.ret rfl Tryz.results57 (.cons (.tmp rfl) .nil) (fun w hs => ⟨x, rfl, hs.ent (.i (by repeat constructor))⟩)
theorem Sat.repTree {w0 w : World} {B e b lo : Nat} {hi : Int} {R : List HA} {fp : List Nat} {init : List RE} {last : RE} {kcs c9 : List Value} (hc9 : c9 = kcs.drop (init.length * 9)) (h : Sat w0 B (HA.row (.slice (some ⟨b, 0, none⟩) 1 1) e 9 1 c9 :: HA.forest fp (init ++ [last]) kcs :: R) w) :
    Sat w0 B (HA.forest (b :: fp) (init ++ [.rep lo hi last]) (kcs.take (init.length * 9) ++ reCells (.rep lo hi last) (.slice (some ⟨b, 0, none⟩) 1 1)) :: R) w :=
  Sat.rule (Hs := [HA.row (.slice (some ⟨b, 0, none⟩) 1 1) e 9 1 c9, HA.forest fp (init ++ [last]) kcs]) h (by simp only [fps, List.flatMap_cons, List.flatMap_nil, HA.forest, HA.row, List.append_nil]; exact List.Perm.refl _) (fun hh => by
    have h1 : w.ownsRow 0 e 9 (.slice (some ⟨b, 0, none⟩) 1 1) 1 c9 := hh (HA.row (.slice (some ⟨b, 0, none⟩) 1 1) e 9 1 c9) (by simp)
    have h2 : Forest (· ∈ fp) w (init ++ [last]) kcs := hh (HA.forest fp (init ++ [last]) kcs) (by simp)
    have h3 : Forest (· ∈ b :: fp) w (init ++ [last]) kcs := h2.mono (fun g hg => List.mem_cons_of_mem _ hg)
    have h4 := h3.take init.length
    have h5 := h3.drop init.length
    rw [List.take_left] at h4
    rw [List.drop_left, ← hc9] at h5
    exact h4.append (Forest.one (.rep lo hi last) (some ⟨b, 0, none⟩) 1 c9 (Nat.le_refl 1) h5 (fun _ => ⟨b, 0, rfl, List.mem_cons_self, row_reads h1⟩)))
theorem set_last (zs0 : List Nat) (z z2 n : Nat) (h : zs0.length = n) : ((zs0 ++ [z]).map fun z : Nat => Iv (z : Nat)).set n (Iv (z2 : Nat)) = ((zs0 ++ [z2]).map fun z : Nat => Iv (z : Nat)) := by
  subst h
  rw [List.map_append, List.map_append, List.set_append_right _ _ (by simp)]
  simp
theorem put_last (kcs rc : List Value) (off : Nat) (h1 : kcs.length = off + rc.length) : putAt kcs off rc = kcs.take off ++ rc := by
  unfold putAt
  rw [List.drop_of_length_le (by omega), List.append_nil]
theorem rep_c (g fg k fcap gr size : Nat) (sh : List Bool) (hsh : sh.length = 10) (pre : List Value) (hpre : pre.length = k * 4) (hk : k ≤ 4096) (kad : Option Addr) (kcap : Nat) (sad : Option Addr) (scap fgr fat : Nat) (init : List RE) (last : RE) (kcs : List Value) (zs0 : List Nat) (z : Nat) (fp : List Nat) (lo : Nat) (hi : Int)
    (hz0 : zs0.length = init.length) (hn : init.length ≤ 65536) (hlo : lo ≤ 255) (hh0 : -1 ≤ hi) (hh1 : hi ≤ 255) (hz : z ≤ 256) (hzs : z ≤ size) (hsz : size ≤ 256) (hkl : kcs.length = (init.length + 1) * 9) :
    Mut Tryz.prog 59 #[Pv g 0, Iv (lo : Nat), Iv hi] [PB g fg (k + 1) fcap (PR gr sh size), FB fg (k + 1) fcap (pre ++ frC kad (init.length + 1) kcap sad (zs0.length + 1) scap fgr fat), KR kad (init.length + 1) kcap kcs, HA.row (.slice sad (zs0.length + 1) scap) 3 1 (zs0.length + 1) ((zs0 ++ [z]).map fun z : Nat => Iv (z : Nat)), HA.forest fp (init ++ [last]) kcs]
      (fun _ : Nat => Iv (growE (size - z + z * timesM lo hi)))
      (fun b => [PB g fg (k + 1) fcap (PR gr sh (size - z + z * timesM lo hi)), FB fg (k + 1) fcap (pre ++ frC kad (init.length + 1) kcap sad (zs0.length + 1) scap fgr fat), KR kad (init.length + 1) kcap (kcs.take (init.length * 9) ++ reCells (.rep lo hi last) (.slice (some ⟨b, 0, none⟩) 1 1)), HA.row (.slice sad (zs0.length + 1) scap) 3 1 (zs0.length + 1) ((zs0 ++ [z * timesM lo hi]).map fun z : Nat => Iv (z : Nat)), HA.forest (b :: fp) (init ++ [.rep lo hi last]) (kcs.take (init.length * 9) ++ reCells (.rep lo hi last) (.slice (some ⟨b, 0, none⟩) 1 1))]) := by
  intro w0 B R w h
  replace h : Sat w0 B (PB g fg (k + 1) fcap (PR gr sh size) :: FB fg (k + 1) fcap (pre ++ frC kad (init.length + 1) kcap sad (zs0.length + 1) scap fgr fat) :: KR kad (init.length + 1) kcap kcs :: HA.row (.slice sad (zs0.length + 1) scap) 3 1 (zs0.length + 1) ((zs0 ++ [z]).map fun z : Nat => Iv (z : Nat)) :: HA.forest fp (init ++ [last]) kcs :: R) w := h
  obtain ⟨kg, rfl⟩ := (row_form (h.all (KR kad (init.length + 1) kcap kcs) (by simp))).2.2.2.2 (by omega)
  obtain ⟨sg, rfl⟩ := (row_form (h.all (HA.row (.slice sad (zs0.length + 1) scap) 3 1 (zs0.length + 1) ((zs0 ++ [z]).map fun z : Nat => Iv (z : Nat))) (by simp))).2.2.2.2 (by omega)
  have htop := top_c g fg k fcap (PR gr sh size) (pre ++ frC (some ⟨kg, 0, none⟩) (init.length + 1) kcap (some ⟨sg, 0, none⟩) (zs0.length + 1) scap fgr fat) hk
  obtain ⟨tm, htm⟩ : ∃ tm, tm = timesM lo hi := ⟨_, rfl⟩
  have htm2 : tm ≤ 255 ∨ tm ≤ 256 := by rw [htm]; unfold timesM; split <;> omega
  have hmul : z * tm ≤ 256 * 256 := Nat.mul_le_mul hz (by omega)
  rw [← htm]
  obtain ⟨c9, hc9⟩ : ∃ c9, c9 = kcs.drop (init.length * 9) := ⟨_, rfl⟩
  have hc9l : c9.length = 9 := by rw [hc9, List.length_drop]; omega
  obtain ⟨H0, hH0⟩ : ∃ H0, H0 = HA.forest fp (init ++ [last]) kcs := ⟨_, rfl⟩
  rw [← hH0] at h
  refine calls_of_ES TB Tryz.func59 rfl _ Tryz.ntmps59 rfl h ?_; refine .go ?_; (repeat constructor); refine .as_ ?_; refine .go ?_; (repeat constructor); refine .mv ?_; refine EL.callM1 rfl rfl rfl ent38 rfl htop (by repeat constructor) ?_; refine .as_ ?_; refine .go ?_; (repeat constructor); refine .mv ?_; refine .nc ?_; refine .fa ?_; refine EL.loadR rfl rfl rfl rfl rfl (by repeat constructor) (pre_at pre _ (k * 4) 0 hpre) ?_; refine .lL ?_; refine EL.sub1 rfl rfl rfl rfl (by omega) (by omega) ?_; refine .as_ ?_; refine .go ?_; (repeat constructor); refine .mv ?_; refine .as_ ?_; refine .go ?_; (repeat constructor); refine .go ?_; (repeat constructor); refine .mv ?_; refine .ls ?_; refine .go ?_; repeat constructor
  refine ES.cutC (X := Unit) (fun _ => [(0, Pv g 0), (1, Iv (lo : Nat)), (2, Iv hi), (7, Pv fg (k * 4)), (8, Iv (init.length : Nat)), (9, Iv (tm : Nat))]) (fun _ => PB g fg (k + 1) fcap (PR gr sh size) :: FB fg (k + 1) fcap (pre ++ frC (some ⟨kg, 0, none⟩) (init.length + 1) kcap (some ⟨sg, 0, none⟩) (zs0.length + 1) scap fgr fat) :: KR (some ⟨kg, 0, none⟩) (init.length + 1) kcap kcs :: HA.row (.slice (some ⟨sg, 0, none⟩) (zs0.length + 1) scap) 3 1 (zs0.length + 1) ((zs0 ++ [z]).map fun z : Nat => Iv (z : Nat)) :: H0 :: R) ?_ (fun _ => ?_)
  · refine ES.condD rfl (fun hneg => ?_) (fun hpos => ?_)
    · refine .go ?_; (repeat constructor); refine .mv ?_
      refine EL.ofRV (RV.maxI rfl rfl) rfl rfl rfl (by intro c h; cases h) ?_
      refine .as_ ?_; refine .go ?_; repeat constructor
      exact .cx () ⟨rfl, rfl, rfl, rfl, rfl, getA rfl (congrArg Iv (by rw [htm]; unfold timesM; rw [if_pos hneg]; omega)), trivial⟩
    · refine .go ?_; repeat constructor
      exact .cx () ⟨rfl, rfl, rfl, rfl, rfl, getA rfl (congrArg Iv (by rw [htm]; unfold timesM; rw [if_neg hpos]; omega)), trivial⟩
  refine .go ?_; (repeat constructor); refine .mv ?_; refine .nc ?_; refine .fa ?_; refine EL.loadR rfl rfl rfl rfl rfl (by repeat constructor) (pre_at pre _ (k * 4) 1 hpre) ?_; refine .mv ?_; refine .i1 ?_
  refine EL.loadR (v := Iv (z : Nat)) rfl rfl rfl rfl rfl (by repeat constructor) (by rw [List.map_append, List.getElem?_append_right (by simp [hz0])]; simp [hz0]) ?_
  refine .as_ ?_; refine .go ?_; repeat constructor
  refine ES.draw (X := Nat) (fun b => [(0, Pv g 0), (7, Pv fg (k * 4)), (8, Iv (init.length : Nat)), (9, Iv (tm : Nat)), (10, Iv (z : Nat))]) (fun b => PB g fg (k + 1) fcap (PR gr sh size) :: FB fg (k + 1) fcap (pre ++ frC (some ⟨kg, 0, none⟩) (init.length + 1) kcap (some ⟨sg, 0, none⟩) (zs0.length + 1) scap fgr fat) :: KR (some ⟨kg, 0, none⟩) (init.length + 1) kcap (kcs.take (init.length * 9) ++ reCells (.rep lo hi last) (.slice (some ⟨b, 0, none⟩) 1 1)) :: HA.row (.slice (some ⟨sg, 0, none⟩) (zs0.length + 1) scap) 3 1 (zs0.length + 1) ((zs0 ++ [z]).map fun z : Nat => Iv (z : Nat)) :: HA.row (.slice (some ⟨b, 0, none⟩) 1 1) 46 9 1 c9 :: H0 :: R)
    (FB fg (k + 1) fcap (pre ++ frC (some ⟨kg, 0, none⟩) (init.length + 1) kcap (some ⟨sg, 0, none⟩) (zs0.length + 1) scap fgr fat) :: KR (some ⟨kg, 0, none⟩) (init.length + 1) kcap kcs :: R) mixed (.i (by repeat constructor)) ?_ (fun b => ?_)
  · refine .tk 0 rfl (RV.move rfl) ?_; refine .tk 1 rfl (RV.nilCheck rfl) ?_; refine .tk 2 rfl (RV.fieldAddr rfl rfl rfl rfl rfl rfl) ?_; refine .tk 3 rfl (RV.loadR rfl rfl rfl (by repeat constructor) (pre_at pre _ (k * 4) 0 hpre)) ?_; refine .tk 4 rfl (RV.move rfl) ?_; refine .tk 5 rfl (RV.move rfl) ?_; refine .tk 6 rfl (RV.move rfl) ?_; refine .tk 7 rfl (RV.move rfl) ?_; refine .tk 8 rfl (RV.nilCheck rfl) ?_; refine .tk 9 rfl (RV.fieldAddr rfl rfl rfl rfl rfl rfl) ?_; refine .tk 10 rfl (RV.loadR rfl rfl rfl (by repeat constructor) (pre_at pre _ (k * 4) 0 hpre)) ?_; refine .tk 11 rfl (RV.move rfl) ?_; refine .tk 12 rfl (RV.indexAddrL rfl rfl rfl rfl rfl (by omega)) ?_
    refine .tk 13 rfl (RV.loadRA c9 rfl rfl rfl (by rw [hc9l]; rfl) (by repeat constructor) (by rw [hc9l, show 0 + init.length * ty46.size = init.length * 9 from Nat.zero_add _, ← hc9, List.take_of_length_le (by omega)])) ?_
    refine .ld 14 ?_
    (refine EL.buildSlice1 rfl rfl rfl rfl rfl rfl (by show c9.toArray.size = 9; simp [hc9l]) rfl rfl rfl ?_; intro b45)
    refine .nx ?_; refine .tk 15 rfl (RV.buildS (reCells (.rep lo hi last) (.slice (some ⟨b45, 0, none⟩) 1 1)).toArray rfl rfl rfl rfl rfl) ?_; refine .tk 16 rfl (RV.indexAddrL rfl rfl rfl rfl rfl (by omega)) ?_; refine ED.last 17 rfl (by decide +kernel) (by decide +kernel) (by decide +kernel) ?_
    (refine EL.storeRA (vs := reCells (.rep lo hi last) (.slice (some ⟨b45, 0, none⟩) 1 1)) rfl rfl rfl rfl rfl (by repeat constructor) (by rw [hkl]; show 0 + init.length * 9 + 9 ≤ _; omega) (all1 rfl) ?_; refine EL.rowEq (v := .slice (some ⟨kg, 0, none⟩) (init.length + 1) kcap) (by repeat constructor) (put_last _ _ _ (by rw [hkl]; show (init.length + 1) * 9 = 0 + init.length * 9 + 9; omega)) ?_)
    refine EL.endQ ?_
    exact PX.cutX b45 ⟨rfl, rfl, rfl, rfl, rfl, trivial⟩ (by rw [show 0 + init.length * ty46.size = init.length * 9 from Nat.zero_add _]; exact (.i (by repeat constructor)))
  have hgr := grow_c g fg (k + 1) fcap gr size (size - z + z * tm) sh (((z * tm : Nat) : Int) - (z : Int)) hsh (by omega) (by omega)
  refine .go ?_; (repeat constructor); refine .mv ?_; refine .nc ?_; refine .fa ?_; refine EL.loadR rfl rfl rfl rfl rfl (by repeat constructor) (pre_at pre _ (k * 4) 1 hpre) ?_; refine .mv ?_; refine .mv ?_; refine .mv ?_; refine EL.mulN rfl rfl rfl rfl rfl (by omega) ?_; refine .i1 ?_
  (refine EL.storeR rfl rfl rfl rfl rfl rfl (by repeat constructor) (by simp [hz0]) ?_; refine EL.rowEq (v := .slice (some ⟨sg, 0, none⟩) (zs0.length + 1) scap) (by repeat constructor) (set_last zs0 z (z * tm) init.length hz0) ?_)
  refine .go ?_; (repeat constructor); refine .mv ?_; refine .mv ?_; refine .mv ?_; refine EL.mulN rfl rfl rfl rfl rfl (by omega) ?_; refine .mv ?_; refine EL.sub_ (((z * tm : Nat) : Int) - (z : Int)) rfl rfl rfl rfl (wrap_i64 _ (by omega) (by omega)) ?_; refine EL.callM1 rfl rfl rfl ent56 rfl hgr (by repeat constructor) ?_; refine .as_ ?_; refine .go ?_; repeat constructor
  refine PX.ret rfl Tryz.results59 (.cons (.tmp rfl) .nil) (fun w hs => ⟨b, rfl, ?_⟩)
  rw [hH0] at hs
  have h2 := Sat.repTree (lo := lo) (hi := hi) hc9 (hs.ent (H' := HA.row (.slice (some ⟨b, 0, none⟩) 1 1) 46 9 1 c9 :: HA.forest fp (init ++ [last]) kcs :: PB g fg (k + 1) fcap (PR gr sh (size - z + z * tm)) :: FB fg (k + 1) fcap (pre ++ frC (some ⟨kg, 0, none⟩) (init.length + 1) kcap (some ⟨sg, 0, none⟩) (zs0.length + 1) scap fgr fat) :: KR (some ⟨kg, 0, none⟩) (init.length + 1) kcap (kcs.take (init.length * 9) ++ reCells (.rep lo hi last) (.slice (some ⟨b, 0, none⟩) 1 1)) :: HA.row (.slice (some ⟨sg, 0, none⟩) (zs0.length + 1) scap) 3 1 (zs0.length + 1) ((zs0 ++ [z * tm]).map fun z : Nat => Iv (z : Nat)) :: R) (.i (by repeat constructor)))
  exact h2.ent (.i (by repeat constructor))
theorem close_none (g fg fcap : Nat) (rest : List Value) :
    Mut Tryz.prog 58 #[Pv g 0] [PB g fg 1 fcap rest] (fun _ : Unit => Iv 10) (fun _ => []) := by
  intro w0 B R w h
  replace h : Sat w0 B (PB g fg 1 fcap rest :: R) w := h
  refine calls_of_ES TB Tryz.func58 rfl _ Tryz.ntmps58 rfl h ?_; refine .go ?_; (repeat constructor); refine .as_ ?_; refine .go ?_; (repeat constructor); refine .mv ?_; refine .nc ?_; refine .fa ?_; refine .lb ?_; refine .lL ?_; refine .ei ?_; refine .go ?_; (repeat constructor); refine ES.condK true rfl (decide_eq_true rfl) ?_; refine .go ?_; (repeat constructor); refine .as_ ?_; refine .go ?_; repeat constructor
  exact PX.ret rfl Tryz.results58 (.cons (.tmp rfl) .nil) (fun w hs => ⟨(), rfl, hs.ent (.i (by repeat constructor))⟩)
abbrev grC (tgr : Nat) (tks : List RE) (b : Nat) : List Value := reCells (.group tgr (.cat tks)) (.slice (some ⟨b, 0, none⟩) 1 1)
theorem take_sum (zs : List Nat) (i : Nat) (h : i < zs.length) : (zs.take (i + 1)).sum = (zs.take i).sum + zs.getD i 0 := by
  rw [List.take_succ_eq_append_getElem h, List.sum_append]
  simp [List.getD_eq_getElem?_getD, List.getElem?_eq_getElem h]
theorem take_sum_le (zs : List Nat) (i : Nat) : (zs.take i).sum ≤ zs.sum := by
  conv => rhs; rw [← List.take_append_drop i zs]
  rw [List.sum_append]; omega
theorem close_c (g fg k fcap gr size : Nat) (sh : List Bool) (hsh : sh.length = 10) (pre : List Value) (hpre : pre.length = k * 4) (hk : k + 2 ≤ 4096)
    (pad : Option Addr) (pcap : Nat) (psad : Option Addr) (pscap pgr pat : Nat) (pks : List RE) (pkcs : List Value) (pzs : List Nat) (pfp : List Nat) (hpn : pks.length ≤ 65535) (hpz : pzs.length ≤ 65535) (hpl : pkcs.length = pks.length * 9)
    (kad : Option Addr) (kcap : Nat) (sad : Option Addr) (scap tgr tat : Nat) (tks : List RE) (tkcs : List Value) (tzs : List Nat) (tfp : List Nat) (htg : tgr ≤ 9) (hts : tzs.sum ≤ 256) (htn : tzs.length ≤ 65535) :
    Mut Tryz.prog 58 #[Pv g 0] [PB g fg (k + 2) fcap (PR gr sh size), FB fg (k + 2) fcap ((pre ++ frC pad pks.length pcap psad pzs.length pscap pgr pat) ++ frC kad tks.length kcap sad tzs.length scap tgr tat), KR pad pks.length pcap pkcs, ZR psad pscap pzs, HA.forest pfp pks pkcs, KR kad tks.length kcap tkcs, ZR sad scap tzs, HA.forest tfp tks tkcs]
      (fun _ : ((Option Addr × Nat) × (Option Addr × Nat)) × Nat => Iv 0)
      (fun x => [PB g fg (k + 1) fcap (PR gr (sh.set tgr true) size), FB fg (k + 1) fcap (pre ++ frC x.1.1.1 (pks.length + 1) x.1.1.2 x.1.2.1 (pzs.length + 1) x.1.2.2 pgr pat), KR x.1.1.1 (pks.length + 1) x.1.1.2 (pkcs ++ grC tgr tks x.2), ZR x.1.2.1 x.1.2.2 (pzs ++ [tzs.sum]), HA.forest (pfp ++ ([x.2] ++ ((Value.slice kad tks.length kcap).ownBlock.toList ++ tfp))) (pks ++ [.group tgr (.cat tks)]) (pkcs ++ grC tgr tks x.2)]) := by
  intro w0 B R w h
  have hcap : k + 2 ≤ fcap := (row_form (h.all (FB fg (k + 2) fcap ((pre ++ frC pad pks.length pcap psad pzs.length pscap pgr pat) ++ frC kad tks.length kcap sad tzs.length scap tgr tat)) (by simp))).2.1
  obtain ⟨F0, hF0⟩ : ∃ F0, F0 = HA.forest pfp pks pkcs := ⟨_, rfl⟩
  obtain ⟨F1, hF1⟩ : ∃ F1, F1 = HA.forest tfp tks tkcs := ⟨_, rfl⟩
  obtain ⟨K1, hK1⟩ : ∃ K1, K1 = KR kad tks.length kcap tkcs := ⟨_, rfl⟩
  replace h : Sat w0 B (PB g fg (k + 2) fcap (PR gr sh size) :: FB fg (k + 2) fcap ((pre ++ frC pad pks.length pcap psad pzs.length pscap pgr pat) ++ frC kad tks.length kcap sad tzs.length scap tgr tat) :: KR pad pks.length pcap pkcs :: ZR psad pscap pzs :: F0 :: K1 :: ZR sad scap tzs :: F1 :: R) w := by rw [hF0, hF1, hK1]; exact h
  have hp2 : (pre ++ frC pad pks.length pcap psad pzs.length pscap pgr pat).length = (k + 1) * 4 := by rw [List.length_append, hpre]; simp [frC]; omega
  have htop := top_c g fg (k + 1) fcap (PR gr sh size) ((pre ++ frC pad pks.length pcap psad pzs.length pscap pgr pat) ++ frC kad tks.length kcap sad tzs.length scap tgr tat) (by omega)
  have htl := take_sum_le tzs
  refine calls_of_ES TB Tryz.func58 rfl _ Tryz.ntmps58 rfl h ?_; refine .go ?_; (repeat constructor); refine .as_ ?_; refine .go ?_; (repeat constructor); refine .mv ?_; refine .nc ?_; refine .fa ?_; refine .lb ?_; refine .lL ?_; refine .ei ?_; refine .go ?_; (repeat constructor); refine ES.condK false rfl (decide_eq_false (by omega)) ?_; refine .go ?_; (repeat constructor); refine .mv ?_; refine EL.callM1 rfl rfl rfl ent38 rfl htop (by repeat constructor) ?_; refine .nc ?_
  refine EL.ofRV (RV.loadRA (frC kad tks.length kcap sad tzs.length scap tgr tat) rfl rfl rfl rfl (by repeat constructor) (by rw [List.drop_left' hp2]; rfl)) rfl rfl rfl (by intro c h; cases h) ?_
  (refine .al ?_; intro g3); refine .sa ?_; refine .go ?_; repeat constructor
  refine ES.draw (X := Unit) (fun _ => [(0, Pv g 0), (3, Pv g3 0)]) (fun _ => HA.blk g3 (.cells (frC kad tks.length kcap sad tzs.length scap tgr tat).toArray 103) :: PB g fg (k + 1) fcap (PR gr sh size) :: FB fg (k + 2) fcap ((pre ++ frC pad pks.length pcap psad pzs.length pscap pgr pat) ++ frC kad tks.length kcap sad tzs.length scap tgr tat) :: KR pad pks.length pcap pkcs :: ZR psad pscap pzs :: F0 :: K1 :: ZR sad scap tzs :: F1 :: R) (PB g fg (k + 2) fcap (PR gr sh size) :: R) mixed (.i (by repeat constructor)) ?_ (fun _ => ?_)
  · refine .tk 0 rfl (RV.move rfl) ?_; refine .tk 1 rfl (RV.move rfl) ?_; refine .tk 2 rfl (RV.nilCheck rfl) ?_; refine .tk 3 rfl (RV.fieldAddr rfl rfl rfl rfl rfl rfl) ?_; refine .tk 4 rfl (RV.loadB rfl rfl rfl (by repeat constructor) rfl) ?_; refine .tk 5 rfl (RV.move rfl) ?_; refine .tk 6 rfl (RV.nilCheck rfl) ?_; refine .tk 7 rfl (RV.fieldAddr rfl rfl rfl rfl rfl rfl) ?_; refine .tk 8 rfl (RV.loadB rfl rfl rfl (by repeat constructor) rfl) ?_; refine .tk 9 rfl (RV.lenL rfl rfl rfl) ?_; refine .tk 10 rfl (RV.sub1 rfl rfl (by omega) (by omega)) ?_; refine .tk 11 rfl (RV.sliceHi (hi := k + 1) rfl rfl rfl rfl rfl (by omega)) ?_; refine .tk 12 rfl (RV.nilCheck rfl) ?_; refine .tk 13 rfl (RV.fieldAddr rfl rfl rfl rfl rfl rfl) ?_; refine ED.last 14 rfl (by decide +kernel) (by decide +kernel) (by decide +kernel) ?_
    (refine EL.storeB rfl rfl rfl rfl rfl rfl (by repeat constructor) (by simp) ?_; refine EL.blkEq (g := g) (by repeat constructor) (congrArg (fun a => Obj.cells a 107 (0, 0)) (pr_frames_set _ _ _)) ?_)
    refine EL.endQ ?_
    exact .cy ()
  refine ES.imp (H' := HA.blk g3 (.cells (frC kad tks.length kcap sad tzs.length scap tgr tat).toArray 103) :: PB g fg (k + 1) fcap (PR gr sh size) :: FB fg (k + 1) fcap (pre ++ frC pad pks.length pcap psad pzs.length pscap pgr pat) :: KR pad pks.length pcap pkcs :: ZR psad pscap pzs :: F0 :: K1 :: ZR sad scap tzs :: F1 :: R) (fun w hs => ?_) ?_
  · have h1 := Sat.cutRow (m := k + 1) (hs.ent (H' := FB fg (k + 2) fcap ((pre ++ frC pad pks.length pcap psad pzs.length pscap pgr pat) ++ frC kad tks.length kcap sad tzs.length scap tgr tat) :: HA.blk g3 (.cells (frC kad tks.length kcap sad tzs.length scap tgr tat).toArray 103) :: PB g fg (k + 1) fcap (PR gr sh size) :: KR pad pks.length pcap pkcs :: ZR psad pscap pzs :: F0 :: K1 :: ZR sad scap tzs :: F1 :: R) (.i (by repeat constructor))) (by omega)
    rw [List.take_left' hp2] at h1
    exact h1.ent (.i (by repeat constructor))
  refine .g0 ?_; repeat constructor
  refine ES.drawG (X := Unit) (fun _ => [(0, Pv g 0), (3, Pv g3 0)]) (fun _ => HA.blk g3 (.cells (frC kad tks.length kcap sad tzs.length scap tgr tat).toArray 103) :: PB g fg (k + 1) fcap (PR gr (sh.set tgr true) size) :: FB fg (k + 1) fcap (pre ++ frC pad pks.length pcap psad pzs.length pscap pgr pat) :: KR pad pks.length pcap pkcs :: ZR psad pscap pzs :: F0 :: K1 :: ZR sad scap tzs :: F1 :: R) 6 (HA.blk g3 (.cells (frC kad tks.length kcap sad tzs.length scap tgr tat).toArray 103) :: R) mixed (by decide +kernel) (.i (by repeat constructor)) ?_ (fun _ => ?_)
  · refine .tk 0 rfl (RV.move rfl) ?_; refine .tk 1 rfl (RV.fieldAddr rfl rfl rfl rfl rfl rfl) ?_; refine .tk 2 rfl (RV.loadB rfl rfl rfl (by repeat constructor) rfl) ?_; refine .tk 3 rfl (RV.nilCheck rfl) ?_; refine .tk 4 rfl (RV.fieldAddr rfl rfl rfl rfl rfl rfl) ?_; refine .tk 5 rfl (RV.indexAddrA rfl rfl rfl rfl rfl (by omega)) ?_; refine EG.loud 6 rfl (by decide +kernel) ?_
    (refine EL.storeB rfl rfl rfl rfl rfl rfl (by repeat constructor) (by rw [pr_len _ _ _ _ hsh]; show 0 + 2 + tgr * 1 < 13; omega) ?_; refine EL.blkEq (g := g) (by repeat constructor) (congrArg (fun a => Obj.cells a 107 (0, 0)) (pr_shut_put _ gr size tgr _ sh true (by omega) (by show 0 + 2 + tgr * 1 = 2 + tgr; omega))) ?_)
    refine EG.nextL (by decide +kernel) rfl (by decide +kernel) ?_; refine .dn ?_
    exact .cy ()
  refine .go ?_; (repeat constructor); refine .as_ ?_; refine .go ?_; (repeat constructor); refine .fa ?_; refine .lb ?_; refine .lL ?_; refine .mv ?_; refine .go ?_; repeat constructor
  refine ES.loop (σ := Nat) (fun i => i ≤ tzs.length) (fun i => [(0, Pv g 0), (3, Pv g3 0), (4, Iv ((tzs.take i).sum : Nat)), (38, .slice sad tzs.length scap), (39, Iv (tzs.length : Nat)), (40, Iv (i : Nat))])
    (fun i => HA.blk g3 (.cells (frC kad tks.length kcap sad tzs.length scap tgr tat).toArray 103) :: PB g fg (k + 1) fcap (PR gr (sh.set tgr true) size) :: FB fg (k + 1) fcap (pre ++ frC pad pks.length pcap psad pzs.length pscap pgr pat) :: KR pad pks.length pcap pkcs :: ZR psad pscap pzs :: F0 :: K1 :: ZR sad scap tzs :: F1 :: R) (fun i => tzs.length - i) 0 (Nat.zero_le _) ⟨rfl, rfl, rfl, rfl, rfl, rfl, trivial⟩ (.i (by repeat constructor)) ?_
  intro i hi
  dsimp only at hi ⊢
  refine .go ?_; (repeat constructor); refine .ls ?_; refine .go ?_; repeat constructor
  refine ES.condD rfl (fun hlt => ?_) (fun hge => ?_)
  · have hlt' : i < tzs.length := by omega
    refine ES.rowForm (e := 3) (sz := 1) (n := tzs.length) (cs := tzs.map fun z : Nat => Iv (z : Nat)) (ad := sad) (len := tzs.length) (cap := scap) (by repeat constructor) (fun hf => ?_)
    obtain ⟨sg, rfl⟩ := hf.2.2.2.2 (by omega)
    have hs1 := take_sum tzs i hlt'
    have hs2 := htl (i + 1)
    refine .go ?_; (repeat constructor); refine .i1 ?_; refine EL.loadRm (fun z : Nat => Iv (z : Nat)) 0 rfl rfl rfl rfl rfl (by repeat constructor) hlt' ?_; refine .as_ ?_; refine .go ?_; (repeat constructor); refine .mv ?_; refine .mv ?_; refine EL.addN rfl rfl rfl rfl rfl (by omega) ?_; refine .as_ ?_; refine .go ?_; (repeat constructor); refine .go ?_; (repeat constructor); refine .a1 ?_; refine .mv ?_; refine .go ?_; repeat constructor
    exact .lx (i + 1) (by omega) (by omega) ⟨rfl, rfl, getA rfl (congrArg (fun n : Nat => Iv (n : Nat)) hs1.symm), rfl, rfl, rfl, trivial⟩
  obtain rfl : i = tzs.length := by omega
  rw [List.take_length]
  have hput := fun b => put_c g fg k fcap (PR gr (sh.set tgr true) size) pre hpre (by omega) pad pks.length pcap psad pscap pgr pat pkcs (grC tgr tks b) pzs tzs.sum (by omega) (by omega) hpl rfl (all1 rfl)
  refine .go ?_; (repeat constructor); refine .mv ?_; refine .fa ?_; refine .lb ?_; refine .fa ?_; refine .lb ?_; refine EL.buildS (reCells (.cat tks) (.slice kad tks.length kcap)).toArray rfl rfl rfl rfl rfl rfl rfl ?_; (refine .b1 ?_; intro b54)
  (refine EL.buildS (grC tgr tks b54).toArray rfl rfl rfl rfl rfl rfl rfl ?_)
  refine .mv ?_; (refine EL.callM rfl rfl rfl ent55 rfl (hput b54) (by repeat constructor) ?_; intro x); refine .as_ ?_; refine .go ?_; repeat constructor
  refine PX.ret rfl Tryz.results58 (.cons (.tmp rfl) .nil) (fun w hs => ⟨(x, b54), rfl, ?_⟩)
  rw [hF0, hF1, hK1] at hs
  have h1 := Sat.seal (.cat tks) rfl (hs.ent (H' := KR kad tks.length kcap tkcs :: HA.forest tfp tks tkcs :: HA.row (.slice (some ⟨b54, 0, none⟩) 1 1) 46 9 1 (reCells (.cat tks) (.slice kad tks.length kcap)) :: HA.forest pfp pks pkcs :: PB g fg (k + 1) fcap (PR gr (sh.set tgr true) size) :: FB fg (k + 1) fcap (pre ++ frC x.1.1 (pks.length + 1) x.1.2 x.2.1 (pzs.length + 1) x.2.2 pgr pat) :: KR x.1.1 (pks.length + 1) x.1.2 (pkcs ++ grC tgr tks b54) :: ZR x.2.1 x.2.2 (pzs ++ [tzs.sum]) :: R) (.i (by repeat constructor)))
  have h2 := Sat.seal (.group tgr (.cat tks)) rfl (h1.ent (H' := HA.row (.slice (some ⟨b54, 0, none⟩) 1 1) 46 9 1 (reCells (.cat tks) (.slice kad tks.length kcap)) :: HA.forest ((Value.slice kad tks.length kcap).ownBlock.toList ++ tfp) [.cat tks] (reCells (.cat tks) (.slice kad tks.length kcap)) :: HA.forest pfp pks pkcs :: PB g fg (k + 1) fcap (PR gr (sh.set tgr true) size) :: FB fg (k + 1) fcap (pre ++ frC x.1.1 (pks.length + 1) x.1.2 x.2.1 (pzs.length + 1) x.2.2 pgr pat) :: KR x.1.1 (pks.length + 1) x.1.2 (pkcs ++ grC tgr tks b54) :: ZR x.2.1 x.2.2 (pzs ++ [tzs.sum]) :: R) (.i (by repeat constructor)))
  have h3 := Sat.forestApp (h2.ent (H' := HA.forest pfp pks pkcs :: HA.forest ([b54] ++ ((Value.slice kad tks.length kcap).ownBlock.toList ++ tfp)) [.group tgr (.cat tks)] (grC tgr tks b54) :: PB g fg (k + 1) fcap (PR gr (sh.set tgr true) size) :: FB fg (k + 1) fcap (pre ++ frC x.1.1 (pks.length + 1) x.1.2 x.2.1 (pzs.length + 1) x.2.2 pgr pat) :: KR x.1.1 (pks.length + 1) x.1.2 (pkcs ++ grC tgr tks b54) :: ZR x.2.1 x.2.2 (pzs ++ [tzs.sum]) :: R) (.i (by repeat constructor)))
  exact h3.ent (.i (by repeat constructor))
structure POk (p : PS) (N : Nat) : Prop where
  ok : p.Ok
  deep : p.rest.length ≤ p.groups
  kids : ∀ f ∈ p.top :: p.rest, f.kids.length ≤ N
structure TokOk (p : PS) (k : Tok) : Prop where
  rep : k.kind = 5 → p.top.kids ≠ [] ∧ 0 ≤ k.lo ∧ k.lo ≤ 255 ∧ -1 ≤ k.hi ∧ k.hi ≤ 255 ∧ (0 ≤ k.hi → k.lo ≤ k.hi)
  back : k.kind = 6 → 1 ≤ k.lo ∧ k.lo ≤ 9
theorem ps0_pok : POk ps0 0 := ⟨ps0_ok, by simp [ps0], by simp [ps0]⟩
theorem takeM_0 {p : PS} {k : Tok} (h : k.kind = 0) : takeM p k = ({ p with top := p.top.put (.byte k.set) 1, size := p.size + 1 }, growE (p.size + 1)) := by unfold takeM; rw [h]; rfl
theorem takeM_1 {p : PS} {k : Tok} (h : k.kind = 1) : takeM p k = ({ p with top := p.top.put .bol 0 }, 0) := by unfold takeM; rw [h]; rfl
theorem takeM_2 {p : PS} {k : Tok} (h : k.kind = 2) : takeM p k = ({ p with top := p.top.put .eol 0 }, 0) := by unfold takeM; rw [h]; rfl
theorem takeM_3 {p : PS} {k : Tok} (h : k.kind = 3) : takeM p k = if p.groups = 9 then (p, 4) else ({ p with top := ⟨[], [], p.groups + 1, k.at_⟩, rest := p.top :: p.rest, groups := p.groups + 1 }, 0) := by unfold takeM; rw [h]; rfl
theorem takeM_4 {p : PS} {k : Tok} (h : k.kind = 4) : takeM p k = match p.rest with
    | [] => (p, 10)
    | f :: r => ({ p with top := f.put (.group p.top.group (.cat p.top.kids)) p.top.sizes.sum, rest := r, shut := p.shut.set p.top.group true }, 0) := by unfold takeM; rw [h]; rfl
theorem takeM_5 {p : PS} {k : Tok} (h : k.kind = 5) : takeM p k =
    let old := p.top.sizes.getLastD 0
    let f := { p.top with kids := p.top.kids.dropLast ++ [.rep k.lo.toNat k.hi (p.top.kids.getLastD .bol)], sizes := p.top.sizes.dropLast ++ [old * timesM k.lo.toNat k.hi] }
    ({ p with top := f, size := p.size - old + old * timesM k.lo.toNat k.hi }, growE (p.size - old + old * timesM k.lo.toNat k.hi)) := by unfold takeM; rw [h]; rfl
theorem takeM_6 {p : PS} {k : Tok} (h : k.kind = 6) : takeM p k = if p.shut.getD k.lo.toNat false = true then ({ p with top := p.top.put (.back k.lo.toNat) 1, size := p.size + 1 }, growE (p.size + 1)) else (p, 11) := by unfold takeM; rw [h]; rfl
theorem takeM_7 {p : PS} {k : Tok} (h : 7 ≤ k.kind) : takeM p k = (p, k.e) := by
  unfold takeM
  split <;> first | rfl | omega
theorem growE_le {n : Nat} (h : growE n = 0) : n ≤ 256 := by
  unfold growE at h; split at h <;> omega
theorem put_kids (f : Frame) (r : RE) (n : Nat) : (f.put r n).kids = f.kids ++ [r] := rfl
theorem put_tot (f : Frame) (r : RE) (n : Nat) : (f.put r n).tot = f.tot + n := by simp [Frame.tot, Frame.put]
theorem POk.put {p : PS} {N : Nat} (h : POk p N) (r : RE) (n : Nat) (hs : p.size + n ≤ 256) : POk { p with top := p.top.put r n, size := p.size + n } (N + 1) := by
  refine ⟨⟨?_, ?_, hs, h.ok.shut, h.ok.groups, ?_⟩, h.deep, ?_⟩
  · intro f hf
    rcases List.mem_cons.1 hf with rfl | hf
    · have := h.ok.len p.top (by simp)
      simp [Frame.put, this]
    · exact h.ok.len f (by simp [hf])
  · have := h.ok.tot
    show p.size + n = (p.top.put r n).tot + (p.rest.map Frame.tot).sum
    rw [put_tot]; omega
  · intro f hf
    rcases List.mem_cons.1 hf with rfl | hf
    · exact h.ok.num p.top (by simp)
    · exact h.ok.num f (by simp [hf])
  · intro f hf
    rcases List.mem_cons.1 hf with rfl | hf
    · have := h.kids p.top (by simp)
      simp only [put_kids, List.length_append, List.length_singleton]; omega
    · have := h.kids f (by simp [hf]); omega
theorem dropLast_last {α : Type _} (l : List α) (d : α) (h : l ≠ []) : l = l.dropLast ++ [l.getLastD d] := by
  rw [List.getLastD_eq_getLast?, List.getLast?_eq_some_getLast h]
  exact (List.dropLast_concat_getLast h).symm
theorem takeM_ok {p : PS} {N : Nat} {k : Tok} (h : POk p N) (hk : TokOk p k) (he : (takeM p k).2 = 0) (h7 : k.kind ≤ 6) : POk (takeM p k).1 (N + 1) := by
  rcases (by omega : k.kind = 0 ∨ k.kind = 1 ∨ k.kind = 2 ∨ k.kind = 3 ∨ k.kind = 4 ∨ k.kind = 5 ∨ k.kind = 6) with h0 | h0 | h0 | h0 | h0 | h0 | h0
  · rw [takeM_0 h0] at he ⊢
    exact h.put _ 1 (growE_le he)
  · rw [takeM_1 h0]
    exact h.put _ 0 h.ok.le
  · rw [takeM_2 h0]
    exact h.put _ 0 h.ok.le
  · rw [takeM_3 h0] at he ⊢
    split at he
    · cases he
    · rename_i hg
      rw [if_neg hg]
      have h9 := h.ok.groups
      refine ⟨⟨?_, ?_, h.ok.le, h.ok.shut, by simp only; omega, ?_⟩, by simp only [List.length_cons]; have := h.deep; omega, ?_⟩
      · intro f hf
        rcases List.mem_cons.1 hf with rfl | hf
        · rfl
        · exact h.ok.len f hf
      · have := h.ok.tot
        simp only [List.map_cons, List.sum_cons]
        simp only [Frame.tot, List.sum_nil] at this ⊢
        omega
      · intro f hf
        rcases List.mem_cons.1 hf with rfl | hf
        · simp only; omega
        · exact h.ok.num f hf
      · intro f hf
        rcases List.mem_cons.1 hf with rfl | hf
        · simp
        · have := h.kids f hf; omega
  · rw [takeM_4 h0] at he ⊢
    obtain ⟨top, rest, groups, shut, size⟩ := p
    cases rest with
    | nil => cases he
    | cons f r =>
      dsimp only
      have hdeep := h.deep
      have hok := h.ok
      refine ⟨⟨?_, ?_, h.ok.le, by simp [h.ok.shut], h.ok.groups, ?_⟩, by simp only [List.length_cons] at hdeep ⊢; omega, ?_⟩
      · intro f' hf
        rcases List.mem_cons.1 hf with rfl | hf
        · have := h.ok.len f (by simp)
          simp [Frame.put, this]
        · exact h.ok.len f' (by simp [hf])
      · have := h.ok.tot
        simp only [List.map_cons, List.sum_cons] at this
        show size = (f.put _ _).tot + (r.map Frame.tot).sum
        rw [put_tot]
        simp only [Frame.tot] at this ⊢
        omega
      · intro f' hf
        rcases List.mem_cons.1 hf with rfl | hf
        · exact h.ok.num f (by simp)
        · exact h.ok.num f' (by simp [hf])
      · intro f' hf
        rcases List.mem_cons.1 hf with rfl | hf
        · have := h.kids f (by simp)
          simp only [put_kids, List.length_append, List.length_singleton]; omega
        · have := h.kids f' (by simp [hf]); omega
  · rw [takeM_5 h0] at he ⊢
    dsimp only at he ⊢
    have hne := (hk.rep h0).1
    have hl := h.ok.len p.top (by simp)
    have hse : p.top.sizes ≠ [] := by
      intro e; rw [e] at hl; exact hne (List.eq_nil_of_length_eq_zero hl)
    have hz := dropLast_last p.top.sizes 0 hse
    have hsum : p.top.sizes.sum = p.top.sizes.dropLast.sum + p.top.sizes.getLastD 0 := by
      conv => lhs; rw [hz]
      simp
    refine ⟨⟨?_, ?_, growE_le he, h.ok.shut, h.ok.groups, ?_⟩, h.deep, ?_⟩
    · intro f hf
      rcases List.mem_cons.1 hf with rfl | hf
      · simp [hl]
      · exact h.ok.len f (by simp [hf])
    · have := h.ok.tot
      simp only [Frame.tot, List.sum_append, List.sum_cons, List.sum_nil] at this ⊢
      omega
    · intro f hf
      rcases List.mem_cons.1 hf with rfl | hf
      · exact h.ok.num p.top (by simp)
      · exact h.ok.num f (by simp [hf])
    · intro f hf
      rcases List.mem_cons.1 hf with rfl | hf
      · have := h.kids p.top (by simp)
        simp only [List.length_append, List.length_singleton, List.length_dropLast]; omega
      · have := h.kids f (by simp [hf]); omega
  · rw [takeM_6 h0] at he ⊢
    split at he
    · rename_i hs
      rw [if_pos hs]
      exact h.put _ 1 (growE_le he)
    · cases he
structure FV where
  kad : Option Addr
  kcap : Nat
  sad : Option Addr
  scap : Nat
  kcs : List Value
  fp : List Nat
deriving Inhabited
abbrev FV.cells (v : FV) (f : Frame) : List Value := frC v.kad f.kids.length v.kcap v.sad f.sizes.length v.scap f.group f.at_
abbrev FV.hs (v : FV) (f : Frame) : List HA := [KR v.kad f.kids.length v.kcap v.kcs, ZR v.sad v.scap f.sizes, HA.forest v.fp f.kids v.kcs]
def preC : List (Frame × FV) → List Value
  | [] => []
  | (f, v) :: r => preC r ++ v.cells f
def restH : List (Frame × FV) → List HA
  | [] => []
  | (f, v) :: r => v.hs f ++ restH r
theorem preC_len : ∀ r, (preC r).length = r.length * 4
  | [] => rfl
  | (f, v) :: r => by simp only [preC, List.length_append, preC_len r, List.length_cons, frC, List.length_nil]; omega
abbrev PH (g fg fcap : Nat) (p : PS) (tv : FV) (rv : List (Frame × FV)) : List HA :=
  PB g fg (rv.length + 1) fcap (PR p.groups p.shut p.size) :: FB fg (rv.length + 1) fcap (preC rv ++ tv.cells p.top) :: (tv.hs p.top ++ restH rv)
theorem Sat.tailL {w0 w : World} {B : Nat} {R : List HA} : ∀ {A : List HA}, Sat w0 B (A ++ R) w → Sat w0 B R w
  | [], h => h
  | _ :: A, h => Sat.tailL (A := A) h.tail
structure TX where
  fg : Nat
  fcap : Nat
  tv : FV
  rv : List (Frame × FV)
abbrev TXs (p : PS) : Type := { x : TX // x.rv.map Prod.fst = p.rest }
def TXs.any (p : PS) : TXs p := ⟨⟨0, 0, default, p.rest.map fun f => (f, default)⟩, by simp only [List.map_map]; exact List.map_id _⟩
def tkH (g : Nat) (r : PS × Int) (x : TXs r.1) : List HA := if r.2 = 0 then PH g x.1.fg x.1.fcap r.1 x.1.tv x.1.rv else []
theorem tk_ok {w0 w : World} {B g : Nat} {R : List HA} {r : PS × Int} (x : TXs r.1) (h : Sat w0 B (PH g x.1.fg x.1.fcap r.1 x.1.tv x.1.rv ++ R) w) : Sat w0 B (tkH g r x ++ R) w := by
  unfold tkH
  split
  · exact h
  · exact Sat.tailL h
theorem tk_err {w0 w : World} {B g : Nat} {R : List HA} {r : PS × Int} (x : TXs r.1) (hr : r.2 ≠ 0) (h : Sat w0 B R w) : Sat w0 B (tkH g r x ++ R) w := by
  unfold tkH
  rw [if_neg hr]
  exact h
theorem leafForest {w0 w : World} {B : Nat} {R : List HA} {fp : List Nat} {ks : List RE} {cs : List Value} (r : RE) (hr : r.kids = []) (h : Sat w0 B (HA.forest fp ks cs :: R) w) : Sat w0 B (HA.forest fp (ks ++ [r]) (cs ++ reCells r (.slice none 0 0)) :: R) w :=
  Sat.forestEq h (fun _ _ hf => hf.append (Forest.leaf r hr))
theorem putLeaf_c (g fg fcap : Nat) (p : PS) (tv : FV) (rv : List (Frame × FV)) (hrv : rv.length ≤ 9) (hn : p.top.kids.length ≤ 65535) (hz : p.top.sizes.length ≤ 65535) (r : RE) (hr : r.kids = []) (z : Nat) :
    Mut Tryz.prog 55 #[Pv g 0, .agg (reCells r (.slice none 0 0)).toArray, Iv (z : Nat)] (PH g fg fcap p tv rv)
      (fun _ : (Option Addr × Nat) × (Option Addr × Nat) => Iv 0)
      (fun x => PH g fg fcap { p with top := p.top.put r z } ⟨x.1.1, x.1.2, x.2.1, x.2.2, tv.kcs ++ reCells r (.slice none 0 0), tv.fp⟩ rv) := by
  intro w0 B R w h
  have hkl : tv.kcs.length = p.top.kids.length * 9 := (row_form (h.all (KR tv.kad p.top.kids.length tv.kcap tv.kcs) (by simp))).2.2.2.1
  have hc := put_c g fg rv.length fcap (PR p.groups p.shut p.size) (preC rv) (preC_len rv) (by omega) tv.kad p.top.kids.length tv.kcap tv.sad tv.scap p.top.group p.top.at_ tv.kcs (reCells r (.slice none 0 0)) p.top.sizes z (by omega) (by omega) hkl rfl (all1 rfl)
  have h1 : Sat w0 B ([PB g fg (rv.length + 1) fcap (PR p.groups p.shut p.size), FB fg (rv.length + 1) fcap (preC rv ++ frC tv.kad p.top.kids.length tv.kcap tv.sad p.top.sizes.length tv.scap p.top.group p.top.at_), KR tv.kad p.top.kids.length tv.kcap tv.kcs, ZR tv.sad tv.scap p.top.sizes] ++ (HA.forest tv.fp p.top.kids tv.kcs :: (restH rv ++ R))) w := h
  refine (hc w0 B _ w h1).mono ?_
  rintro e w' ⟨x, he, hs⟩
  refine ⟨x, he, ?_⟩
  have h2 := leafForest r hr (hs.ent (H' := HA.forest tv.fp p.top.kids tv.kcs :: PB g fg (rv.length + 1) fcap (PR p.groups p.shut p.size) :: FB fg (rv.length + 1) fcap (preC rv ++ frC x.1.1 (p.top.kids.length + 1) x.1.2 x.2.1 (p.top.sizes.length + 1) x.2.2 p.top.group p.top.at_) :: KR x.1.1 (p.top.kids.length + 1) x.1.2 (tv.kcs ++ reCells r (.slice none 0 0)) :: ZR x.2.1 x.2.2 (p.top.sizes ++ [z]) :: (restH rv ++ R)) (.i (by repeat constructor)))
  have e1 : (p.top.put r z).kids.length = p.top.kids.length + 1 := by simp [Frame.put]
  have e2 : (p.top.put r z).sizes.length = p.top.sizes.length + 1 := by simp [Frame.put]
  show Sat w0 B (PB g fg (rv.length + 1) fcap (PR p.groups p.shut p.size) :: FB fg (rv.length + 1) fcap (preC rv ++ frC x.1.1 (p.top.put r z).kids.length x.1.2 x.2.1 (p.top.put r z).sizes.length x.2.2 p.top.group p.top.at_) :: KR x.1.1 (p.top.put r z).kids.length x.1.2 (tv.kcs ++ reCells r (.slice none 0 0)) :: ZR x.2.1 x.2.2 (p.top.sizes ++ [z]) :: HA.forest tv.fp (p.top.kids ++ [r]) (tv.kcs ++ reCells r (.slice none 0 0)) :: (restH rv ++ R)) w'
  rw [e1, e2]
  exact h2.ent (.i (by repeat constructor))
theorem Takes.behind (A : HA) : ∀ (Hq R : List HA), Takes (A :: (Hq ++ R)) Hq (A :: R)
  | [], R => .nil _
  | X :: T, R => .cons (.there (.here _ _)) (Takes.behind A T R)
theorem Sat.dropMid {w0 w : World} {B : Nat} {L R : List HA} {A : HA} (h : Sat w0 B (L ++ A :: R) w) : Sat w0 B (L ++ R) w :=
  (h.perm List.perm_middle).tail
abbrev tkB (g3 : Nat) (k : Tok) : HA := HA.blk g3 (.cells (tokCells k) 112)
theorem take_c (g fg fcap : Nat) (p : PS) (tv : FV) (rv : List (Frame × FV)) (hrv : rv.map Prod.fst = p.rest) (N : Nat) (hN : N ≤ 60000) (hp : POk p N) (k : Tok) (hk : TokOk p k) :
    Mut Tryz.prog 37 #[Pv g 0, tokV k] (PH g fg fcap p tv rv) (fun _ : TXs (takeM p k).1 => Iv (takeM p k).2) (fun x => tkH g (takeM p k) x) := by
  intro w0 B R w h
  have hrl : rv.length = p.rest.length := by rw [← hrv, List.length_map]
  have hr9 : rv.length ≤ 9 := by have := hp.deep; have := hp.ok.groups; omega
  have hkn := hp.kids p.top (by simp)
  have hlen := hp.ok.len p.top (by simp)
  have hpl := fun (r : RE) (hr : r.kids = []) (z : Nat) => putLeaf_c g fg fcap p tv rv hr9 (by omega) (by omega) r hr z
  have hsz := hp.ok.le
  have hsh := hp.ok.shut
  have hgl := hp.ok.groups
  have hnum := hp.ok.num
  have htot := hp.ok.tot
  have hgrow := grow_c g fg (rv.length + 1) fcap p.groups p.size (p.size + 1) p.shut 1 hsh (by omega) (by omega)
  replace h : Sat w0 B (PB g fg (rv.length + 1) fcap (PR p.groups p.shut p.size) :: FB fg (rv.length + 1) fcap (preC rv ++ tv.cells p.top) :: KR tv.kad p.top.kids.length tv.kcap tv.kcs :: ZR tv.sad tv.scap p.top.sizes :: HA.forest tv.fp p.top.kids tv.kcs :: (restH rv ++ R)) w := h
  have htl0 : tv.kcs.length = p.top.kids.length * 9 := (row_form (h.all (KR tv.kad p.top.kids.length tv.kcap tv.kcs) (by simp))).2.2.2.1
  have hvl0 : ∀ f v r, rv = (f, v) :: r → v.kcs.length = f.kids.length * 9 := fun f v r e => by
    subst e
    exact (row_form (h.all (KR v.kad f.kids.length v.kcap v.kcs) (by simp [restH]))).2.2.2.1
  refine calls_of_ES TB Tryz.func37 rfl _ Tryz.ntmps37 rfl h ?_; refine .go ?_; (repeat constructor); (refine .bx ?_; intro g3); refine .as_ ?_; refine .go ?_; (repeat constructor); refine .fa ?_; refine .lb ?_; refine .go ?_; (repeat constructor); refine .ei ?_; refine .as_ ?_; refine .go ?_; repeat constructor
  refine ES.condD rfl (fun h0 => ?_) (fun h0 => ?_)
  · have hk0 : k.kind = 0 := by omega
    rw [takeM_0 hk0]
    refine .go ?_; (repeat constructor); refine .mv ?_; refine .fa ?_
    refine EL.ofRV (RV.loadBA [Wv k.set.a, Wv k.set.b, Wv k.set.c, Wv k.set.d] rfl rfl rfl rfl (by repeat constructor) rfl) rfl rfl rfl (by intro c h; cases h) ?_
    refine EL.buildS (reCells (.byte k.set) (.slice none 0 0)).toArray rfl rfl rfl rfl rfl rfl rfl ?_
    (refine EL.callM rfl rfl rfl ent55 rfl (hpl (.byte k.set) rfl 1) (Takes.behind (tkB g3 k) (PH g fg fcap p tv rv) R) ?_; intro x; refine EL.imp (H' := PH g fg fcap { p with top := p.top.put (.byte k.set) 1 } ⟨x.1.1, x.1.2, x.2.1, x.2.2, tv.kcs ++ reCells (.byte k.set) (.slice none 0 0), tv.fp⟩ rv ++ R) (fun w hs => Sat.dropMid hs) ?_)
    refine .go ?_; (repeat constructor); refine .mv ?_; refine EL.callM1 rfl rfl rfl ent56 rfl hgrow (.cons (.here _ _) (.nil _)) ?_; refine .as_ ?_; refine .go ?_; repeat constructor
    exact PX.ret rfl Tryz.results37 (.cons (.tmp rfl) .nil) (fun w hs => ⟨⟨⟨fg, fcap, ⟨x.1.1, x.1.2, x.2.1, x.2.2, tv.kcs ++ reCells (.byte k.set) (.slice none 0 0), tv.fp⟩, rv⟩, hrv⟩, rfl, tk_ok _ hs⟩)
  refine .go ?_; (repeat constructor); refine .ei ?_; refine .as_ ?_; refine .go ?_; repeat constructor
  refine ES.condD rfl (fun h1 => ?_) (fun h1 => ?_)
  · have hk0 : k.kind = 1 := by omega
    rw [takeM_1 hk0]
    refine .go ?_; (repeat constructor); refine .mv ?_; refine EL.buildS (reCells .bol (.slice none 0 0)).toArray rfl rfl rfl rfl rfl rfl rfl ?_; (refine EL.callM rfl rfl rfl ent55 rfl (hpl .bol rfl 0) (Takes.behind (tkB g3 k) (PH g fg fcap p tv rv) R) ?_; intro x); refine .as_ ?_; refine .go ?_; repeat constructor
    exact PX.ret rfl Tryz.results37 (.cons (.tmp rfl) .nil) (fun w hs => ⟨⟨⟨fg, fcap, ⟨x.1.1, x.1.2, x.2.1, x.2.2, tv.kcs ++ reCells .bol (.slice none 0 0), tv.fp⟩, rv⟩, hrv⟩, rfl, tk_ok _ (Sat.dropMid hs)⟩)
  refine .go ?_; (repeat constructor); refine .ei ?_; refine .as_ ?_; refine .go ?_; repeat constructor
  refine ES.condD rfl (fun h2 => ?_) (fun h2 => ?_)
  · have hk0 : k.kind = 2 := by omega
    rw [takeM_2 hk0]
    refine .go ?_; (repeat constructor); refine .mv ?_; refine EL.buildS (reCells .eol (.slice none 0 0)).toArray rfl rfl rfl rfl rfl rfl rfl ?_; (refine EL.callM rfl rfl rfl ent55 rfl (hpl .eol rfl 0) (Takes.behind (tkB g3 k) (PH g fg fcap p tv rv) R) ?_; intro x); refine .as_ ?_; refine .go ?_; repeat constructor
    exact PX.ret rfl Tryz.results37 (.cons (.tmp rfl) .nil) (fun w hs => ⟨⟨⟨fg, fcap, ⟨x.1.1, x.1.2, x.2.1, x.2.2, tv.kcs ++ reCells .eol (.slice none 0 0), tv.fp⟩, rv⟩, hrv⟩, rfl, tk_ok _ (Sat.dropMid hs)⟩)
  refine .go ?_; (repeat constructor); refine .ei ?_; refine .as_ ?_; refine .go ?_; repeat constructor
  refine ES.condD rfl (fun h3 => ?_) (fun h3 => ?_)
  · have hk0 : k.kind = 3 := by omega
    rw [takeM_3 hk0]
    by_cases hg9 : p.groups = 9
    · rw [if_pos hg9]
      have hop := open_full g fg (rv.length + 1) fcap (p.shut.map Value.bool ++ [Iv (p.size : Nat)]) k.at_
      rw [hg9]
      refine .go ?_; (repeat constructor); refine .mv ?_; refine .fa ?_; refine .lb ?_; refine EL.callM1 rfl rfl rfl ent57 rfl hop (by repeat constructor) ?_; refine .as_ ?_; refine .go ?_; repeat constructor
      exact PX.ret rfl Tryz.results37 (.cons (.tmp rfl) .nil) (fun w hs => ⟨TXs.any _, rfl, tk_err _ (fun e => by cases e) (Sat.tailL (A := restH rv) (hs.ent (.i (by repeat constructor))))⟩)
    · rw [if_neg hg9]
      have hop := open_c g fg (rv.length + 1) fcap p.groups p.size k.at_ p.shut (preC rv ++ tv.cells p.top) (by omega) (by omega)
      refine .go ?_; (repeat constructor); refine .mv ?_; refine .fa ?_; refine .lb ?_; (refine EL.callM rfl rfl rfl ent57 rfl hop (by repeat constructor) ?_; intro x); refine .as_ ?_; refine .go ?_; repeat constructor
      refine PX.ret rfl Tryz.results37 (.cons (.tmp rfl) .nil) (fun w hs => ⟨⟨⟨x.1, x.2, ⟨none, 0, none, 0, [], []⟩, (p.top, tv) :: rv⟩, by rw [List.map_cons, hrv]⟩, rfl, tk_ok _ ?_⟩)
      have h1 := Sat.forest0 ((hs.nilRow 3 1).nilRow 46 9) [] [] (fun _ _ => .nil)
      exact h1.ent (H' := PB g x.1 (rv.length + 1 + 1) x.2 (PR (p.groups + 1) p.shut p.size) :: FB x.1 (rv.length + 1 + 1) x.2 (preC rv ++ tv.cells p.top ++ frC none 0 0 none 0 0 (p.groups + 1) k.at_) :: KR none 0 0 [] :: ZR none 0 [] :: HA.forest [] [] [] :: KR tv.kad p.top.kids.length tv.kcap tv.kcs :: ZR tv.sad tv.scap p.top.sizes :: HA.forest tv.fp p.top.kids tv.kcs :: (restH rv ++ R)) (.i (by repeat constructor))
  refine .go ?_; (repeat constructor); refine .ei ?_; refine .as_ ?_; refine .go ?_; repeat constructor
  refine ES.condD rfl (fun h4 => ?_) (fun h4 => ?_)
  · have hk0 : k.kind = 4 := by omega
    rw [takeM_4 hk0]
    cases rv with
    | nil =>
      rw [← hrv]
      have hcl := close_none g fg fcap (PR p.groups p.shut p.size)
      refine .go ?_; (repeat constructor); refine .mv ?_; refine EL.callM1 rfl rfl rfl ent58 rfl hcl (by repeat constructor) ?_; refine .as_ ?_; refine .go ?_; repeat constructor
      exact PX.ret rfl Tryz.results37 (.cons (.tmp rfl) .nil) (fun w hs => ⟨TXs.any _, rfl, tk_err _ (fun e => by cases e) (hs.ent (.i (by repeat constructor)))⟩)
    | cons fv rv =>
      obtain ⟨f, v⟩ := fv
      have hrest : p.rest = f :: rv.map Prod.fst := by rw [← hrv]; rfl
      have hfl := hp.ok.len f (by rw [hrest]; simp)
      have hfk := hp.kids f (by rw [hrest]; simp)
      have hvl : v.kcs.length = f.kids.length * 9 := hvl0 f v rv rfl
      rw [hrest] at htot ⊢
      simp only [List.map_cons, List.sum_cons, Frame.tot] at htot
      simp only [List.length_cons] at hr9
      have htg := hnum p.top (by simp)
      have hcl := close_c g fg rv.length fcap p.groups p.size p.shut hsh (preC rv) (preC_len rv) (by omega) v.kad v.kcap v.sad v.scap f.group f.at_ f.kids v.kcs f.sizes v.fp (by omega) (by omega) hvl tv.kad tv.kcap tv.sad tv.scap p.top.group p.top.at_ p.top.kids tv.kcs p.top.sizes tv.fp htg (by omega) (by omega)
      refine .go ?_; (repeat constructor); refine .mv ?_; (refine EL.callM rfl rfl rfl ent58 rfl hcl (by repeat constructor) ?_; intro x); refine .as_ ?_; refine .go ?_; repeat constructor
      refine PX.ret rfl Tryz.results37 (.cons (.tmp rfl) .nil) (fun w hs => ⟨⟨⟨fg, fcap, ⟨x.1.1.1, x.1.1.2, x.1.2.1, x.1.2.2, v.kcs ++ grC p.top.group p.top.kids x.2, v.fp ++ ([x.2] ++ ((Value.slice tv.kad p.top.kids.length tv.kcap).ownBlock.toList ++ tv.fp))⟩, rv⟩, rfl⟩, rfl, tk_ok _ ?_⟩)
      have e1 : (f.put (.group p.top.group (.cat p.top.kids)) p.top.sizes.sum).kids.length = f.kids.length + 1 := by simp [Frame.put]
      have e2 : (f.put (.group p.top.group (.cat p.top.kids)) p.top.sizes.sum).sizes.length = f.sizes.length + 1 := by simp [Frame.put]
      show Sat w0 B (PB g fg (rv.length + 1) fcap (PR p.groups (p.shut.set p.top.group true) p.size) :: FB fg (rv.length + 1) fcap (preC rv ++ frC x.1.1.1 (f.put (.group p.top.group (.cat p.top.kids)) p.top.sizes.sum).kids.length x.1.1.2 x.1.2.1 (f.put (.group p.top.group (.cat p.top.kids)) p.top.sizes.sum).sizes.length x.1.2.2 f.group f.at_) :: KR x.1.1.1 (f.put (.group p.top.group (.cat p.top.kids)) p.top.sizes.sum).kids.length x.1.1.2 (v.kcs ++ grC p.top.group p.top.kids x.2) :: ZR x.1.2.1 x.1.2.2 (f.sizes ++ [p.top.sizes.sum]) :: HA.forest (v.fp ++ ([x.2] ++ ((Value.slice tv.kad p.top.kids.length tv.kcap).ownBlock.toList ++ tv.fp))) (f.kids ++ [.group p.top.group (.cat p.top.kids)]) (v.kcs ++ grC p.top.group p.top.kids x.2) :: (restH rv ++ R)) w
      rw [e1, e2]
      exact hs.ent (.i (by repeat constructor))
  refine .go ?_; (repeat constructor); refine .ei ?_; refine .as_ ?_; refine .go ?_; repeat constructor
  refine ES.condD rfl (fun h5 => ?_) (fun h5 => ?_)
  · have hk0 : k.kind = 5 := by omega
    obtain ⟨hne, hlo0, hlo1, hhi0, hhi1, _⟩ := hk.rep hk0
    rw [takeM_5 hk0]
    have hse : p.top.sizes ≠ [] := by
      intro e; rw [e] at hlen; exact hne (List.eq_nil_of_length_eq_zero hlen)
    have hki := dropLast_last p.top.kids .bol hne
    have hzi := dropLast_last p.top.sizes 0 hse
    generalize p.top.kids.dropLast = init at hki ⊢
    generalize p.top.kids.getLastD .bol = last at hki ⊢
    generalize p.top.sizes.dropLast = zs0 at hzi ⊢
    generalize p.top.sizes.getLastD 0 = z at hzi ⊢
    have hkl2 : p.top.kids.length = init.length + 1 := by rw [hki]; simp
    have hzl2 : p.top.sizes.length = zs0.length + 1 := by rw [hzi]; simp
    have hz2 : z ≤ p.size := by
      have : p.top.tot = zs0.sum + z := by unfold Frame.tot; rw [hzi]; simp
      omega
    have hlo : ((k.lo.toNat : Nat) : Int) = k.lo := by omega
    have hrc := rep_c g fg rv.length fcap p.groups p.size p.shut hsh (preC rv) (preC_len rv) (by omega) tv.kad tv.kcap tv.sad tv.scap p.top.group p.top.at_ init last tv.kcs zs0 z tv.fp k.lo.toNat k.hi (by omega) (by omega) (by omega) (by omega) (by omega) (by omega) hz2 hsz (by rw [htl0, hkl2])
    rw [hlo] at hrc
    dsimp only
    refine ES.imp (H' := PB g fg (rv.length + 1) fcap (PR p.groups p.shut p.size) :: FB fg (rv.length + 1) fcap (preC rv ++ frC tv.kad (init.length + 1) tv.kcap tv.sad (zs0.length + 1) tv.scap p.top.group p.top.at_) :: KR tv.kad (init.length + 1) tv.kcap tv.kcs :: HA.row (.slice tv.sad (zs0.length + 1) tv.scap) 3 1 (zs0.length + 1) ((zs0 ++ [z]).map fun z : Nat => Iv (z : Nat)) :: HA.forest tv.fp (init ++ [last]) tv.kcs :: tkB g3 k :: (restH rv ++ R)) (fun w hs => ?_) ?_
    · have e0 := hs.ent (H' := PB g fg (rv.length + 1) fcap (PR p.groups p.shut p.size) :: FB fg (rv.length + 1) fcap (preC rv ++ tv.cells p.top) :: KR tv.kad p.top.kids.length tv.kcap tv.kcs :: ZR tv.sad tv.scap p.top.sizes :: HA.forest tv.fp p.top.kids tv.kcs :: tkB g3 k :: (restH rv ++ R)) (.i (by repeat constructor))
      dsimp only [FV.cells, ZR] at e0
      rw [hkl2, hzl2] at e0
      rw [hki, hzi] at e0
      exact e0
    refine .go ?_; (repeat constructor); refine .mv ?_; refine .fa ?_; refine .lb ?_; refine .fa ?_; refine .lb ?_; (refine EL.callM rfl rfl rfl ent59 rfl hrc (by repeat constructor) ?_; intro x); refine .as_ ?_; refine .go ?_; repeat constructor
    refine PX.ret rfl Tryz.results37 (.cons (.tmp rfl) .nil) (fun w hs => ⟨⟨⟨fg, fcap, ⟨tv.kad, tv.kcap, tv.sad, tv.scap, tv.kcs.take (init.length * 9) ++ reCells (.rep k.lo.toNat k.hi last) (.slice (some ⟨x, 0, none⟩) 1 1), x :: tv.fp⟩, rv⟩, hrv⟩, rfl, tk_ok _ ?_⟩)
    have e1 : (init ++ [RE.rep k.lo.toNat k.hi last]).length = init.length + 1 := by simp
    have e2 : (zs0 ++ [z * timesM k.lo.toNat k.hi]).length = zs0.length + 1 := by simp
    show Sat w0 B (PB g fg (rv.length + 1) fcap (PR p.groups p.shut (p.size - z + z * timesM k.lo.toNat k.hi)) :: FB fg (rv.length + 1) fcap (preC rv ++ frC tv.kad (init ++ [RE.rep k.lo.toNat k.hi last]).length tv.kcap tv.sad (zs0 ++ [z * timesM k.lo.toNat k.hi]).length tv.scap p.top.group p.top.at_) :: KR tv.kad (init ++ [RE.rep k.lo.toNat k.hi last]).length tv.kcap (tv.kcs.take (init.length * 9) ++ reCells (.rep k.lo.toNat k.hi last) (.slice (some ⟨x, 0, none⟩) 1 1)) :: HA.row (.slice tv.sad (zs0 ++ [z * timesM k.lo.toNat k.hi]).length tv.scap) 3 1 (zs0 ++ [z * timesM k.lo.toNat k.hi]).length ((zs0 ++ [z * timesM k.lo.toNat k.hi]).map fun z : Nat => Iv (z : Nat)) :: HA.forest (x :: tv.fp) (init ++ [.rep k.lo.toNat k.hi last]) (tv.kcs.take (init.length * 9) ++ reCells (.rep k.lo.toNat k.hi last) (.slice (some ⟨x, 0, none⟩) 1 1)) :: (restH rv ++ R)) w
    rw [e1, e2]
    exact hs.ent (.i (by repeat constructor))
  refine .go ?_; (repeat constructor); refine .ei ?_; refine .as_ ?_; refine .go ?_; repeat constructor
  refine ES.condD rfl (fun h6 => ?_) (fun h6 => ?_)
  · have hk0 : k.kind = 6 := by omega
    obtain ⟨hlo1, hlo2⟩ := hk.back hk0
    rw [takeM_6 hk0]
    obtain ⟨lo, hlo⟩ : ∃ lo : Nat, k.lo = (lo : Int) := ⟨k.lo.toNat, by omega⟩
    have hlo' : k.lo.toNat = lo := by omega
    rw [hlo']
    refine ES.imp (H' := HA.blk g3 (.cells #[Iv (k.kind : Nat), Iv (k.at_ : Nat), Wv k.set.a, Wv k.set.b, Wv k.set.c, Wv k.set.d, Iv (lo : Nat), Iv k.hi, Iv k.e] 112) :: PB g fg (rv.length + 1) fcap (PR p.groups p.shut p.size) :: FB fg (rv.length + 1) fcap (preC rv ++ tv.cells p.top) :: KR tv.kad p.top.kids.length tv.kcap tv.kcs :: ZR tv.sad tv.scap p.top.sizes :: HA.forest tv.fp p.top.kids tv.kcs :: (restH rv ++ R)) (fun w hs => ?_) ?_
    · rw [← hlo]; exact hs.ent (.i (by repeat constructor))
    refine .g0 ?_; repeat constructor
    refine ES.draw (X := Unit) (fun _ => [(0, Pv g 0), (3, Pv g3 0), (53, .bool (!(p.shut.getD lo false)))]) (fun _ => HA.blk g3 (.cells #[Iv (k.kind : Nat), Iv (k.at_ : Nat), Wv k.set.a, Wv k.set.b, Wv k.set.c, Wv k.set.d, Iv (lo : Nat), Iv k.hi, Iv k.e] 112) :: PB g fg (rv.length + 1) fcap (PR p.groups p.shut p.size) :: FB fg (rv.length + 1) fcap (preC rv ++ tv.cells p.top) :: KR tv.kad p.top.kids.length tv.kcap tv.kcs :: ZR tv.sad tv.scap p.top.sizes :: HA.forest tv.fp p.top.kids tv.kcs :: (restH rv ++ R)) (PB g fg (rv.length + 1) fcap (PR p.groups p.shut p.size) :: HA.blk g3 (.cells #[Iv (k.kind : Nat), Iv (k.at_ : Nat), Wv k.set.a, Wv k.set.b, Wv k.set.c, Wv k.set.d, Iv (lo : Nat), Iv k.hi, Iv k.e] 112) :: (restH rv ++ R)) mixed (.i (by repeat constructor)) ?_ (fun _ => ?_)
    · refine .tk 0 rfl (RV.move rfl) ?_; refine .tk 1 rfl (RV.fieldAddr rfl rfl rfl rfl rfl rfl) ?_; refine .tk 2 rfl (RV.loadB rfl rfl rfl (by repeat constructor) rfl) ?_; refine .tk 3 rfl (RV.nilCheck rfl) ?_; refine .tk 4 rfl (RV.fieldAddr rfl rfl rfl rfl rfl rfl) ?_; refine .tk 5 rfl (RV.indexAddrA (i := lo) rfl rfl rfl rfl rfl (by omega)) ?_
      refine .tk 6 rfl (RV.loadB rfl rfl rfl (by repeat constructor) (by have := pr_shut_get (.slice (some ⟨fg, 0, none⟩) (rv.length + 1) fcap) p.groups p.size lo p.shut (by omega); rw [show 2 + lo = 0 + 2 + lo * 1 by omega] at this; exact this)) ?_
      refine .tk 7 rfl (RV.not rfl) ?_; refine .dn ?_
      exact .cy ()
    refine ES.cond rfl (fun hs => ?_) (fun hs => ?_)
    · rw [if_neg (by simpa using hs)]
      refine .go ?_; (repeat constructor); refine .as_ ?_; refine .go ?_; repeat constructor
      exact PX.ret rfl Tryz.results37 (.cons (.tmp rfl) .nil) (fun w hs => ⟨TXs.any _, rfl, tk_err _ (fun e => by cases e) (Sat.tailL (A := restH rv) (hs.ent (.i (by repeat constructor))))⟩)
    · rw [if_pos (by simpa using hs)]
      refine .go ?_; (repeat constructor); refine .mv ?_; refine .fa ?_; refine .lb ?_; refine EL.buildS (reCells (.back lo) (.slice none 0 0)).toArray rfl rfl rfl rfl rfl rfl rfl ?_
      (refine EL.callM rfl rfl rfl ent55 rfl (hpl (.back lo) rfl 1) (Takes.behind (HA.blk g3 (.cells #[Iv (k.kind : Nat), Iv (k.at_ : Nat), Wv k.set.a, Wv k.set.b, Wv k.set.c, Wv k.set.d, Iv (lo : Nat), Iv k.hi, Iv k.e] 112)) (PH g fg fcap p tv rv) R) ?_; intro x; refine EL.imp (H' := PH g fg fcap { p with top := p.top.put (.back lo) 1 } ⟨x.1.1, x.1.2, x.2.1, x.2.2, tv.kcs ++ reCells (.back lo) (.slice none 0 0), tv.fp⟩ rv ++ R) (fun w hs => Sat.dropMid hs) ?_)
      refine .go ?_; (repeat constructor); refine .mv ?_; refine EL.callM1 rfl rfl rfl ent56 rfl hgrow (.cons (.here _ _) (.nil _)) ?_; refine .as_ ?_; refine .go ?_; repeat constructor
      exact PX.ret rfl Tryz.results37 (.cons (.tmp rfl) .nil) (fun w hs => ⟨⟨⟨fg, fcap, ⟨x.1.1, x.1.2, x.2.1, x.2.2, tv.kcs ++ reCells (.back lo) (.slice none 0 0), tv.fp⟩, rv⟩, hrv⟩, rfl, tk_ok _ hs⟩)
  refine .go ?_; (repeat constructor); refine .fa ?_; refine .lb ?_; refine .as_ ?_; refine .go ?_; repeat constructor
  rw [takeM_7 (by omega)]
  exact PX.ret rfl Tryz.results37 (.cons (.tmp rfl) .nil) (fun w hs => ⟨⟨⟨fg, fcap, tv, rv⟩, hrv⟩, rfl, tk_ok _ (hs.ent (H' := PB g fg (rv.length + 1) fcap (PR p.groups p.shut p.size) :: FB fg (rv.length + 1) fcap (preC rv ++ tv.cells p.top) :: KR tv.kad p.top.kids.length tv.kcap tv.kcs :: ZR tv.sad tv.scap p.top.sizes :: HA.forest tv.fp p.top.kids tv.kcs :: (restH rv ++ R)) (.i (by repeat constructor)))⟩)
structure TokRead (k : Tok) (bg : Bool) : Prop where
  le : k.kind ≤ 7
  rep : k.kind = 5 → bg = false ∧ 0 ≤ k.lo ∧ k.lo ≤ 255 ∧ -1 ≤ k.hi ∧ k.hi ≤ 255 ∧ (0 ≤ k.hi → k.lo ≤ k.hi)
  back : k.kind = 6 → 1 ≤ k.lo ∧ k.lo ≤ 9
  bad : k.kind = 7 → k.e ≠ 0
theorem tokRead_plain {k : Tok} {bg : Bool} (h : k.kind ≤ 4) : TokRead k bg := ⟨by omega, fun e => by omega, fun e => by omega, fun e => by omega⟩
theorem tokRead_bad {a : Nat} {e : Int} {bg : Bool} (h : e ≠ 0) : TokRead (badT a e) bg := ⟨by simp [badT], fun e => by simp [badT] at e, fun e => by simp [badT] at e, fun _ => h⟩
theorem escT_read (t : List UInt8) (a : Nat) (bg : Bool) : TokRead (escT t a bg).1 bg := by
  unfold escT
  dsimp only
  split
  · exact tokRead_bad (by decide)
  split
  · exact tokRead_plain (by simp)
  split
  · exact tokRead_plain (by simp)
  split
  · split
    · exact tokRead_bad (by decide)
    · rename_i lo hi n hiv
      have := iv_le hiv
      split
      · exact tokRead_bad (by decide)
      · rename_i hb
        exact ⟨by simp, fun _ => ⟨by simpa using hb, by simp only; omega, by simp only; omega, by simp only; omega, by simp only; omega, by simp only; omega⟩, fun e => by simp at e, fun e => by simp at e⟩
  split
  · exact tokRead_bad (by decide)
  split
  · exact tokRead_plain (by simp [oneT, byteT])
  split
  · exact ⟨by simp, fun e => by simp at e, fun _ => by simp only; omega, fun e => by simp at e⟩
  split
  · exact tokRead_bad (by decide)
  · exact tokRead_plain (by simp [oneT, byteT])
theorem readT_read (t : List UInt8) (a : Nat) (f bg : Bool) : TokRead (readT t a f bg).1 bg := by
  unfold readT
  dsimp only
  split
  · exact escT_read t a bg
  split
  · split
    · rename_i h; exact tokRead_bad h
    · exact tokRead_plain (by simp [byteT])
  split
  · exact tokRead_plain (by simp [byteT])
  split
  · rename_i h
    exact ⟨by simp, fun _ => ⟨h.2, by simp, by simp, by simp, by simp, by simp⟩, fun e => by simp at e, fun e => by simp at e⟩
  split
  · exact tokRead_plain (by simp)
  split
  · exact tokRead_plain (by simp)
  · exact tokRead_plain (by simp [oneT, byteT])
def TksOk : List Tok → PS → Prop
  | [], _ => True
  | k :: ks, p => TokOk p k ∧ k.kind ≤ 7 ∧ (k.kind = 7 → k.e ≠ 0) ∧ ((takeM p k).2 = 0 → TksOk ks (takeM p k).1)
theorem takeM_kids {p : PS} {k : Tok} (h7 : k.kind ≤ 7) (h3 : k.kind ≠ 3) (hb : k.kind = 7 → k.e ≠ 0) (he : (takeM p k).2 = 0) : (takeM p k).1.top.kids ≠ [] := by
  rcases (by omega : k.kind = 0 ∨ k.kind = 1 ∨ k.kind = 2 ∨ k.kind = 4 ∨ k.kind = 5 ∨ k.kind = 6 ∨ k.kind = 7) with h0 | h0 | h0 | h0 | h0 | h0 | h0
  · rw [takeM_0 h0]; simp [Frame.put]
  · rw [takeM_1 h0]; simp [Frame.put]
  · rw [takeM_2 h0]; simp [Frame.put]
  · rw [takeM_4 h0] at he ⊢
    split at he
    · cases he
    · rename_i h; simp [Frame.put]
  · rw [takeM_5 h0]; simp
  · rw [takeM_6 h0] at he ⊢
    split at he
    · rename_i h; rw [if_pos h]; simp [Frame.put]
    · cases he
  · rw [takeM_7 (by omega)] at he; exact absurd he (hb h0)
theorem toks_ok (t : List UInt8) : ∀ (n a : Nat) (f b : Bool) (p : PS), (b = false → p.top.kids ≠ []) → TksOk (toksGo t n a f b) p
  | 0, _, _, _, _, _ => trivial
  | n + 1, a, f, b, p, hb => by
    have hr := readT_read t a f b
    rw [toksGo]
    split
    · trivial
    · dsimp only
      have hk : TokOk p (readT t a f b).1 := ⟨fun e => ⟨hb (hr.rep e).1, (hr.rep e).2⟩, hr.back⟩
      split
      · rename_i h7
        exact ⟨hk, hr.le, hr.bad, fun he => trivial⟩
      · rename_i h7
        refine ⟨hk, hr.le, hr.bad, fun he => toks_ok t n _ _ _ _ (fun hbb => ?_)⟩
        simp only [Bool.or_eq_false_iff, decide_eq_false_iff_not] at hbb
        exact takeM_kids hr.le hbb.1 hr.bad he
theorem parse_toks_ok (t : List UInt8) : TksOk (toksM t) ps0 := toks_ok t t.length 0 true true ps0 (fun h => by cases h)
abbrev PP (g fg fcap : Nat) (p : PS) (tv : FV) (rv : List (Frame × FV)) : HA := HA.pack (PH g fg fcap p tv rv)
theorem Sat.packL {w0 w : World} {B : Nat} {T R : List HA} (h : Sat w0 B (T ++ R) w) : Sat w0 B (HA.pack T :: R) w := Sl.Sat.pack h
theorem Sat.unpackL {w0 w : World} {B : Nat} {T R : List HA} (h : Sat w0 B (HA.pack T :: R) w) : Sat w0 B (T ++ R) w := Sl.Sat.unpack h
def tkH1 (g : Nat) (r : PS × Int) (x : TXs r.1) : List HA := if r.2 = 0 then [PP g x.1.fg x.1.fcap r.1 x.1.tv x.1.rv] else []
theorem take1_c (g fg fcap : Nat) (p : PS) (tv : FV) (rv : List (Frame × FV)) (hrv : rv.map Prod.fst = p.rest) (N : Nat) (hN : N ≤ 60000) (hp : POk p N) (k : Tok) (hk : TokOk p k) :
    Mut Tryz.prog 37 #[Pv g 0, tokV k] [PP g fg fcap p tv rv] (fun _ : TXs (takeM p k).1 => Iv (takeM p k).2) (fun x => tkH1 g (takeM p k) x) := by
  intro w0 B R w h
  refine (take_c g fg fcap p tv rv hrv N hN hp k hk w0 B R w (Sat.unpackL h)).mono ?_
  rintro e w' ⟨x, he, hs⟩
  refine ⟨x, he, ?_⟩
  unfold tkH at hs
  show Sat w0 B (tkH1 g (takeM p k) x ++ R) w'
  unfold tkH1
  by_cases h0 : (takeM p k).2 = 0
  · rw [if_pos h0]
    simp only [if_pos h0] at hs
    exact Sat.packL hs
  · rw [if_neg h0]
    simp only [if_neg h0] at hs
    exact hs
structure PX0 where
  ad : Option Addr
  cap : Nat
  fp : List Nat
abbrev zeroRe : Array Value := (reCells (.cat []) (.slice none 0 0)).toArray
structure PSt where
  p : PS
  fg : Nat
  fcap : Nat
  tv : FV
  rv : List (Frame × FV)
theorem parse_c (t : List UInt8) (ht0 : t.length ≤ 4611686018427387904) (w : World) (hG : GR w w.heap.size) :
    Pure Tryz.prog 20 #[Sv t] (fun x : PX0 => .tuple #[.agg (reCells (parseM t).tree (.slice x.ad (parseM t).tree.kids.length x.cap)).toArray, .agg #[Iv (parseM t).e, Iv ((parseM t).at_ : Nat)]])
      (fun x => [HA.forest x.fp [(parseM t).tree] (reCells (parseM t).tree (.slice x.ad (parseM t).tree.kids.length x.cap))]) w := by
  have hpm : parseM t = if 512 < t.length then ⟨.cat [], 2, 0⟩ else parseGo (toksM t) ps0 := rfl
  have hfin : ∀ {w0 w' : World} {B : Nat} {R : List HA}, Sat w0 B R w' → Sat w0 B [HA.forest [] [RE.cat []] (reCells (.cat []) (.slice none 0 0))] w' := fun {w0 w' B R} h => by
    have h0 : Sat w0 B [] w' := Sat.tailL (A := R) (by rw [List.append_nil]; exact h)
    exact Sat.forest0 h0 _ _ (fun _ _ => Forest.leaf (.cat []) rfl)
  refine calls_of_ESM TB Tryz.func20 rfl _ Tryz.ntmps20 rfl (Sat.start w) ?_; refine .gr ?_; (repeat constructor); (refine .al ?_; intro g2); (refine .al ?_; intro g3); refine .gr ?_; (repeat constructor); refine .mv ?_; refine .lS ?_; refine .gt_ ?_; refine .gr ?_; repeat constructor
  refine ES.condD rfl (fun hlong => ?_) (fun hshort => ?_)
  · rw [if_pos (by omega)] at hpm
    rw [hpm]
    refine .gr ?_; (repeat constructor); refine EL.buildZ rfl rfl rfl rfl rfl ?_; refine EL.buildS #[_, .int .i64 0] rfl rfl rfl rfl rfl rfl rfl ?_; refine .sa ?_; refine .sa ?_; refine .gr ?_; repeat constructor
    exact PX.retM [] rfl (.nil _) Tryz.results20 (.cons (.blkA rfl rfl rfl (by repeat constructor) rfl) (.cons (.blkA rfl rfl rfl (by repeat constructor) rfl) .nil)) (fun w hs => ⟨⟨none, 0, []⟩, rfl, hfin hs⟩)
  rw [if_neg (by omega)] at hpm
  have hlen : t.length ≤ 512 := by omega
  have ht : t.length ≤ 1073741824 := by omega
  have htl : (toksM t).length ≤ 512 := Nat.le_trans (toks_len t t.length 0 true true) hlen
  have hall := parse_toks_ok t
  refine .gr ?_; (repeat constructor); refine EL.buildZ rfl rfl rfl rfl rfl ?_; (refine .b1 ?_; intro b13); refine EL.buildS #[_, .int .i64 0, .bool false, .bool false, .bool false, .bool false, .bool false, .bool false, .bool false, .bool false, .bool false, .bool false, .int .i64 0] rfl rfl rfl rfl rfl rfl rfl ?_; (refine .bx ?_; intro g15); (refine .al ?_; intro g4); refine .sb ?_; refine .gr ?_; (repeat constructor); refine .mv ?_; (refine EL.callX rfl rfl rfl ent36 rfl (tokens_c t) ?_; intro gs); refine .gr ?_; (repeat constructor); refine ES.imp (H' := HA.blk gs (.cells #[Sv t] 9) :: HA.blk g4 (.cells #[Pv g15 0] 100) :: PP g15 b13 1 ps0 ⟨none, 0, none, 0, [], []⟩ [] :: HA.blk g2 (.cells zeroRe 46) :: HA.blk g3 (.cells #[Iv 0, Iv 0] 33) :: []) (fun w hs => ?_) ?_
  · have h1 := Sat.forest0 ((hs.nilRow 3 1).nilRow 46 9) [] [] (fun _ _ => .nil)
    have h2 := h1.ent (H' := PB g15 b13 1 1 (PR 0 (List.replicate 10 false) 0) :: FB b13 1 1 (frC none 0 0 none 0 0 0 0) :: KR none 0 0 [] :: ZR none 0 [] :: HA.forest [] [] [] :: HA.blk gs (.cells #[Sv t] 9) :: HA.blk g4 (.cells #[Pv g15 0] 100) :: HA.blk g2 (.cells zeroRe 46) :: HA.blk g3 (.cells #[Iv 0, Iv 0] 33) :: []) (.i (by repeat constructor))
    exact (Sat.packL (T := PH g15 b13 1 ps0 ⟨none, 0, none, 0, [], []⟩ []) h2).ent (.i (by repeat constructor))
  refine ES.rangeFunc (σ := PSt) (τ := Int × Nat) (fun i s => i ≤ (toksM t).length ∧ s.rv.map Prod.fst = s.p.rest ∧ POk s.p i ∧ TksOk ((toksM t).drop i) s.p ∧ parseGo ((toksM t).drop i) s.p = parseM t)
    (fun s => [HA.blk g4 (.cells #[Pv g15 0] 100), PP g15 s.fg s.fcap s.p s.tv s.rv, HA.blk g2 (.cells zeroRe 46), HA.blk g3 (.cells #[Iv 0, Iv 0] 33)])
    (fun c _ r => c = .ret ∧ parseM t = ⟨.cat [], r.1, r.2⟩) (fun r => [HA.blk g2 (.cells zeroRe 46), HA.blk g3 (.cells #[Iv r.1, Iv (r.2 : Nat)] 33)]) ⟨ps0, b13, 1, ⟨none, 0, none, 0, [], []⟩, []⟩ ⟨Nat.zero_le _, rfl, ps0_pok, hall, hpm.symm⟩
    rfl rfl ent53 (tok1_iter gs t ht _ _ hG) (by repeat constructor) (by repeat constructor) (by intro x hx; obtain ⟨_, _, rfl⟩ := List.mem_map.1 hx; rfl) rfl ?_ (fun D s hs => ?_) (fun D c i r hc => ?_)
  · rintro l i ⟨p, fg, fcap, tv, rv⟩ x R1 ⟨hi, hrv, hpo, htk, hgo⟩ hx
    dsimp only at hi hrv hpo htk hgo hx ⊢
    obtain ⟨k, hk, rfl⟩ : ∃ k, (toksM t)[i]? = some k ∧ x = [tokV k] := by
      rw [List.getElem?_map] at hx
      obtain ⟨k, h1, h2⟩ := Option.map_eq_some_iff.1 hx
      exact ⟨k, h1, h2.symm⟩
    have hlt : i < (toksM t).length := (List.getElem?_eq_some_iff.1 hk).1
    have hdrop : (toksM t).drop i = k :: (toksM t).drop (i + 1) := by
      rw [List.drop_eq_getElem_cons hlt, (List.getElem?_eq_some_iff.1 hk).2]
    rw [hdrop] at htk hgo
    obtain ⟨hk1, hk2, hk3, hk4⟩ := htk
    rw [parseGo] at hgo
    refine .gr ?_; (repeat constructor); (refine .al ?_; intro g5); refine .sa ?_; refine .gr ?_; repeat constructor
    refine PX.assigned [(2, Pv g2 0), (3, Pv g3 0), (4, Pv g4 0), (5, Pv g5 0)] [HA.blk g5 (.cells (tokCells k) 112), HA.blk g4 (.cells #[Pv g15 0] 100), PP g15 fg fcap p tv rv, HA.blk g2 (.cells zeroRe 46), HA.blk g3 (.cells #[Iv 0, Iv 0] 33)] ⟨rfl, rfl, rfl, rfl, trivial⟩ (.i (by repeat constructor)) (fun R2 => ?_)
    refine .gr ?_; (repeat constructor); refine .lb ?_; refine .lg ?_; (refine EL.callM rfl rfl rfl ent37 rfl (take1_c g15 fg fcap p tv rv hrv i (by omega) hpo k hk1) (by repeat constructor) ?_; intro x); refine .as_ ?_; refine .gr ?_; (repeat constructor); refine .mv ?_; refine .ni ?_; refine .gr ?_; repeat constructor
    refine ES.condN rfl (fun hne => ?_) (fun he => ?_)
    · rw [if_pos hne] at hgo
      have hx0 : tkH1 g15 (takeM p k) x = [] := if_neg hne
      rw [hx0]
      refine .gs ?_; repeat constructor
      refine ES.draw (X := Unit) (fun _ => [(2, Pv g2 0), (3, Pv g3 0), (4, Pv g4 0)]) (fun _ => HA.blk g2 (.cells zeroRe 46) :: HA.blk g3 (.cells #[Iv (takeM p k).2, Iv (k.at_ : Nat)] 33) :: R2) (HA.blk g5 (.cells (tokCells k) 112) :: R2) mixed (.i (by repeat constructor)) ?_ (fun _ => ?_)
      · refine .tk 1 rfl (RV.move rfl) ?_; refine .tk 2 rfl (RV.fieldAddr rfl rfl rfl rfl rfl rfl) ?_; refine .tk 3 rfl (RV.loadB rfl rfl rfl (by repeat constructor) rfl) ?_
        refine ED.fork 0 [4] (by decide +kernel) ⟨⟨_, rfl, ?_⟩, ⟨_, rfl, ?_⟩, trivial⟩
        · refine EL.buildZ rfl rfl rfl rfl rfl ?_; refine .nx ?_
          refine ED.fork 4 [5] (by decide +kernel) ⟨⟨_, rfl, ?_⟩, ⟨_, rfl, ?_⟩, trivial⟩
          · (apply EL.build2; exact rfl; exact rfl; exact rfl; exact rfl; exact rfl; exact rfl; exact rfl; exact rfl; exact rfl; exact rfl)
            refine .nx ?_; refine .ld 5 ?_; refine .sa ?_; refine .nx ?_; refine ED.last 6 rfl (by decide +kernel) (by decide +kernel) (by decide +kernel) ?_; refine .sa ?_; refine EL.endQ ?_
            exact .cy ()
          · refine .sa ?_; refine .nx ?_; refine .ld 4 ?_
            (apply EL.build2; exact rfl; exact rfl; exact rfl; exact rfl; exact rfl; exact rfl; exact rfl; exact rfl; exact rfl; exact rfl)
            refine .nx ?_; refine ED.last 6 rfl (by decide +kernel) (by decide +kernel) (by decide +kernel) ?_; refine .sa ?_; refine EL.endQ ?_
            exact .cy ()
        · (apply EL.build2; exact rfl; exact rfl; exact rfl; exact rfl; exact rfl; exact rfl; exact rfl; exact rfl; exact rfl; exact rfl)
          refine .nx ?_; refine .ld 0 ?_; refine EL.buildZ rfl rfl rfl rfl rfl ?_; refine .nx ?_; refine .ld 5 ?_; refine .sa ?_; refine .nx ?_; refine ED.last 6 rfl (by decide +kernel) (by decide +kernel) (by decide +kernel) ?_; refine .sa ?_; refine EL.endQ ?_
          exact .cy ()
      refine .gr ?_; repeat constructor
      exact PX.roundR ((takeM p k).2, k.at_) ⟨rfl, hgo.symm⟩ (.i (by repeat constructor))
    · rw [if_neg (fun h => h he)] at hgo
      have h6 : k.kind ≤ 6 := by
        rcases Nat.lt_or_ge k.kind 7 with h | h
        · omega
        · rw [takeM_7 h] at he; exact absurd he (hk3 (by omega))
      have hx1 : tkH1 g15 (takeM p k) x = [PP g15 x.1.fg x.1.fcap (takeM p k).1 x.1.tv x.1.rv] := if_pos he
      rw [hx1]
      refine .gr ?_; repeat constructor
      exact PX.round ⟨(takeM p k).1, x.1.fg, x.1.fcap, x.1.tv, x.1.rv⟩ ⟨hlt, x.2, takeM_ok hpo hk1 he h6, hk4 he, hgo⟩ (.i (by repeat constructor))
  · obtain ⟨p, fg, fcap, tv, rv⟩ := s
    obtain ⟨_, hrv, hpo, _, hgo⟩ := hs
    rw [List.length_map, List.drop_length] at hgo
    rw [List.length_map] at hpo
    dsimp only at hrv hpo hgo ⊢
    rw [parseGo] at hgo
    have hrl : rv.length = p.rest.length := by rw [← hrv, List.length_map]
    have hr9 : rv.length ≤ 9 := by have := hpo.deep; have := hpo.ok.groups; omega
    have htop := top_c g15 fg rv.length fcap (PR p.groups p.shut p.size) (preC rv ++ tv.cells p.top) (by omega)
    refine ES.imp (H' := markB D :: HA.blk g4 (.cells #[Pv g15 0] 100) :: HA.blk g2 (.cells zeroRe 46) :: HA.blk g3 (.cells #[Iv 0, Iv 0] 33) :: PB g15 fg (rv.length + 1) fcap (PR p.groups p.shut p.size) :: FB fg (rv.length + 1) fcap (preC rv ++ tv.cells p.top) :: KR tv.kad p.top.kids.length tv.kcap tv.kcs :: ZR tv.sad tv.scap p.top.sizes :: HA.forest tv.fp p.top.kids tv.kcs :: restH rv) (fun w hs => ?_) ?_
    · have h1 := hs.ent (H' := PP g15 fg fcap p tv rv :: markB D :: HA.blk g4 (.cells #[Pv g15 0] 100) :: HA.blk g2 (.cells zeroRe 46) :: HA.blk g3 (.cells #[Iv 0, Iv 0] 33) :: []) (.i (by repeat constructor))
      have h2 := (Sat.unpackL h1).perm List.perm_append_comm
      exact h2
    refine .gr ?_; (repeat constructor); refine .lb ?_; refine .nc ?_; refine .fa ?_; refine .lb ?_; refine .lL ?_; refine .gt_ ?_; refine .gr ?_; repeat constructor
    refine ES.condD rfl (fun hgt => ?_) (fun hle => ?_)
    · have hpe : parseM t = ⟨.cat [], 10, p.top.at_⟩ := by
        rw [← hgo]
        unfold endM
        split
        · rename_i h; rw [h] at hrl; simp only [List.length_nil] at hrl; omega
        · rfl
      rw [hpe]
      refine .gs ?_; repeat constructor
      refine ES.draw (X := Unit) (fun _ => [(2, Pv g2 0), (3, Pv g3 0), (4, Pv g4 0)]) (fun _ => markB D :: HA.blk g2 (.cells zeroRe 46) :: HA.blk g3 (.cells #[Iv 10, Iv (p.top.at_ : Nat)] 33) :: restH rv) (HA.blk g4 (.cells #[Pv g15 0] 100) :: FB fg (rv.length + 1) fcap (preC rv ++ tv.cells p.top) :: restH rv) mixed (.i (by repeat constructor)) ?_ (fun _ => ?_)
      · refine .tk 1 rfl (RV.loadB rfl rfl rfl (by repeat constructor) rfl) ?_
        refine ED.fork 0 [2] (by decide +kernel) ⟨⟨_, rfl, ?_⟩, ⟨_, rfl, ?_⟩, trivial⟩
        · refine EL.buildZ rfl rfl rfl rfl rfl ?_; refine .nx ?_; refine .ld 2 ?_
          (refine EL.callM1 rfl rfl rfl ent38 rfl htop (by repeat constructor) ?_)
          refine .nx ?_; refine .tk 3 rfl (RV.nilCheck rfl) ?_; refine .tk 4 rfl (RV.fieldAddr rfl rfl rfl rfl rfl rfl) ?_; refine .tk 5 rfl (RV.loadR rfl rfl rfl (by repeat constructor) (pre_at (preC rv) _ (rv.length * 4) 3 (preC_len rv))) ?_
          refine ED.fork 6 [7] (by decide +kernel) ⟨⟨_, rfl, ?_⟩, ⟨_, rfl, ?_⟩, trivial⟩
          · (apply EL.build2; exact rfl; exact rfl; exact rfl; exact rfl; exact rfl; exact rfl; exact rfl; exact rfl; exact rfl; exact rfl)
            refine .nx ?_; refine .ld 7 ?_; refine .sa ?_; refine .nx ?_; refine ED.last 8 rfl (by decide +kernel) (by decide +kernel) (by decide +kernel) ?_; refine .sa ?_; refine EL.endQ ?_
            exact .cy ()
          · refine .sa ?_; refine .nx ?_; refine .ld 6 ?_
            (apply EL.build2; exact rfl; exact rfl; exact rfl; exact rfl; exact rfl; exact rfl; exact rfl; exact rfl; exact rfl; exact rfl)
            refine .nx ?_; refine ED.last 8 rfl (by decide +kernel) (by decide +kernel) (by decide +kernel) ?_; refine .sa ?_; refine EL.endQ ?_
            exact .cy ()
        · (refine EL.callM1 rfl rfl rfl ent38 rfl htop (by repeat constructor) ?_)
          refine .nx ?_; refine .tk 3 rfl (RV.nilCheck rfl) ?_; refine .tk 4 rfl (RV.fieldAddr rfl rfl rfl rfl rfl rfl) ?_; refine .tk 5 rfl (RV.loadR rfl rfl rfl (by repeat constructor) (pre_at (preC rv) _ (rv.length * 4) 3 (preC_len rv))) ?_
          refine ED.fork 0 [6] (by decide +kernel) ⟨⟨_, rfl, ?_⟩, ⟨_, rfl, ?_⟩, trivial⟩
          · refine EL.buildZ rfl rfl rfl rfl rfl ?_; refine .nx ?_
            refine ED.fork 6 [7] (by decide +kernel) ⟨⟨_, rfl, ?_⟩, ⟨_, rfl, ?_⟩, trivial⟩
            · (apply EL.build2; exact rfl; exact rfl; exact rfl; exact rfl; exact rfl; exact rfl; exact rfl; exact rfl; exact rfl; exact rfl)
              refine .nx ?_; refine .ld 7 ?_; refine .sa ?_; refine .nx ?_; refine ED.last 8 rfl (by decide +kernel) (by decide +kernel) (by decide +kernel) ?_; refine .sa ?_; refine EL.endQ ?_
              exact .cy ()
            · refine .sa ?_; refine .nx ?_; refine .ld 6 ?_
              (apply EL.build2; exact rfl; exact rfl; exact rfl; exact rfl; exact rfl; exact rfl; exact rfl; exact rfl; exact rfl; exact rfl)
              refine .nx ?_; refine ED.last 8 rfl (by decide +kernel) (by decide +kernel) (by decide +kernel) ?_; refine .sa ?_; refine EL.endQ ?_
              exact .cy ()
          · (apply EL.build2; exact rfl; exact rfl; exact rfl; exact rfl; exact rfl; exact rfl; exact rfl; exact rfl; exact rfl; exact rfl)
            refine .nx ?_; refine .ld 0 ?_; refine EL.buildZ rfl rfl rfl rfl rfl ?_; refine .nx ?_; refine .ld 7 ?_; refine .sa ?_; refine .nx ?_; refine ED.last 8 rfl (by decide +kernel) (by decide +kernel) (by decide +kernel) ?_; refine .sa ?_; refine EL.endQ ?_
            exact .cy ()
      refine .gr ?_; repeat constructor
      exact PX.retM [D] rfl (by repeat constructor) Tryz.results20 (.cons (.blkA rfl rfl rfl (by repeat constructor) rfl) (.cons (.blkA rfl rfl rfl (by repeat constructor) rfl) .nil)) (fun w hs => ⟨⟨none, 0, []⟩, rfl, hfin hs⟩)
    · have hpe : parseM t = ⟨.cat p.top.kids, 0, 0⟩ := by
        rw [← hgo]
        unfold endM
        split
        · rfl
        · rename_i h; have : p.rest ≠ [] := h; have : 0 < p.rest.length := List.length_pos_iff.2 this; omega
      rw [hpe]
      refine .gr ?_; (repeat constructor); refine .lb ?_
      (refine EL.callM1 rfl rfl rfl ent38 rfl htop (by repeat constructor) ?_)
      refine .nc ?_; refine .fa ?_; refine EL.loadR rfl rfl rfl rfl rfl (by repeat constructor) (pre_at (preC rv) _ (rv.length * 4) 0 (preC_len rv)) ?_; refine EL.buildS (reCells (.cat p.top.kids) (.slice tv.kad p.top.kids.length tv.kcap)).toArray rfl rfl rfl rfl rfl rfl rfl ?_; refine EL.buildZ rfl rfl rfl rfl rfl ?_; refine .sa ?_; refine .sa ?_; refine .gr ?_; repeat constructor
      refine PX.retM [D] rfl (by repeat constructor) Tryz.results20 (.cons (.blkA rfl rfl rfl (by repeat constructor) rfl) (.cons (.blkA rfl rfl rfl (by repeat constructor) rfl) .nil)) (fun w hs => ⟨⟨tv.kad, tv.kcap, (Value.slice tv.kad p.top.kids.length tv.kcap).ownBlock.toList ++ tv.fp⟩, rfl, ?_⟩)
      exact Sat.ent (Sat.seal (.cat p.top.kids) rfl (hs.ent (H' := KR tv.kad p.top.kids.length tv.kcap tv.kcs :: HA.forest tv.fp p.top.kids tv.kcs :: restH rv) (.i (by repeat constructor)))) (.i (by repeat constructor))
  · obtain ⟨rfl, hc⟩ := hc
    rw [hc]
    refine .gr ?_; repeat constructor
    exact PX.retM [D] rfl (by repeat constructor) Tryz.results20 (.cons (.blkA rfl rfl rfl (by repeat constructor) rfl) (.cons (.blkA rfl rfl rfl (by repeat constructor) rfl) .nil)) (fun w hs => ⟨⟨none, 0, []⟩, rfl, hfin hs⟩)
end Go.Proofs.YthcbjbkheodejaaGreat
namespace Go.Proofs.YthcbjbkheodejaaGreat
open Go Go.RowKit Sl
set_option maxRecDepth 100000
set_option maxHeartbeats 8000000
attribute [local irreducible] ES EL PX wps
mutual
def RE.thin : RE → Bool
  | .byte _ => false
  | .back _ => false
  | .bol => true
  | .eol => true
  | .cat ks => thinL ks
  | .group _ k => k.thin
  | .rep _ hi k => decide (hi = 0) || k.thin
def thinL : List RE → Bool
  | [] => true
  | k :: ks => k.thin && thinL ks
end
def leastM (lo : Nat) (k : RE) : Nat := if k.thin = true then min lo 1 else lo
end Go.Proofs.YthcbjbkheodejaaGreat
namespace Go.Proofs.YthcbjbkheodejaaGreat
open Go Go.RowKit Sl
set_option maxRecDepth 100000
set_option maxHeartbeats 8000000
attribute [local irreducible] ES EL PX wps
def Node (S : Nat → Prop) (w : World) (g off : Nat) (r : RE) : Prop :=
  ∃ ad cap cs0, Reads S w (some ⟨g, off, none⟩) (reCells r (.slice ad r.kids.length cap)) ∧ Forest S w r.kids cs0 ∧ Reads S w ad cs0 ∧ r.kids.length ≤ cap
abbrev NodeRd (w : World) (B g off : Nat) (r : RE) : Prop := Node (· < B) w g off r
theorem Node.mono {S S' : Nat → Prop} {w : World} {g off : Nat} {r : RE} (h : Node S w g off r) (hs : ∀ g, S g → S' g) : Node S' w g off r := by
  obtain ⟨ad, cap, cs0, h1, h2, h3, h4⟩ := h
  exact ⟨ad, cap, cs0, h1.mono hs, h2.mono hs, h3.mono hs, h4⟩
theorem Node.loc {S : Nat → Prop} {w w' : World} {g off : Nat} {r : RE} (h : Node S w g off r) (hl : ∀ g, S g → w'.heap[g]? = w.heap[g]?) : Node S w' g off r := by
  obtain ⟨ad, cap, cs0, h1, h2, h3, h4⟩ := h
  exact ⟨ad, cap, cs0, h1.loc hl, h2.loc hl, h3.loc hl, h4⟩
theorem NodeRd.beneath {w0 w : World} {B B' g off : Nat} {r : RE} (h : NodeRd w0 B g off r) (hb : Below B w0 w) (hB : B ≤ B') : NodeRd w B' g off r :=
  (h.loc (fun g hg => hb.block g hg)).mono (fun g hg => Nat.lt_of_lt_of_le hg hB)
theorem NodeRd.sat {w0 w : World} {B g off : Nat} {H : List HA} {r : RE} (h : NodeRd w0 B g off r) (hs : Sat w0 B H w) : NodeRd w w.heap.size g off r := h.beneath hs.below hs.base
theorem Reads.take9 {S : Nat → Prop} {w : World} {g off : Nat} {cs : List Value} (h : Reads S w (some ⟨g, off, none⟩) cs) (i : Nat) (hi : i * 9 < cs.length) : Reads S w (some ⟨g, off + i * 9, none⟩) ((cs.drop (i * 9)).take 9) := by
  intro _
  obtain ⟨g', off', h1, h2, ca, ta, h3, h4⟩ := h (fun e => by subst e; simp at hi)
  simp only [Option.some.injEq, Addr.mk.injEq] at h1
  obtain ⟨rfl, rfl, _⟩ := h1
  refine ⟨g, off + i * 9, rfl, h2, ca, ta, h3, fun j v hj => ?_⟩
  rw [List.getElem?_take] at hj
  split at hj
  · rw [List.getElem?_drop] at hj
    have := h4 _ v hj
    rwa [← Nat.add_assoc] at this
  · cases hj
theorem Node.of_row {S : Nat → Prop} {w : World} {g off i : Nat} {ks : List RE} {cs : List Value} {k : RE} (hf : Forest S w ks cs) (hr : Reads S w (some ⟨g, off, none⟩) cs) (hi : ks[i]? = some k) : Node S w g (off + i * 9) k := by
  obtain ⟨ad, cap, cs0, h1, h2, h3, h4⟩ := hf.get i k hi
  have hlt : i < ks.length := (List.getElem?_eq_some_iff.1 hi).1
  have hr9 := hr.take9 i (by rw [hf.len]; omega)
  rw [h1] at hr9
  exact ⟨ad, cap, cs0, hr9, h2, h3, h4⟩
theorem Node.kids {S : Nat → Prop} {w : World} {g off : Nat} {r : RE} (h : Node S w g off r) : ∃ ad cap, Reads S w (some ⟨g, off, none⟩) (reCells r (.slice ad r.kids.length cap)) ∧ (r.kids ≠ [] → ∃ g' o', ad = some ⟨g', o', none⟩ ∧ ∀ i k, r.kids[i]? = some k → Node S w g' (o' + i * 9) k) := by
  obtain ⟨ad, cap, cs0, h1, h2, h3, _⟩ := h
  refine ⟨ad, cap, h1, fun hne => ?_⟩
  have hl := h2.len
  have hpos : 0 < r.kids.length := List.length_pos_iff.2 hne
  obtain ⟨g', o', rfl, _⟩ := h3 (fun e => by rw [e] at hl; simp at hl; omega)
  exact ⟨g', o', rfl, fun i k hi => Node.of_row h2 h3 hi⟩
abbrev KidsRd (w : World) (B : Nat) (ks : List RE) (ad : Option Addr) : Prop := ∀ i k, ks[i]? = some k → ∃ g o, ad = some ⟨g, o, none⟩ ∧ NodeRd w B g (o + i * 9) k
theorem Node.kids2 {S : Nat → Prop} {w : World} {g off : Nat} {r : RE} (h : Node S w g off r) : ∃ ad cap, Reads S w (some ⟨g, off, none⟩) (reCells r (.slice ad r.kids.length cap)) ∧ (∀ i k, r.kids[i]? = some k → ∃ g' o', ad = some ⟨g', o', none⟩ ∧ Node S w g' (o' + i * 9) k) ∧ r.kids.length ≤ cap := by
  obtain ⟨ad, cap, cs0, h1, h2, h3, h4⟩ := h
  refine ⟨ad, cap, h1, fun i k hi => ?_, h4⟩
  have hl := h2.len
  have hlt : i < r.kids.length := (List.getElem?_eq_some_iff.1 hi).1
  obtain ⟨g', o', rfl, _⟩ := h3 (fun e => by rw [e] at hl; simp at hl; omega)
  exact ⟨g', o', rfl, Node.of_row h2 h3 hi⟩
theorem kids_of {w0 w : World} {B : Nat} {H : List HA} {r : RE} {ad : Option Addr} {cap : Nat} {fp : List Nat} (hs : Sat w0 B H w) (h2 : Mem H (HA.forest fp [r] (reCells r (.slice ad r.kids.length cap)))) : KidsRd w w.heap.size r.kids ad := by
  have hf := Forest.sat hs h2
  obtain ⟨ad', cap', cs0, e1, e2, e3, _⟩ := hf.get 0 r rfl
  have e4 : reCells r (.slice ad r.kids.length cap) = reCells r (.slice ad' r.kids.length cap') := by
    rw [← e1]; simp [reCells]
  simp only [reCells, List.cons.injEq, Value.slice.injEq, and_true, true_and] at e4
  obtain ⟨rfl, rfl⟩ := e4
  intro i k hi
  have hl := e2.len
  have hlt : i < r.kids.length := (List.getElem?_eq_some_iff.1 hi).1
  obtain ⟨g, o, rfl, _⟩ := e3 (fun e => by rw [e] at hl; simp at hl; omega)
  exact ⟨g, o, rfl, Node.of_row e2 e3 hi⟩
theorem node_of {w0 w : World} {B g e : Nat} {H : List HA} {r : RE} {ad : Option Addr} {cap : Nat} {fp : List Nat} (hs : Sat w0 B H w) (h1 : Mem H (HA.blk g (.cells (reCells r (.slice ad r.kids.length cap)).toArray e))) (h2 : Mem H (HA.forest fp [r] (reCells r (.slice ad r.kids.length cap)))) : NodeRd w w.heap.size g 0 r := by
  have hb : w.heap[g]? = some (.cells (reCells r (.slice ad r.kids.length cap)).toArray e (0, 0)) := hs.all _ h1.mem
  have hlt : g < w.heap.size := (Array.getElem?_eq_some_iff.1 hb).1
  have hf := Forest.sat hs h2
  obtain ⟨ad', cap', cs0, e1, e2, e3, e5⟩ := hf.get 0 r rfl
  have e4 : reCells r (.slice ad r.kids.length cap) = reCells r (.slice ad' r.kids.length cap') := by
    rw [← e1]; simp [reCells]
  simp only [reCells, List.cons.injEq, Value.slice.injEq, and_true, true_and] at e4
  obtain ⟨rfl, rfl⟩ := e4
  exact ⟨ad, cap, cs0, fun _ => ⟨g, 0, rfl, hlt, _, e, hb, fun j v hj => by rw [Nat.zero_add]; simpa using hj⟩, e2, e3, e5⟩
mutual
def RE.sz : RE → Nat
  | .cat ks => szL ks + 1
  | .group _ k => k.sz + 1
  | .rep _ _ k => k.sz + 1
  | _ => 1
def szL : List RE → Nat
  | [] => 0
  | k :: ks => k.sz + szL ks
end
theorem sz_mem : ∀ {ks : List RE} {k : RE}, k ∈ ks → k.sz ≤ szL ks
  | k' :: ks, k, h => by
    rw [szL]
    rcases List.mem_cons.1 h with rfl | h
    · omega
    · have := sz_mem h; omega
theorem sz_pos (r : RE) : 0 < r.sz := by cases r <;> simp [RE.sz]
theorem kids_lt {r k : RE} (h : k ∈ r.kids) : k.sz < r.sz := by
  cases r <;> simp only [RE.kids, List.mem_cons, List.not_mem_nil, or_false] at h
  · have := sz_mem h
    simp only [RE.sz]; omega
  · subst h; simp only [RE.sz]; omega
  · subst h; simp only [RE.sz]; omega
theorem wv_inj {x y : UInt64} (h : Wv x = Wv y) : x = y := by
  simp only [Value.int.injEq, true_and] at h
  exact UInt64.toNat_inj.1 (by omega)
theorem iv_inj {x y : Nat} (h : Iv (x : Nat) = Iv (y : Nat)) : x = y := by
  simp only [Value.int.injEq, true_and] at h
  omega
theorem bs_inj {s t : BS} (ha : s.a = t.a) (hb : s.b = t.b) (hc : s.c = t.c) (hd : s.d = t.d) : s = t := by
  cases s; cases t; simp_all
theorem re_ext {r r' : RE} (h1 : r.kind = r'.kind) (h2 : r.set = r'.set) (h3 : r.lo = r'.lo) (h4 : r.hi = r'.hi) (h5 : r.num = r'.num) (h6 : r.kids = r'.kids) : r = r' := by
  cases r <;> cases r' <;> simp_all [RE.kind, RE.set, RE.lo, RE.hi, RE.num, RE.kids]
theorem Reads.one {S S' : Nat → Prop} {w : World} {g off : Nat} {cs cs' : List Value} (h : Reads S w (some ⟨g, off, none⟩) cs) (h' : Reads S' w (some ⟨g, off, none⟩) cs') (hl : cs.length = cs'.length) : cs = cs' := by
  apply List.ext_getElem hl
  intro i h1 h2
  have e1 := h.cell i _ (List.getElem?_eq_getElem h1)
  have e2 := h'.cell i _ (List.getElem?_eq_getElem h2)
  rw [e1] at e2
  exact Option.some.inj e2
theorem node_inj {S S' : Nat → Prop} {w : World} (n : Nat) : ∀ (g off : Nat) (r r' : RE), r.sz ≤ n → Node S w g off r → Node S' w g off r' → r = r' := by
  induction n with
  | zero => intro g off r r' hr; exact absurd (sz_pos r) (by omega)
  | succ n ih =>
    intro g off r r' hr h h'
    obtain ⟨ad, cap, hrd, hk⟩ := h.kids
    obtain ⟨ad', cap', hrd', hk'⟩ := h'.kids
    have he := hrd.one hrd' rfl
    simp only [reCells, List.cons.injEq, and_true] at he
    obtain ⟨h1, h2, h3, h4, h5, h6, h7, h8, h9⟩ := he
    simp only [Value.slice.injEq] at h9
    obtain ⟨rfl, hl, rfl⟩ := h9
    refine re_ext (iv_inj h1) (bs_inj (wv_inj h2) (wv_inj h3) (wv_inj h4) (wv_inj h5)) (iv_inj h6) (by simpa using h7) (iv_inj h8) ?_
    apply List.ext_getElem hl
    intro i a1 a2
    obtain ⟨g1, o1, e1, q1⟩ := hk (by intro e; rw [e] at a1; simp at a1)
    obtain ⟨g2, o2, e2, q2⟩ := hk' (by intro e; rw [e] at a2; simp at a2)
    rw [e1] at e2
    simp only [Option.some.injEq, Addr.mk.injEq] at e2
    obtain ⟨rfl, rfl, _⟩ := e2
    refine ih g1 (o1 + i * 9) _ _ ?_ (q1 i _ (List.getElem?_eq_getElem a1)) (q2 i _ (List.getElem?_eq_getElem a2))
    have := kids_lt (List.getElem_mem a1)
    omega
theorem Node.inj {S S' : Nat → Prop} {w : World} {g off : Nat} {r r' : RE} (h : Node S w g off r) (h' : Node S' w g off r') : r = r' := node_inj r.sz g off r r' (Nat.le_refl _) h h'
mutual
def RE.fine : RE → Prop
  | .cat ks => ks.length ≤ 1024 ∧ fineL ks
  | .group n k => n ≤ 9 ∧ k.fine
  | .rep lo hi k => lo ≤ 255 ∧ -1 ≤ hi ∧ hi ≤ 255 ∧ (0 ≤ hi → (lo : Int) ≤ hi) ∧ k.fine
  | .back n => 1 ≤ n ∧ n ≤ 9
  | _ => True
def fineL : List RE → Prop
  | [] => True
  | k :: ks => k.fine ∧ fineL ks
end
theorem fineL_iff : ∀ ks : List RE, fineL ks ↔ ∀ k ∈ ks, k.fine
  | [] => by simp [fineL]
  | k :: ks => by rw [fineL, fineL_iff ks]; simp
theorem fine_kid {r k : RE} (h : r.fine) (hk : k ∈ r.kids) : k.fine := by
  cases r <;> simp only [RE.kids, List.mem_cons, List.not_mem_nil, or_false] at hk
  · exact (fineL_iff _).1 h.2 k hk
  · subst hk; exact h.2
  · subst hk; exact h.2.2.2.2
theorem fine_len {r : RE} (h : r.fine) : r.kids.length ≤ 1024 := by
  cases r <;> simp only [RE.kids, List.length_nil, List.length_singleton] <;> first | omega | exact h.1
theorem thinL_all : ∀ ks : List RE, thinL ks = ks.all RE.thin
  | [] => rfl
  | k :: ks => by rw [thinL, List.all_cons, thinL_all ks]
theorem thin_eq (r : RE) : r.thin = if r.kind = 1 ∨ r.kind = 6 then false else if r.kind = 5 ∧ r.hi = 0 then true else r.kids.all RE.thin := by
  cases r with
  | cat ks => simp [RE.thin, RE.kind, RE.kids, thinL_all]
  | byte s => simp [RE.thin, RE.kind]
  | bol => simp [RE.thin, RE.kind, RE.kids]
  | eol => simp [RE.thin, RE.kind, RE.kids]
  | group n k => simp [RE.thin, RE.kind, RE.kids]
  | rep lo hi k => simp only [RE.thin, RE.kind, RE.kids, RE.hi]; by_cases h : hi = 0 <;> simp [h]
  | back n => simp [RE.thin, RE.kind]
theorem all_take {α : Type _} (p : α → Bool) (l : List α) (i : Nat) (k : α) (hi : l[i]? = some k) : (l.take (i + 1)).all p = ((l.take i).all p && p k) := by
  have hlt : i < l.length := (List.getElem?_eq_some_iff.1 hi).1
  rw [List.take_succ_eq_append_getElem hlt, (List.getElem?_eq_some_iff.1 hi).2]
  simp
theorem all_false {α : Type _} (p : α → Bool) (l : List α) (i : Nat) (k : α) (hi : l[i]? = some k) (h : p k = false) : l.all p = false := by
  rw [Bool.eq_false_iff]
  intro h2
  have := List.all_eq_true.1 h2 k (List.mem_of_getElem? hi)
  rw [h] at this; cases this
theorem thin_n (n : Nat) : ∀ (r : RE), r.sz ≤ n → r.fine → ∀ (g off : Nat) (w : World), NodeRd w w.heap.size g off r → Pure Tryz.prog 87 #[Pv g off] (fun _ : Unit => .bool r.thin) (fun _ => []) w := by
  induction n with
  | zero => intro r hr; exact absurd (sz_pos r) (by omega)
  | succ n ih =>
    intro r hr hfine g off w hn
    have hkl := fine_len hfine
    obtain ⟨ad, cap, hrd, hkids⟩ := hn.kids
    have hrd := hrd.rd
    have hte := thin_eq r
    refine calls_of_ES TB Tryz.func87 rfl _ Tryz.ntmps87 rfl (Sat.start w) ?_; refine .go ?_; (repeat constructor); refine .as_ ?_; refine .go ?_; repeat constructor
    refine EL.cutX (X := Unit) (fun _ => [(0, Pv g off), (4, .bool (decide (r.kind = 1 ∨ r.kind = 6)))]) (fun _ => []) ?_ (fun _ => ?_)
    · refine .go ?_; (repeat constructor); refine .mv ?_; refine .nc ?_; refine .fa ?_; refine EL.loadOld rfl rfl rfl rfl rfl hrd rfl ?_; refine .ei ?_; refine .mv ?_
      first | refine EL.splitD (d := 10) rfl (fun hp10 => ?_) (fun hp10 => ?_) | refine EL.splitN (d := 10) rfl (fun hp10 => ?_) (fun hp10 => ?_) | refine EL.splitB (d := 10) rfl (fun hp10 => ?_) (fun hp10 => ?_)
      · refine .ps ?_; refine .ps ?_; refine .ps ?_; refine .ps ?_; refine .ps ?_; refine .pt ?_; refine .as_ ?_
        exact .dx () ⟨rfl, getA rfl (congrArg Value.bool (by rw [Bool.eq_iff_iff]; simp only [decide_eq_true_eq, true_iff]; omega)), trivial⟩
      · refine .mv ?_; refine .nc ?_; refine .fa ?_; refine EL.loadOld rfl rfl rfl rfl rfl hrd rfl ?_; refine .ei ?_; refine .pf ?_; refine .as_ ?_
        exact .dx () ⟨rfl, getA rfl (congrArg Value.bool (by rw [Bool.eq_iff_iff]; simp only [decide_eq_true_eq, true_iff]; omega)), trivial⟩
    refine ES.condD rfl (fun h1 => ?_) (fun h1 => ?_)
    · rw [if_pos h1] at hte
      rw [hte]
      refine .go ?_; (repeat constructor); refine .as_ ?_; refine .go ?_; repeat constructor
      exact PX.ret rfl Tryz.results87 (.cons (.tmp rfl) .nil) (fun w hs => ⟨(), rfl, hs.ent (.i (by repeat constructor))⟩)
    rw [if_neg h1] at hte
    refine .go ?_; repeat constructor
    refine EL.cutX (X := Unit) (fun _ => [(0, Pv g off), (17, .bool (decide (r.kind = 5 ∧ r.hi = 0)))]) (fun _ => []) ?_ (fun _ => ?_)
    · refine .go ?_; (repeat constructor); refine .mv ?_; refine .nc ?_; refine .fa ?_; refine EL.loadOld rfl rfl rfl rfl rfl hrd rfl ?_; refine .ei ?_; refine .mv ?_
      first | refine EL.splitD (d := 23) rfl (fun hp23 => ?_) (fun hp23 => ?_) | refine EL.splitN (d := 23) rfl (fun hp23 => ?_) (fun hp23 => ?_) | refine EL.splitB (d := 23) rfl (fun hp23 => ?_) (fun hp23 => ?_)
      · refine .mv ?_; refine .nc ?_; refine .fa ?_; refine EL.loadOld rfl rfl rfl rfl rfl hrd rfl ?_; refine .ei ?_; refine .pt ?_; refine .as_ ?_
        exact .dx () ⟨rfl, getA rfl (congrArg Value.bool (by rw [Bool.eq_iff_iff]; simp only [decide_eq_true_eq, Bool.false_eq_true, false_iff]; omega)), trivial⟩
      · refine .ps ?_; refine .ps ?_; refine .ps ?_; refine .ps ?_; refine .ps ?_; refine .pf ?_; refine .as_ ?_
        exact .dx () ⟨rfl, getA rfl (congrArg Value.bool (by rw [Bool.eq_iff_iff]; simp only [decide_eq_true_eq, Bool.false_eq_true, false_iff]; omega)), trivial⟩
    refine ES.condD rfl (fun h2 => ?_) (fun h2 => ?_)
    · rw [if_pos h2] at hte
      rw [hte]
      refine .go ?_; (repeat constructor); refine .as_ ?_; refine .go ?_; repeat constructor
      exact PX.ret rfl Tryz.results87 (.cons (.tmp rfl) .nil) (fun w hs => ⟨(), rfl, hs.ent (.i (by repeat constructor))⟩)
    rw [if_neg h2] at hte
    refine .go ?_; (repeat constructor); refine .mv ?_; refine .nc ?_; refine .fa ?_; refine EL.loadOld rfl rfl rfl rfl rfl hrd rfl ?_; refine .lL ?_; refine .mv ?_; refine .go ?_; (repeat constructor); refine ES.loop (σ := Nat) (fun i => i ≤ r.kids.length ∧ (r.kids.take i).all RE.thin = true) (fun i => [(0, Pv g off), (34, Iv (r.kids.length : Nat)), (35, Iv (i : Nat))]) (fun _ => []) (fun i => r.kids.length - i) 0 ⟨Nat.zero_le _, rfl⟩ ⟨rfl, rfl, rfl, trivial⟩ (.i (by repeat constructor)) ?_
    rintro i ⟨hi, hall⟩
    dsimp only at hi hall ⊢
    refine .go ?_; (repeat constructor); refine .ls ?_; refine .go ?_; repeat constructor
    refine ES.condD rfl (fun hlt => ?_) (fun hge => ?_)
    · have hlt' : i < r.kids.length := by omega
      obtain ⟨g', o', rfl, hk⟩ := hkids (by intro e; rw [e] at hlt'; simp at hlt')
      obtain ⟨k, hki⟩ : ∃ k, r.kids[i]? = some k := ⟨_, List.getElem?_eq_getElem hlt'⟩
      have hkn := hk i k hki
      have hks := kids_lt (List.mem_of_getElem? hki)
      refine .go ?_; (repeat constructor); refine .mv ?_; refine .as_ ?_; refine .go ?_; (repeat constructor); refine .mv ?_; refine .nc ?_; refine .fa ?_; refine EL.loadOld rfl rfl rfl rfl rfl hrd rfl ?_; refine .mv ?_; refine EL.indexAddrL rfl rfl rfl rfl rfl rfl rfl (by omega) ?_; refine EL.callPw rfl rfl rfl ent87 rfl (fun w hs => ih k (by omega) (fine_kid hfine (List.mem_of_getElem? hki)) g' (o' + i * 9) w (NodeRd.sat hkn hs)) ?_; refine .nt ?_; refine .go ?_; repeat constructor
      refine ES.cond rfl (fun hf => ?_) (fun ht => ?_)
      · rw [Bool.not_eq_true'] at hf
        rw [hte, all_false _ _ _ _ hki hf]
        refine .go ?_; (repeat constructor); refine .as_ ?_; refine .go ?_; repeat constructor
        exact PX.ret rfl Tryz.results87 (.cons (.tmp rfl) .nil) (fun w hs => ⟨(), rfl, hs.ent (.i (by repeat constructor))⟩)
      · rw [Bool.not_eq_false'] at ht
        refine .go ?_; (repeat constructor); refine .a1 ?_; refine .mv ?_; refine .go ?_; repeat constructor
        exact .ly (i + 1) ⟨hlt', by rw [all_take _ _ _ _ hki, hall, ht]; rfl⟩ (by omega)
    · rw [hte, show r.kids.all RE.thin = true by rw [List.take_of_length_le (by omega)] at hall; exact hall]
      refine .go ?_; (repeat constructor); refine .as_ ?_; refine .go ?_; repeat constructor
      exact PX.ret rfl Tryz.results87 (.cons (.tmp rfl) .nil) (fun w hs => ⟨(), rfl, hs.ent (.i (by repeat constructor))⟩)
theorem thin_c (r : RE) (hf : r.fine) (g off : Nat) (w : World) (h : NodeRd w w.heap.size g off r) : Pure Tryz.prog 87 #[Pv g off] (fun _ : Unit => .bool r.thin) (fun _ => []) w := thin_n r.sz r (Nat.le_refl _) hf g off w h
theorem least_c (lo : Nat) (hi : Int) (k : RE) (hf : (RE.rep lo hi k).fine) (g off : Nat) (w : World) (h : NodeRd w w.heap.size g off (.rep lo hi k)) : Pure Tryz.prog 68 #[Pv g off] (fun _ : Unit => Iv (leastM lo k : Nat)) (fun _ => []) w := by
  obtain ⟨ad, cap, hrd, hkids⟩ := h.kids
  have hrd := hrd.rd
  obtain ⟨g', o', rfl, hk⟩ := hkids (by simp [RE.kids])
  have hkn : NodeRd w w.heap.size g' o' k := by have := hk 0 k rfl; rwa [Nat.zero_mul, Nat.add_zero] at this
  have hlo := hf.1
  have hle : leastM lo k = if k.thin = true then min lo 1 else lo := rfl
  refine calls_of_ES TB Tryz.func68 rfl _ Tryz.ntmps68 rfl (Sat.start w) ?_; refine .go ?_; (repeat constructor); refine .as_ ?_; refine .go ?_; (repeat constructor); refine .mv ?_; refine .nc ?_; refine .fa ?_; refine EL.loadOld rfl rfl rfl rfl rfl hrd rfl ?_; refine EL.indexAddrL (i := 0) rfl rfl rfl rfl rfl rfl rfl (by simp [RE.kids]) ?_; refine EL.callPw rfl rfl rfl ent87 rfl (fun w hs => thin_c k hf.2.2.2.2 g' o' w (NodeRd.sat hkn hs)) ?_; refine .go ?_; repeat constructor
  refine ES.cond rfl (fun ht => ?_) (fun hf => ?_)
  · rw [if_pos ht] at hle
    rw [hle]
    refine .go ?_; (repeat constructor); refine .mv ?_; refine .nc ?_; refine .fa ?_; refine EL.loadOld rfl rfl rfl rfl rfl hrd rfl ?_
    refine EL.ofRV (RV.minI rfl rfl) rfl rfl rfl (by intro c h; cases h) ?_
    refine .as_ ?_; refine .go ?_; repeat constructor
    exact PX.ret rfl Tryz.results68 (.cons (.tmp rfl) .nil) (fun w hs => ⟨(), by show Ending.returned (Iv (min (lo : Int) 1)) = Ending.returned (Iv ((min lo 1 : Nat) : Int)); congr 2; omega, hs.ent (.i (by repeat constructor))⟩)
  · rw [if_neg (by rw [hf]; decide)] at hle
    rw [hle]
    refine .go ?_; (repeat constructor); refine .mv ?_; refine .nc ?_; refine .fa ?_; refine EL.loadOld rfl rfl rfl rfl rfl hrd rfl ?_; refine .as_ ?_; refine .go ?_; repeat constructor
    exact PX.ret rfl Tryz.results68 (.cons (.tmp rfl) .nil) (fun w hs => ⟨(), rfl, hs.ent (.i (by repeat constructor))⟩)
theorem kind_1 {r : RE} (h : r.kind = 1) : ∃ b, r = .byte b := by cases r <;> first | (simp [RE.kind] at h; done) | exact ⟨_, rfl⟩
theorem kind_2 {r : RE} (h : r.kind = 2) : r = .bol := by cases r <;> first | (simp [RE.kind] at h; done) | rfl
theorem kind_3 {r : RE} (h : r.kind = 3) : r = .eol := by cases r <;> first | (simp [RE.kind] at h; done) | rfl
theorem kind_6 {r : RE} (h : r.kind = 6) : ∃ n, r = .back n := by cases r <;> first | (simp [RE.kind] at h; done) | exact ⟨_, rfl⟩
theorem kind_5 {r : RE} (h : r.kind = 5) : ∃ lo hi k, r = .rep lo hi k := by cases r <;> first | (simp [RE.kind] at h; done) | exact ⟨_, _, _, rfl⟩
theorem kind_le (r : RE) : r.kind ≤ 6 := by cases r <;> simp [RE.kind]
theorem set_cells (r : RE) (kv : Value) : ∀ i u, [Wv r.set.a, Wv r.set.b, Wv r.set.c, Wv r.set.d][i]? = some u → (reCells r kv)[1 + i]? = some u := by
  intro i u hi
  rw [Nat.add_comm]
  simp only [reCells, List.getElem?_cons_succ]
  rcases i with _ | _ | _ | _ | i <;> simp_all
end Go.Proofs.YthcbjbkheodejaaGreat
namespace Go.Proofs.YthcbjbkheodejaaGreat
open Go Go.RowKit Sl
set_option maxRecDepth 100000
set_option maxHeartbeats 8000000
attribute [local irreducible] ES EL PX wps
def kidsFine (p : PS) : Prop := ∀ f ∈ p.top :: p.rest, ∀ k ∈ f.kids, k.fine
theorem put_fine {p : PS} {r : RE} {n : Nat} {sz : Nat} (h : kidsFine p) (hr : r.fine) : kidsFine { p with top := p.top.put r n, size := sz } := by
  intro f hf k hk
  rcases List.mem_cons.1 hf with rfl | hf
  · simp only [put_kids, List.mem_append, List.mem_singleton] at hk
    rcases hk with hk | rfl
    · exact h p.top (by simp) k hk
    · exact hr
  · exact h f (by simp [hf]) k hk
theorem takeM_fine {p : PS} {N : Nat} (hN : N ≤ 1024) {k : Tok} (hp : POk p N) (hk : TokOk p k) (h6 : k.kind ≤ 6) (he : (takeM p k).2 = 0) (h : kidsFine p) : kidsFine (takeM p k).1 := by
  rcases (by omega : k.kind = 0 ∨ k.kind = 1 ∨ k.kind = 2 ∨ k.kind = 3 ∨ k.kind = 4 ∨ k.kind = 5 ∨ k.kind = 6) with h0 | h0 | h0 | h0 | h0 | h0 | h0
  · rw [takeM_0 h0]
    exact put_fine h (by simp [RE.fine])
  · rw [takeM_1 h0]
    exact put_fine h (by simp [RE.fine])
  · rw [takeM_2 h0]
    exact put_fine h (by simp [RE.fine])
  · rw [takeM_3 h0] at he ⊢
    split at he
    · cases he
    · rename_i hg
      rw [if_neg hg]
      intro f hf
      rcases List.mem_cons.1 hf with rfl | hf
      · simp
      · exact h f hf
  · rw [takeM_4 h0] at he ⊢
    obtain ⟨top, rest, groups, shut, size⟩ := p
    cases rest with
    | nil => cases he
    | cons f r =>
      dsimp only
      have hn := hp.ok.num top (by simp)
      have hkl := hp.kids top (by simp)
      intro f' hf k' hk'
      rcases List.mem_cons.1 hf with rfl | hf
      · simp only [put_kids, List.mem_append, List.mem_singleton] at hk'
        rcases hk' with hk' | rfl
        · exact h f (by simp) k' hk'
        · refine ⟨hn, by omega, (fineL_iff _).2 (fun k2 hk2 => h top (by simp) k2 hk2)⟩
      · exact h f' (by simp [hf]) k' hk'
  · rw [takeM_5 h0] at he ⊢
    obtain ⟨hne, q1, q2, q3, q4, q5⟩ := hk.rep h0
    dsimp only
    have hl := dropLast_last p.top.kids .bol hne
    intro f hf k' hk'
    rcases List.mem_cons.1 hf with rfl | hf
    · simp only [List.mem_append, List.mem_singleton] at hk'
      rcases hk' with hk' | rfl
      · exact h p.top (by simp) k' (by rw [hl]; exact List.mem_append_left _ hk')
      · have hlast : p.top.kids.getLastD .bol ∈ p.top.kids := by
          have hm : p.top.kids.getLastD .bol ∈ p.top.kids.dropLast ++ [p.top.kids.getLastD .bol] := List.mem_append_right _ List.mem_cons_self
          rwa [← hl] at hm
        refine ⟨by omega, q3, q4, fun hh => ?_, h p.top (by simp) _ hlast⟩
        have := q5 hh
        omega
    · exact h f (by simp [hf]) k' hk'
  · rw [takeM_6 h0] at he ⊢
    split at he
    · rename_i hs
      rw [if_pos hs]
      have := hk.back h0
      exact put_fine h ⟨by omega, by omega⟩
    · cases he
theorem parseGo_fine : ∀ (ks : List Tok) (p : PS) (N : Nat), N + ks.length ≤ 1024 → POk p N → TksOk ks p → kidsFine p → (parseGo ks p).tree.fine
  | [], p, N, hN, hp, _, h => by
    rw [parseGo]
    unfold endM
    split
    · exact ⟨by have := hp.kids p.top (by simp); omega, (fineL_iff _).2 (fun k hk => h p.top (by simp) k hk)⟩
    · exact ⟨by simp, trivial⟩
  | k :: ks, p, N, hN, hp, hk, h => by
    rw [parseGo]
    simp only [List.length_cons] at hN
    obtain ⟨h1, h2, h3, h4⟩ := hk
    split
    · exact ⟨by simp, trivial⟩
    · rename_i he
      have he := Classical.not_not.1 he
      have h6 : k.kind ≤ 6 := by
        rcases Nat.lt_or_ge k.kind 7 with hh | hh
        · omega
        · rw [takeM_7 hh] at he; exact absurd he (h3 (by omega))
      exact parseGo_fine ks _ (N + 1) (by omega) (takeM_ok hp h1 he h6) (h4 he) (takeM_fine (by omega) hp h1 h6 he h)
theorem parse_fine (t : List UInt8) : (parseM t).tree.fine := by
  unfold parseM
  split
  · exact ⟨by simp, trivial⟩
  · rename_i ht
    have := toks_len t t.length 0 true true
    exact parseGo_fine _ _ 0 (by unfold toksM; omega) ps0_pok (parse_toks_ok t) (by intro f hf k hk; simp [ps0] at hf; subst hf; simp at hk)
end Go.Proofs.YthcbjbkheodejaaGreat
namespace Go.Proofs.YthcbjbkheodejaaGreat.Sl
open Go Go.RowKit
structure MK where
  g : Nat
  off : Nat
  is : List Int
deriving DecidableEq
def MK.cells (k : MK) : Array Value := (Pv k.g k.off :: k.is.map fun i : Int => Iv i).toArray
abbrev MK.val (k : MK) : Value := .agg k.cells
section eq
variable {P : Program} (T : TyTab P)
end eq
theorem Sat.rules {w0 w : World} {B : Nat} {Hs Hs' R : List HA} (h : Sat w0 B (Hs ++ R) w) (hf : (fps Hs).Perm (fps Hs')) (hA : (∀ X ∈ Hs, X.holds w) → ∀ Y ∈ Hs', Y.holds w) : Sat w0 B (Hs' ++ R) w := by
  have hp : (fps (Hs ++ R)).Perm (fps (Hs' ++ R)) := by rw [fps_append, fps_append]; exact hf.append_right _
  refine ⟨h.below, h.base, hp.nodup_iff.1 h.nodup, fun g hg => h.lo g (hp.mem_iff.2 hg), fun X hX => ?_⟩
  rcases List.mem_append.1 hX with hX | hX
  · exact hA (fun Y hY => h.all Y (by simp [hY])) X hX
  · exact h.all X (by simp [hX])
theorem wps_B (C : Cx) (w1 : World) (B1 : Nat) (Q : Qt) : ∀ cs, wps { C with w0 := w1, B := B1 } cs Q = wps C cs Q
  | [] => rfl
  | c :: cs => by simp only [wps, wps_B C w1 B1 Q cs]
theorem ES.rebase {C : Cx} {cs : List Code} {Q : Qt} {E : Env} {H : List HA} (h : ∀ w1, Sat C.w0 C.B H w1 → ES { C with w0 := w1, B := w1.heap.size } cs Q E []) : ES C cs Q E H := fun a w ha => by
  have h1 := h w ha.2 a w ⟨ha.1, Sat.start w⟩
  rw [wps_B] at h1
  exact h1
section maps
variable {C : Cx} {all : Array Oper} {ops : List Oper} {Q : Qt} {E : Env} {H H' R : List HA} {d ty t t' : Nat} {pos : String} {af : Array Edge} {gd : Option (Nat × Bool)} {x y z : Operand}
theorem RV.loadOldA {ti : TI} {g off j : Nat} {cs vs : List Value} (hx : E.ev x = some (Pv g (off + j))) (ht : C.T.f t = some ti) (hu : ti.agg = true) (hl : ti.size = vs.length) (hpos : 0 < vs.length) (hr : Rd C.w0 C.B (some ⟨g, off, none⟩) cs) (hc : ∀ i u, vs[i]? = some u → cs[j + i]? = some u) : RunV C E H ⟨some d, .load t x, ty, pos, af, gd⟩ (.agg vs.toArray) :=
  RV.loadAgg (cs := vs) hx ht hu hl (fun w hs i u hi => by
    have hci := hc i u hi
    have hne : cs ≠ [] := fun e => by rw [e] at hci; simp at hci
    obtain ⟨g', off', h1, h2, h3⟩ := hr.sat hs hne
    simp only [Option.some.injEq, Addr.mk.injEq] at h1
    obtain ⟨rfl, rfl, _⟩ := h1
    have := h3 (j + i) u hci
    rw [add_n, Nat.add_assoc]
    exact this)
end maps
end Go.Proofs.YthcbjbkheodejaaGreat.Sl
namespace Go.Proofs.YthcbjbkheodejaaGreat
open Go Go.RowKit Sl
set_option maxRecDepth 100000
set_option maxHeartbeats 8000000
attribute [local irreducible] ES EL PX wps
structure Ed where
  kind : Nat
  set : BS
  to : Nat
structure AM where
  out : List (List Ed)
  back : List (List Ed)
def addTo (l : List (List Ed)) (i : Nat) (e : Ed) : List (List Ed) := l.set i (l.getD i [] ++ [e])
def AM.add (a : AM) : AM := ⟨a.out ++ [[]], a.back ++ [[]]⟩
def AM.link (a : AM) (f t k : Nat) (s : BS) : AM := ⟨addTo a.out f ⟨k, s, t⟩, addTo a.back t ⟨k, s, f⟩⟩
def AM.step (a : AM) (f k : Nat) (s : BS) : AM := a.add.link f a.out.length k s
def timesA (f : AM → Nat → AM × Nat) : Nat → AM → Nat → AM × Nat
  | 0, a, p => (a, p)
  | n + 1, a, p => timesA f n (f a p).1 (f a p).2
def optA (f : AM → Nat → AM × Nat) (out : Nat) : Nat → AM → Nat → AM
  | 0, a, _ => a
  | n + 1, a, p => optA f out n ((f a p).1.link (f a p).2 out 0 zeroS) (f a p).2
def repA (lo : Nat) (hi : Int) (k : RE) (f : AM → Nat → AM × Nat) (a : AM) (p : Nat) : AM × Nat :=
  let x := timesA f (leastM lo k) a p
  if hi = (lo : Int) ∨ k.thin = true then x
  else if hi < 0 then
    let h := x.1.out.length
    let y := f (x.1.step x.2 0 zeroS) h
    (y.1.link y.2 h 0 zeroS, h)
  else
    let o := x.1.out.length
    (optA f o (hi.toNat - lo) (x.1.step x.2 0 zeroS) x.2, o)
mutual
def layM : RE → AM → Nat → AM × Nat
  | .byte s, a, p => (a.step p 1 s, a.out.length)
  | .bol, a, p => (a.step p 2 zeroS, a.out.length)
  | .eol, a, p => (a.step p 3 zeroS, a.out.length)
  | .back _, a, p => ((a.step p 0 zeroS).link a.out.length a.out.length 1 (notS zeroS), a.out.length)
  | .rep lo hi k, a, p => repA lo hi k (layM k) a p
  | .cat ks, a, p => layL ks a p
  | .group _ k, a, p => layM k a p
def layL : List RE → AM → Nat → AM × Nat
  | [], a, p => (a, p)
  | k :: ks, a, p => layL ks (layM k a p).1 (layM k a p).2
end
def makeM (ks : List RE) : AM × Nat := layL ks (AM.add ⟨[], []⟩) 0
theorem add_len (a : AM) : a.add.out.length = a.out.length + 1 := by simp [AM.add]
theorem addTo_len (l : List (List Ed)) (i : Nat) (e : Ed) : (addTo l i e).length = l.length := by simp [addTo]
theorem link_len (a : AM) (f t k : Nat) (s : BS) : (a.link f t k s).out.length = a.out.length ∧ (a.link f t k s).back.length = a.back.length := ⟨addTo_len _ _ _, addTo_len _ _ _⟩
def EdsOk (es : List (List Ed)) : Prop := ∀ l ∈ es, ∀ e ∈ l, e.to < es.length ∧ e.kind ≤ 3
structure AM.Room (a : AM) (n : Nat) : Prop where
  out : a.out.length + n ≤ 131072
  same : a.back.length = a.out.length
  ro : ∀ l ∈ a.out, l.length + n ≤ 131072
  rb : ∀ l ∈ a.back, l.length + n ≤ 131072
  eo : EdsOk a.out
  eb : EdsOk a.back
theorem AM.Room.less {a : AM} {n m : Nat} (h : a.Room n) (hm : m ≤ n) : a.Room m := ⟨by have := h.out; omega, h.same, fun l hl => by have := h.ro l hl; omega, fun l hl => by have := h.rb l hl; omega, h.eo, h.eb⟩
theorem eds_add {l : List (List Ed)} (h : EdsOk l) : EdsOk (l ++ [[]]) := fun x hx e he => by
  rcases List.mem_append.1 hx with hx | hx
  · have := h x hx e he
    simp only [List.length_append, List.length_singleton]; exact ⟨by omega, this.2⟩
  · simp only [List.mem_singleton] at hx; subst hx; cases he
theorem eds_link {l : List (List Ed)} (h : EdsOk l) {i : Nat} {e : Ed} (ht : e.to < l.length) (hk : e.kind ≤ 3) : EdsOk (addTo l i e) := fun x hx e' he => by
  rw [addTo_len]
  rcases List.mem_or_eq_of_mem_set hx with hx | rfl
  · exact h x hx e' he
  · rcases List.mem_append.1 he with he | he
    · rw [List.getD_eq_getElem?_getD] at he
      cases hg : l[i]? with
      | none => rw [hg] at he; cases he
      | some y => rw [hg] at he; exact h y (List.mem_of_getElem? hg) e' he
    · rw [List.mem_singleton] at he; subst he; exact ⟨ht, hk⟩
theorem add_room {a : AM} {n : Nat} (h : a.Room (n + 1)) : a.add.Room n := by
  refine ⟨by have := h.out; rw [add_len]; omega, by simp [AM.add, h.same], fun l hl => ?_, fun l hl => ?_, eds_add h.eo, eds_add h.eb⟩
  · rcases List.mem_append.1 hl with hl | hl
    · have := h.ro l hl; omega
    · have := h.out; simp only [List.mem_singleton] at hl; subst hl; simp; omega
  · rcases List.mem_append.1 hl with hl | hl
    · have := h.rb l hl; omega
    · have := h.out; simp only [List.mem_singleton] at hl; subst hl; simp; omega
theorem addTo_room {l : List (List Ed)} {n : Nat} (h : ∀ x ∈ l, x.length + (n + 1) ≤ 131072) {i : Nat} (hi : i < l.length) (e : Ed) : ∀ x ∈ addTo l i e, x.length + n ≤ 131072 := by
  intro x hx
  rcases List.mem_or_eq_of_mem_set hx with hx | rfl
  · have := h x hx; omega
  · have := h l[i] (List.getElem_mem hi)
    simp only [List.getD_eq_getElem?_getD, List.getElem?_eq_getElem hi, Option.getD_some, List.length_append, List.length_singleton]
    omega
theorem link_room {a : AM} {n f t k : Nat} {s : BS} (h : a.Room (n + 1)) (hf : f < a.out.length) (ht : t < a.out.length) (hk : k ≤ 3 := by omega) : (a.link f t k s).Room n :=
  ⟨by rw [(link_len a f t k s).1]; have := h.out; omega, by rw [(link_len a f t k s).1, (link_len a f t k s).2]; exact h.same, addTo_room h.ro hf _, addTo_room h.rb (by rw [h.same]; exact ht) _, eds_link h.eo ht hk, eds_link h.eb (by rw [h.same]; exact hf) hk⟩
theorem step_len (a : AM) (f k : Nat) (s : BS) : (a.step f k s).out.length = a.out.length + 1 := by
  unfold AM.step; rw [(link_len _ _ _ _ _).1, add_len]
theorem step_room {a : AM} {n f k : Nat} {s : BS} (h : a.Room (n + 2)) (hf : f < a.out.length) (hk : k ≤ 3 := by omega) : (a.step f k s).Room n :=
  link_room (add_room h) (by rw [add_len]; omega) (by rw [add_len]; omega) hk
mutual
/-- How many states and edges a tree takes at the most. -/
def RE.cost : RE → Nat
  | .byte _ => 2
  | .bol => 2
  | .eol => 2
  | .back _ => 3
  | .cat ks => costL ks
  | .group _ k => k.cost
  | .rep lo hi k => leastM lo k * k.cost + (if hi = (lo : Int) ∨ k.thin = true then 0 else if hi < 0 then k.cost + 3 else (hi.toNat - lo) * (k.cost + 1) + 2)
def costL : List RE → Nat
  | [] => 0
  | k :: ks => k.cost + costL ks
end
structure Lays (c : Nat) (f : AM → Nat → AM × Nat) : Prop where
  room : ∀ a p n, a.Room (c + n) → p < a.out.length → (f a p).1.Room n ∧ (f a p).2 < (f a p).1.out.length ∧ a.out.length ≤ (f a p).1.out.length
theorem times_room {c : Nat} {f : AM → Nat → AM × Nat} (hf : Lays c f) : ∀ (m : Nat) (a : AM) (p n : Nat), a.Room (m * c + n) → p < a.out.length → (timesA f m a p).1.Room n ∧ (timesA f m a p).2 < (timesA f m a p).1.out.length ∧ a.out.length ≤ (timesA f m a p).1.out.length
  | 0, a, p, n, h, hp => ⟨h.less (by omega), hp, Nat.le_refl _⟩
  | m + 1, a, p, n, h, hp => by
    have h1 := hf.room a p (m * c + n) (h.less (by rw [Nat.succ_mul]; omega)) hp
    have h2 := times_room hf m _ _ n h1.1 h1.2.1
    exact ⟨h2.1, h2.2.1, by have := h1.2.2; have := h2.2.2; simp only [timesA]; omega⟩
theorem opt_room {c : Nat} {f : AM → Nat → AM × Nat} (hf : Lays c f) {o : Nat} : ∀ (m : Nat) (a : AM) (p n : Nat), a.Room (m * (c + 1) + n) → p < a.out.length → o < a.out.length → (optA f o m a p).Room n ∧ a.out.length ≤ (optA f o m a p).out.length
  | 0, a, p, n, h, hp, ho => ⟨h.less (by omega), Nat.le_refl _⟩
  | m + 1, a, p, n, h, hp, ho => by
    have h1 := hf.room a p (m * (c + 1) + n + 1) (h.less (by rw [Nat.succ_mul]; omega)) hp
    have h2 := opt_room hf (o := o) m ((f a p).1.link (f a p).2 o 0 zeroS) (f a p).2 n (link_room h1.1 h1.2.1 (by omega)) (by rw [(link_len _ _ _ _ _).1]; exact h1.2.1) (by rw [(link_len _ _ _ _ _).1]; omega)
    refine ⟨h2.1, ?_⟩
    have := h2.2
    rw [(link_len _ _ _ _ _).1] at this
    simp only [optA]; omega
theorem rep_room {lo : Nat} {hi : Int} {k : RE} (hk : Lays k.cost (layM k)) (a : AM) (p n : Nat) (h : a.Room ((RE.rep lo hi k).cost + n)) (hp : p < a.out.length) :
    (repA lo hi k (layM k) a p).1.Room n ∧ (repA lo hi k (layM k) a p).2 < (repA lo hi k (layM k) a p).1.out.length ∧ a.out.length ≤ (repA lo hi k (layM k) a p).1.out.length := by
  rw [RE.cost] at h
  unfold repA
  dsimp only
  split
  · rename_i hc
    rw [if_pos hc] at h
    exact times_room hk _ a p n (h.less (by omega)) hp
  · rename_i hc
    rw [if_neg hc] at h
    split
    · rename_i hneg
      rw [if_pos hneg] at h
      have h1 := times_room hk (leastM lo k) a p (k.cost + 3 + n) (h.less (by omega)) hp
      generalize timesA (layM k) (leastM lo k) a p = x at h1
      have h2 := step_room (k := 0) (s := zeroS) (n := k.cost + (1 + n)) (h1.1.less (by omega)) h1.2.1
      have h3 := hk.room _ x.1.out.length (1 + n) h2 (by rw [step_len]; omega)
      rw [step_len] at h3
      refine ⟨link_room (h3.1.less (by omega)) h3.2.1 (by omega), ?_, ?_⟩
      · rw [(link_len _ _ _ _ _).1]; omega
      · rw [(link_len _ _ _ _ _).1]; omega
    · rename_i hneg
      rw [if_neg hneg] at h
      have h1 := times_room hk (leastM lo k) a p ((hi.toNat - lo) * (k.cost + 1) + 2 + n) (h.less (by omega)) hp
      generalize timesA (layM k) (leastM lo k) a p = x at h1
      have h2 := step_room (k := 0) (s := zeroS) (n := (hi.toNat - lo) * (k.cost + 1) + n) (h1.1.less (by omega)) h1.2.1
      have h3 := opt_room hk (o := x.1.out.length) (hi.toNat - lo) (x.1.step x.2 0 zeroS) x.2 n h2 (by rw [step_len]; omega) (by rw [step_len]; omega)
      rw [step_len] at h3
      exact ⟨h3.1, by dsimp only; omega, by dsimp only; omega⟩
mutual
theorem lay_room : ∀ r : RE, Lays r.cost (layM r)
  | .byte s => ⟨fun a p n h hp => by rw [RE.cost] at h; exact ⟨step_room (h.less (by omega)) hp, by rw [layM, step_len]; dsimp only; omega, by rw [layM, step_len]; omega⟩⟩
  | .bol => ⟨fun a p n h hp => by rw [RE.cost] at h; exact ⟨step_room (h.less (by omega)) hp, by rw [layM, step_len]; dsimp only; omega, by rw [layM, step_len]; omega⟩⟩
  | .eol => ⟨fun a p n h hp => by rw [RE.cost] at h; exact ⟨step_room (h.less (by omega)) hp, by rw [layM, step_len]; dsimp only; omega, by rw [layM, step_len]; omega⟩⟩
  | .back _ => ⟨fun a p n h hp => by
      rw [RE.cost] at h
      rw [layM]
      dsimp only
      have h1 := step_room (k := 0) (s := zeroS) (n := n + 1) (h.less (by omega)) hp
      exact ⟨link_room h1 (by rw [step_len]; omega) (by rw [step_len]; omega), by rw [(link_len _ _ _ _ _).1, step_len]; omega, by rw [(link_len _ _ _ _ _).1, step_len]; omega⟩⟩
  | .rep lo hi k => ⟨fun a p n h hp => by rw [layM]; exact rep_room (lay_room k) a p n h hp⟩
  | .cat ks => ⟨fun a p n h hp => by rw [RE.cost] at h; rw [layM]; exact layL_room ks a p n h hp⟩
  | .group _ k => ⟨fun a p n h hp => by rw [RE.cost] at h; rw [layM]; exact (lay_room k).room a p n h hp⟩
theorem layL_room : ∀ (ks : List RE) (a : AM) (p n : Nat), a.Room (costL ks + n) → p < a.out.length → (layL ks a p).1.Room n ∧ (layL ks a p).2 < (layL ks a p).1.out.length ∧ a.out.length ≤ (layL ks a p).1.out.length
  | [], a, p, n, h, hp => by rw [layL]; rw [costL] at h; exact ⟨h.less (by omega), hp, Nat.le_refl _⟩
  | k :: ks, a, p, n, h, hp => by
    rw [costL] at h
    have h1 := (lay_room k).room a p (costL ks + n) (h.less (by omega)) hp
    have h2 := layL_room ks _ _ n h1.1 h1.2.1
    rw [layL]
    exact ⟨h2.1, h2.2.1, by omega⟩
end
end Go.Proofs.YthcbjbkheodejaaGreat
namespace Go.Proofs.YthcbjbkheodejaaGreat
open Go Go.RowKit Sl
set_option maxRecDepth 100000
set_option maxHeartbeats 8000000
attribute [local irreducible] ES EL PX wps
structure FS where
  marks : List Bool
  seen : List Bool
  todo : List (Nat × Nat)
  steps : Nat
def inB (n : Nat) (fwd : Bool) (a : Nat) : Bool := if fwd = true then decide (a < n) else decide (0 < a ∧ a - 1 < n)
def bAt (fwd : Bool) (a : Nat) : Nat := if fwd = true then a else a - 1
def cntM (n : Nat) (fwd : Bool) (e : Ed) (a : Nat) : Nat := if e.kind = 1 ∧ inB n fwd a = true then 1 else 0
def placeM (s : List UInt8) (fwd : Bool) (e : Ed) (a : Nat) : Option Nat :=
  if e.kind = 1 then (if inB s.length fwd a = true ∧ hasS e.set (s.getD (bAt fwd a) 0).toNat = true then some (if fwd = true then a + 1 else a - 1) else none)
  else if e.kind = 2 then (if a = 0 then some a else none)
  else if e.kind = 3 then (if a = s.length then some a else none)
  else some a
def pushM (n : Nat) (st : FS) (q a : Nat) : FS := if st.seen.getD (q * (n + 1) + a) false = true then st else { st with seen := st.seen.set (q * (n + 1) + a) true, todo := st.todo ++ [(q, a)] }
def edgeM (s : List UInt8) (fwd : Bool) (a : Nat) (st : FS) (e : Ed) : FS :=
  match placeM s fwd e a with
  | none => { st with steps := st.steps + cntM s.length fwd e a }
  | some b => pushM s.length { st with steps := st.steps + cntM s.length fwd e a } e.to b
def popM (goal : Nat) (st : FS) (p : Nat × Nat) : FS := { st with todo := st.todo.dropLast, marks := if p.1 = goal then st.marks.set p.2 true else st.marks }
def floodGo (es : List (List Ed)) (s : List UInt8) (goal : Nat) (fwd : Bool) : Nat → FS → FS
  | 0, st => st
  | f + 1, st =>
    match st.todo.getLast? with
    | none => st
    | some p => floodGo es s goal fwd f ((es.getD p.1 []).foldl (edgeM s fwd p.2) (popM goal st p))
def fs0 (N n : Nat) (p : Nat × Nat) (steps : Nat) : FS := ⟨List.replicate (n + 1) false, (List.replicate (N * (n + 1)) false).set (p.1 * (n + 1) + p.2) true, [p], steps⟩
def floodM (es : List (List Ed)) (s : List UInt8) (p : Nat × Nat) (goal : Nat) (fwd : Bool) (steps : Nat) : FS := floodGo es s goal fwd (es.length * (s.length + 1)) (fs0 es.length s.length p steps)
def FS.mu (st : FS) : Nat := st.seen.count false + st.todo.length
structure FS.Ok (N n : Nat) (st : FS) : Prop where
  marks : st.marks.length = n + 1
  seen : st.seen.length = N * (n + 1)
  todo : ∀ p ∈ st.todo, p.1 < N ∧ p.2 ≤ n
theorem idx_lt {N n q a : Nat} (hq : q < N) (ha : a ≤ n) : q * (n + 1) + a < N * (n + 1) := by
  have : (q + 1) * (n + 1) ≤ N * (n + 1) := Nat.mul_le_mul_right _ hq
  rw [Nat.succ_mul] at this
  omega
theorem idx_inj {n q a q' a' : Nat} (ha : a ≤ n) (ha' : a' ≤ n) (h : q * (n + 1) + a = q' * (n + 1) + a') : q = q' ∧ a = a' := by
  have h1 : (q * (n + 1) + a) / (n + 1) = q := by rw [Nat.mul_comm, Nat.mul_add_div (by omega), Nat.div_eq_of_lt (by omega)]; rfl
  have h2 : (q' * (n + 1) + a') / (n + 1) = q' := by rw [Nat.mul_comm, Nat.mul_add_div (by omega), Nat.div_eq_of_lt (by omega)]; rfl
  have : q = q' := by rw [← h1, h, h2]
  subst this
  exact ⟨rfl, by omega⟩
theorem place_le {s : List UInt8} {fwd : Bool} {e : Ed} {a b : Nat} (ha : a ≤ s.length) (h : placeM s fwd e a = some b) : b ≤ s.length := by
  unfold placeM at h
  split at h
  · split at h
    · rename_i h2
      have h3 := h2.1
      unfold inB at h3
      cases fwd <;> simp at h h3 <;> omega
    · cases h
  · split at h
    · split at h
      · cases h; exact ha
      · cases h
    · split at h
      · split at h
        · cases h; exact ha
        · cases h
      · cases h; exact ha
theorem count_set_false : ∀ (l : List Bool) (i : Nat), l[i]? = some false → (l.set i true).count false + 1 = l.count false
  | [], i, h => by simp at h
  | b :: l, 0, h => by
    simp only [List.getElem?_cons_zero, Option.some.injEq] at h
    subst h
    simp
  | b :: l, i + 1, h => by
    simp only [List.getElem?_cons_succ] at h
    have := count_set_false l i h
    simp only [List.set_cons_succ, List.count_cons]
    omega
theorem push_ok {N n : Nat} {st : FS} (h : st.Ok N n) {q a : Nat} (hq : q < N) (ha : a ≤ n) : (pushM n st q a).Ok N n ∧ (pushM n st q a).mu = st.mu ∧ (pushM n st q a).steps = st.steps := by
  unfold pushM
  split
  · exact ⟨h, rfl, rfl⟩
  · rename_i hf
    have hlt : q * (n + 1) + a < st.seen.length := by rw [h.seen]; exact idx_lt hq ha
    refine ⟨⟨h.marks, by simp [h.seen], fun p hp => ?_⟩, ?_, rfl⟩
    · rcases List.mem_append.1 hp with hp | hp
      · exact h.todo p hp
      · rw [List.mem_singleton] at hp; subst hp; exact ⟨hq, ha⟩
    · have hg : st.seen[q * (n + 1) + a]? = some false := by
        simp only [List.getD_eq_getElem?_getD, List.getElem?_eq_getElem hlt, Option.getD_some] at hf ⊢
        simpa using hf
      have := count_set_false _ _ hg
      simp only [FS.mu, List.length_append, List.length_singleton]
      omega
theorem cnt_le (n : Nat) (fwd : Bool) (e : Ed) (a : Nat) : cntM n fwd e a ≤ 1 := by unfold cntM; split <;> omega
theorem edge_ok {N : Nat} {s : List UInt8} {fwd : Bool} {st : FS} (h : st.Ok N s.length) {a : Nat} (ha : a ≤ s.length) {e : Ed} (he : e.to < N) :
    (edgeM s fwd a st e).Ok N s.length ∧ (edgeM s fwd a st e).mu = st.mu ∧ (edgeM s fwd a st e).steps = st.steps + cntM s.length fwd e a := by
  unfold edgeM
  split
  · exact ⟨⟨h.marks, h.seen, h.todo⟩, rfl, rfl⟩
  · rename_i b hb
    have := push_ok (st := { st with steps := st.steps + cntM s.length fwd e a }) ⟨h.marks, h.seen, h.todo⟩ he (place_le ha hb)
    exact ⟨this.1, this.2.1, this.2.2⟩
theorem edges_ok {N : Nat} {s : List UInt8} {fwd : Bool} {a : Nat} (ha : a ≤ s.length) : ∀ (es : List Ed) {st : FS}, st.Ok N s.length → (∀ e ∈ es, e.to < N) →
    (es.foldl (edgeM s fwd a) st).Ok N s.length ∧ (es.foldl (edgeM s fwd a) st).mu = st.mu ∧ (es.foldl (edgeM s fwd a) st).steps = st.steps + (es.map (cntM s.length fwd · a)).sum
  | [], st, h, _ => ⟨h, rfl, rfl⟩
  | e :: es, st, h, he => by
    have h1 := edge_ok (fwd := fwd) h ha (he e (by simp))
    have h2 := edges_ok (fwd := fwd) ha es h1.1 (fun e he' => he e (by simp [he']))
    exact ⟨h2.1, h2.2.1.trans h1.2.1, by rw [List.foldl_cons, h2.2.2, h1.2.2, List.map_cons, List.sum_cons]; omega⟩
theorem sum_le_len : ∀ (l : List Nat), (∀ x ∈ l, x ≤ 1) → l.sum ≤ l.length
  | [], _ => Nat.le_refl _
  | x :: l, h => by
    have h1 := h x (by simp)
    have h2 := sum_le_len l (fun y hy => h y (by simp [hy]))
    simp only [List.sum_cons, List.length_cons]; omega
theorem cnts_le (n : Nat) (fwd : Bool) (a : Nat) (es : List Ed) : (es.map (cntM n fwd · a)).sum ≤ es.length := by
  have := sum_le_len (es.map (cntM n fwd · a)) (fun x hx => by
    obtain ⟨e, _, rfl⟩ := List.mem_map.1 hx
    exact cnt_le n fwd e a)
  simpa using this
theorem last_split {α : Type _} {l : List α} {p : α} (h : l.getLast? = some p) : l = l.dropLast ++ [p] := by
  have hne : l ≠ [] := fun e => by subst e; simp at h
  rw [List.getLast?_eq_some_getLast hne] at h
  rw [← Option.some.inj h]
  exact (List.dropLast_concat_getLast hne).symm
theorem pop_ok {N n goal : Nat} {st : FS} (h : st.Ok N n) {p : Nat × Nat} (hp : st.todo.getLast? = some p) : (popM goal st p).Ok N n ∧ (popM goal st p).mu + 1 = st.mu ∧ p.1 < N ∧ p.2 ≤ n := by
  have hs := last_split hp
  have hm : p ∈ st.todo := by rw [hs]; simp
  refine ⟨⟨?_, h.seen, fun q hq => h.todo q (List.dropLast_subset _ hq)⟩, ?_, h.todo p hm⟩
  · unfold popM; dsimp only; split <;> simp [h.marks]
  · have : st.todo.length = st.todo.dropLast.length + 1 := by
      have h2 := congrArg List.length hs
      rw [List.length_append, List.length_singleton] at h2
      exact h2
    simp only [FS.mu, popM]; omega
theorem fs0_ok {N n : Nat} {p : Nat × Nat} (h1 : p.1 < N) (h2 : p.2 ≤ n) (steps : Nat) : (fs0 N n p steps).Ok N n ∧ (fs0 N n p steps).mu = N * (n + 1) := by
  refine ⟨⟨by simp [fs0], by simp [fs0], fun q hq => ?_⟩, ?_⟩
  · simp only [fs0, List.mem_singleton] at hq
    subst hq; exact ⟨h1, h2⟩
  · have hlt := idx_lt h1 h2
    have := count_set_false (List.replicate (N * (n + 1)) false) (p.1 * (n + 1) + p.2) (by simp [hlt])
    simp only [List.count_replicate_self] at this
    simp only [FS.mu, fs0, List.length_singleton]
    omega
inductive Rch (es : List (List Ed)) (s : List UInt8) (fwd : Bool) (x : Nat × Nat) : Nat × Nat → Prop
  | here : Rch es s fwd x x
  | step {q a b : Nat} {e : Ed} (h : Rch es s fwd x (q, a)) (he : e ∈ es.getD q []) (hp : placeM s fwd e a = some b) : Rch es s fwd x (e.to, b)
def cntAt (es : List (List Ed)) (n : Nat) (fwd : Bool) (x : Nat × Nat) : Nat := ((es.getD x.1 []).map (cntM n fwd · x.2)).sum
abbrev FS.has (n : Nat) (st : FS) (x : Nat × Nat) : Prop := st.seen.getD (x.1 * (n + 1) + x.2) false = true
def nowC (n : Nat) (fwd : Bool) (done : List (Nat × Nat)) (now : List Ed) : Nat := match done with
  | [] => 0
  | x :: _ => (now.map (cntM n fwd · x.2)).sum
theorem nowC_nil (n : Nat) (fwd : Bool) (done : List (Nat × Nat)) : nowC n fwd done [] = 0 := by cases done <;> rfl
structure FInv (es : List (List Ed)) (s : List UInt8) (fwd : Bool) (goal st0 : Nat) (x0 : Nat × Nat) (st : FS) (done : List (Nat × Nat)) (now : List Ed) : Prop where
  ok : st.Ok es.length s.length
  dok : ∀ x ∈ done, x.1 < es.length ∧ x.2 ≤ s.length
  seen : ∀ x : Nat × Nat, x.1 < es.length → x.2 ≤ s.length → (st.has s.length x ↔ x ∈ st.todo ∨ x ∈ done)
  nodup : (st.todo ++ done).Nodup
  rch : ∀ x, x ∈ st.todo ∨ x ∈ done → Rch es s fwd x0 x
  x0 : x0 ∈ st.todo ∨ x0 ∈ done
  closed : ∀ (i : Nat) (x : Nat × Nat), done[i]? = some x → ∀ e ∈ es.getD x.1 [], (i = 0 ∧ e ∈ now) ∨ ∀ b, placeM s fwd e x.2 = some b → (e.to, b) ∈ st.todo ∨ (e.to, b) ∈ done
  marks : ∀ a, a ≤ s.length → (st.marks.getD a false = true ↔ (goal, a) ∈ done)
  steps : st.steps + nowC s.length fwd done now = st0 + (done.map (cntAt es s.length fwd)).sum
theorem getD_set_bool (l : List Bool) (i j : Nat) (hi : i < l.length) : (l.set i true).getD j false = true ↔ l.getD j false = true ∨ i = j := by
  simp only [List.getD_eq_getElem?_getD, List.getElem?_set]
  by_cases h : i = j
  · subst h; simp [hi]
  · simp [h]
theorem FInv.edge {es : List (List Ed)} {s : List UInt8} {fwd : Bool} {goal st0 : Nat} {x0 x : Nat × Nat} {st : FS} {done : List (Nat × Nat)} {e : Ed} {now : List Ed} (h : FInv es s fwd goal st0 x0 st (x :: done) (e :: now)) (he : e ∈ es.getD x.1 []) (hto : e.to < es.length) (hle : ∀ e' ∈ now, e' ∈ es.getD x.1 []) :
    FInv es s fwd goal st0 x0 (edgeM s fwd x.2 st e) (x :: done) now := by
  have hx := h.dok x (by simp)
  have ho := edge_ok (fwd := fwd) h.ok hx.2 hto
  have hsteps : (edgeM s fwd x.2 st e).steps + nowC s.length fwd (x :: done) now = st0 + ((x :: done).map (cntAt es s.length fwd)).sum := by
    have := h.steps
    simp only [nowC, List.map_cons, List.sum_cons] at this ⊢
    rw [ho.2.2]; omega
  cases hp : placeM s fwd e x.2 with
  | none =>
    have he2 : edgeM s fwd x.2 st e = { st with steps := st.steps + cntM s.length fwd e x.2 } := by unfold edgeM; rw [hp]
    rw [he2] at ho hsteps ⊢
    refine ⟨ho.1, h.dok, h.seen, h.nodup, h.rch, h.x0, fun i y hy e' he' => ?_, h.marks, hsteps⟩
    rcases h.closed i y hy e' he' with ⟨rfl, hm⟩ | hm
    · rcases List.mem_cons.1 hm with rfl | hm
      · right
        simp only [List.getElem?_cons_zero, Option.some.injEq] at hy
        subst hy
        intro b hb
        rw [hp] at hb; cases hb
      · exact .inl ⟨rfl, hm⟩
    · exact .inr hm
  | some b =>
    have hb := place_le hx.2 hp
    have hrx : Rch es s fwd x0 (e.to, b) := Rch.step (q := x.1) (a := x.2) (h.rch x (.inr (by simp))) he hp
    have he2 : edgeM s fwd x.2 st e = pushM s.length { st with steps := st.steps + cntM s.length fwd e x.2 } e.to b := by unfold edgeM; rw [hp]
    rw [he2] at ho hsteps ⊢
    unfold pushM at ho hsteps ⊢
    have hhas := h.seen (e.to, b) hto hb
    split
    · rename_i hs
      rw [if_pos hs] at ho hsteps
      have hin : (e.to, b) ∈ st.todo ∨ (e.to, b) ∈ x :: done := hhas.1 hs
      refine ⟨ho.1, h.dok, h.seen, h.nodup, h.rch, h.x0, fun i y hy e' he' => ?_, h.marks, hsteps⟩
      rcases h.closed i y hy e' he' with ⟨rfl, hm⟩ | hm
      · rcases List.mem_cons.1 hm with rfl | hm
        · right
          simp only [List.getElem?_cons_zero, Option.some.injEq] at hy
          subst hy
          intro b' hb'
          rw [hp] at hb'
          rw [← Option.some.inj hb']; exact hin
        · exact .inl ⟨rfl, hm⟩
      · exact .inr hm
    · rename_i hs
      rw [if_neg hs] at ho hsteps
      have hnin : ¬ ((e.to, b) ∈ st.todo ∨ (e.to, b) ∈ x :: done) := fun hh => hs (hhas.2 hh)
      have hlt : e.to * (s.length + 1) + b < st.seen.length := by rw [h.ok.seen]; exact idx_lt hto hb
      refine ⟨ho.1, h.dok, fun y hy1 hy2 => ?_, ?_, fun y hy => ?_, ?_, fun i y hy e' he' => ?_, h.marks, hsteps⟩
      · show (st.seen.set (e.to * (s.length + 1) + b) true).getD (y.1 * (s.length + 1) + y.2) false = true ↔ _
        rw [getD_set_bool _ _ _ hlt]
        have hold := h.seen y hy1 hy2
        constructor
        · rintro (h1 | h1)
          · rcases hold.1 h1 with h2 | h2
            · exact .inl (by simp [h2])
            · exact .inr h2
          · obtain ⟨e1, e2⟩ := idx_inj hb hy2 h1
            left
            simp only [List.mem_append, List.mem_singleton]
            exact .inr (Prod.ext e1.symm e2.symm)
        · rintro (h1 | h1)
          · rcases List.mem_append.1 h1 with h1 | h1
            · exact .inl (hold.2 (.inl h1))
            · rw [List.mem_singleton] at h1
              subst h1; exact .inr rfl
          · exact .inl (hold.2 (.inr h1))
      · show ((st.todo ++ [(e.to, b)]) ++ x :: done).Nodup
        have hn := h.nodup
        rw [List.append_assoc]
        rw [List.nodup_append] at hn ⊢
        refine ⟨hn.1, ?_, ?_⟩
        · rw [List.singleton_append, List.nodup_cons]
          exact ⟨fun hm => hnin (.inr hm), hn.2.1⟩
        · intro u hu v hv
          rcases List.mem_append.1 hv with hv | hv
          · rw [List.mem_singleton] at hv
            subst hv
            intro hne
            exact hnin (.inl (hne ▸ hu))
          · exact hn.2.2 u hu v hv
      · rcases hy with hy | hy
        · rcases List.mem_append.1 hy with hy | hy
          · exact h.rch y (.inl hy)
          · rw [List.mem_singleton] at hy; subst hy; exact hrx
        · exact h.rch y (.inr hy)
      · rcases h.x0 with h0 | h0
        · exact .inl (by simp [h0])
        · exact .inr h0
      · have up : ∀ z, (z ∈ st.todo ∨ z ∈ x :: done) → (z ∈ st.todo ++ [(e.to, b)] ∨ z ∈ x :: done) := fun z hz => hz.imp (fun h => by simp [h]) id
        rcases h.closed i y hy e' he' with ⟨rfl, hm⟩ | hm
        · rcases List.mem_cons.1 hm with rfl | hm
          · right
            simp only [List.getElem?_cons_zero, Option.some.injEq] at hy
            subst hy
            intro b' hb'
            rw [hp] at hb'
            rw [← Option.some.inj hb']
            exact .inl (by simp)
          · exact .inl ⟨rfl, hm⟩
        · exact .inr (fun b' hb' => up _ (hm b' hb'))
theorem FInv.edges {es : List (List Ed)} {s : List UInt8} {fwd : Bool} {goal st0 : Nat} {x0 x : Nat × Nat} {done : List (Nat × Nat)} : ∀ (now : List Ed) {st : FS}, FInv es s fwd goal st0 x0 st (x :: done) now → (∀ e ∈ now, e ∈ es.getD x.1 [] ∧ e.to < es.length) → FInv es s fwd goal st0 x0 (now.foldl (edgeM s fwd x.2) st) (x :: done) []
  | [], st, h, _ => h
  | e :: now, st, h, hm => FInv.edges now (h.edge (hm e (by simp)).1 (hm e (by simp)).2 (fun e' he' => (hm e' (by simp [he'])).1)) (fun e' he' => hm e' (by simp [he']))
theorem FInv.pop {es : List (List Ed)} {s : List UInt8} {fwd : Bool} {goal st0 : Nat} {x0 p : Nat × Nat} {done : List (Nat × Nat)} {st : FS} (h : FInv es s fwd goal st0 x0 st done []) (hp : st.todo.getLast? = some p) : FInv es s fwd goal st0 x0 (popM goal st p) (p :: done) (es.getD p.1 []) := by
  have hs := last_split hp
  obtain ⟨k1, _, k3⟩ := pop_ok (goal := goal) h.ok hp
  have hmem : ∀ x, (x ∈ st.todo.dropLast ∨ x ∈ p :: done) ↔ (x ∈ st.todo ∨ x ∈ done) := fun x => by
    conv => rhs; rw [hs]
    simp only [List.mem_append, List.mem_cons, List.not_mem_nil, or_false]
    constructor
    · rintro (h | h | h)
      · exact .inl (.inl h)
      · exact .inl (.inr h)
      · exact .inr h
    · rintro ((h | h) | h)
      · exact .inl h
      · exact .inr (.inl h)
      · exact .inr (.inr h)
  refine ⟨k1, fun x hx => ?_, fun x h1 h2 => (h.seen x h1 h2).trans (hmem x).symm, ?_, fun x hx => h.rch x ((hmem x).1 hx), (hmem x0).2 h.x0, fun i x hx e he => ?_, fun a ha => ?_, ?_⟩
  · rcases List.mem_cons.1 hx with rfl | hx
    · exact k3
    · exact h.dok x hx
  · have hn := h.nodup
    rw [hs, List.append_assoc, List.singleton_append] at hn
    exact hn
  · cases i with
    | zero =>
      simp only [List.getElem?_cons_zero, Option.some.injEq] at hx
      subst hx
      exact .inl ⟨rfl, he⟩
    | succ i =>
      simp only [List.getElem?_cons_succ] at hx
      rcases h.closed i x hx e he with ⟨_, hm⟩ | hm
      · cases hm
      · exact .inr (fun b hb => (hmem _).2 (hm b hb))
  · show (if p.1 = goal then st.marks.set p.2 true else st.marks).getD a false = true ↔ _
    have hold := h.marks a ha
    split
    · rename_i hg
      rw [getD_set_bool _ _ _ (by rw [h.ok.marks]; omega), hold, List.mem_cons]
      constructor
      · rintro (h1 | h1)
        · exact .inr h1
        · exact .inl (Prod.ext hg.symm h1.symm)
      · rintro (h1 | h1)
        · right; rw [← h1]
        · exact .inl h1
    · rename_i hg
      rw [hold, List.mem_cons]
      exact ⟨.inr, fun h1 => h1.resolve_left (fun e => hg (by rw [← e]))⟩
  · have := h.steps
    show st.steps + _ = _
    simp only [List.map_cons, List.sum_cons, cntAt]
    rw [nowC_nil] at this
    simp only [cntAt, nowC] at this ⊢
    omega
theorem FInv.flood {es : List (List Ed)} {s : List UInt8} {fwd : Bool} {goal st0 : Nat} {x0 : Nat × Nat} (hes : EdsOk es) : ∀ (f : Nat) (done : List (Nat × Nat)) (st : FS), FInv es s fwd goal st0 x0 st done [] → st.mu ≤ f → ∃ done', FInv es s fwd goal st0 x0 (floodGo es s goal fwd f st) done' [] ∧ (floodGo es s goal fwd f st).todo = []
  | 0, done, st, h, hm => ⟨done, h, by
    unfold FS.mu at hm
    exact List.eq_nil_of_length_eq_zero (by show st.todo.length = 0; omega)⟩
  | f + 1, done, st, h, hm => by
    rw [floodGo]
    split
    · rename_i hp
      exact ⟨done, h, List.getLast?_eq_none_iff.1 hp⟩
    · rename_i p hp
      have hpop := h.pop hp
      obtain ⟨k1, k2, k3⟩ := pop_ok (goal := goal) h.ok hp
      have hrow : ∀ e ∈ es.getD p.1 [], e ∈ es.getD p.1 [] ∧ e.to < es.length := fun e he => ⟨he, by
        rw [List.getD_eq_getElem?_getD, List.getElem?_eq_getElem k3.1, Option.getD_some] at he
        exact (hes _ (List.getElem_mem k3.1) e he).1⟩
      have h2 := hpop.edges (es.getD p.1 []) hrow
      have h3 := edges_ok (fwd := fwd) k3.2 (es.getD p.1 []) k1 (fun e he => (hrow e he).2)
      exact FInv.flood hes f _ _ h2 (by rw [h3.2.1]; omega)
theorem FInv.start {es : List (List Ed)} {s : List UInt8} {fwd : Bool} {goal st0 : Nat} {x0 : Nat × Nat} (h1 : x0.1 < es.length) (h2 : x0.2 ≤ s.length) : FInv es s fwd goal st0 x0 (fs0 es.length s.length x0 st0) [] [] := by
  have hlt := idx_lt h1 h2
  refine ⟨(fs0_ok h1 h2 st0).1, by simp, fun x hx1 hx2 => ?_, by simp [fs0], fun x hx => ?_, .inl (by simp [fs0]), by simp, fun a ha => by
    have : (fs0 es.length s.length x0 st0).marks.getD a false = false := by
      simp only [fs0, List.getD_eq_getElem?_getD, List.getElem?_replicate]
      split <;> rfl
    rw [this]; simp, rfl⟩
  · show ((List.replicate (es.length * (s.length + 1)) false).set (x0.1 * (s.length + 1) + x0.2) true).getD _ false = true ↔ _
    rw [getD_set_bool _ _ _ (by simpa using hlt)]
    simp only [fs0, List.mem_singleton, List.not_mem_nil, or_false]
    constructor
    · rintro (h | h)
      · simp [List.getD_eq_getElem?_getD] at h
        rw [List.getElem?_replicate] at h
        split at h <;> simp at h
      · obtain ⟨e1, e2⟩ := idx_inj h2 hx2 h
        exact Prod.ext e1.symm e2.symm
    · intro h; subst h; exact .inr rfl
  · simp only [fs0, List.mem_singleton, List.not_mem_nil, or_false] at hx
    subst hx; exact .here
structure Flood (es : List (List Ed)) (s : List UInt8) (x0 : Nat × Nat) (goal : Nat) (fwd : Bool) (st0 : Nat) (r : FS) (done : List (Nat × Nat)) : Prop where
  len : r.marks.length = s.length + 1
  nodup : done.Nodup
  all : ∀ x, x ∈ done ↔ Rch es s fwd x0 x
  marks : ∀ a, a ≤ s.length → (r.marks.getD a false = true ↔ Rch es s fwd x0 (goal, a))
  dok : ∀ x ∈ done, x.1 < es.length ∧ x.2 ≤ s.length
  steps : r.steps = st0 + (done.map (cntAt es s.length fwd)).sum
theorem flood_spec {es : List (List Ed)} (hes : EdsOk es) (s : List UInt8) {x0 : Nat × Nat} (h1 : x0.1 < es.length) (h2 : x0.2 ≤ s.length) (goal : Nat) (fwd : Bool) (st0 : Nat) : ∃ done, Flood es s x0 goal fwd st0 (floodM es s x0 goal fwd st0) done := by
  obtain ⟨done, h, hnil⟩ := FInv.flood (goal := goal) (fwd := fwd) (st0 := st0) hes (es.length * (s.length + 1)) [] _ (FInv.start h1 h2) (by rw [(fs0_ok h1 h2 st0).2]; exact Nat.le_refl _)
  have hall : ∀ x, x ∈ done ↔ Rch es s fwd x0 x := fun x => ⟨fun hx => h.rch x (.inr hx), fun hx => by
    induction hx with
    | here =>
      rcases h.x0 with h0 | h0
      · rw [hnil] at h0; cases h0
      · exact h0
    | @step q a b e hr he hp ih =>
      obtain ⟨i, hi⟩ := List.mem_iff_getElem?.1 ih
      rcases h.closed i (q, a) hi e he with ⟨_, hm⟩ | hm
      · cases hm
      · rcases hm b hp with h0 | h0
        · rw [hnil] at h0; cases h0
        · exact h0⟩
  refine ⟨done, h.ok.marks, ?_, hall, fun a ha => (h.marks a ha).trans (hall _), h.dok, ?_⟩
  · have := h.nodup
    rw [hnil] at this
    simpa using this
  · have := h.steps
    rw [nowC_nil] at this
    exact this
def edC (e : Ed) : List Value := [Iv (e.kind : Nat), Wv e.set.a, Wv e.set.b, Wv e.set.c, Wv e.set.d, Iv (e.to : Nat)]
def edsC (es : List Ed) : List Value := es.flatMap edC
abbrev EP := Value × List Ed
abbrev edRow (p : EP) : HA := HA.row p.1 180 6 p.2.length (edsC p.2)
def HA.edg (ps : List EP) : HA := ⟨ps.flatMap fun p => p.1.ownBlock.toList, fun w => ∀ p ∈ ps, w.ownsRow 0 180 6 p.1 p.2.length (edsC p.2), fun w w' h hw p hp => ownsRow_loc (fun g hg => h g (List.mem_flatMap.2 ⟨p, hp, hg⟩)) (hw p hp)⟩
theorem Sat.edgOut {w0 w : World} {B : Nat} {l m : List EP} {R : List HA} {p : EP} (h : Sat w0 B (HA.edg (l ++ p :: m) :: R) w) : Sat w0 B (edRow p :: HA.edg (l ++ m) :: R) w :=
  Sl.Sat.rules (Hs := [HA.edg (l ++ p :: m)]) (Hs' := [edRow p, HA.edg (l ++ m)]) h (by
    simp only [fps, List.flatMap_cons, List.flatMap_nil, HA.edg, HA.row, List.append_nil, List.flatMap_append]
    exact List.perm_append_comm_assoc _ _ _) (fun hh Y hY => by
    have h1 := hh (HA.edg (l ++ p :: m)) (by simp)
    simp only [List.mem_cons, List.not_mem_nil, or_false] at hY
    rcases hY with rfl | rfl
    · exact h1 p (by simp)
    · exact fun q hq => h1 q (by rcases List.mem_append.1 hq with hq | hq <;> simp [hq]))
theorem Sat.edgIn {w0 w : World} {B : Nat} {l m : List EP} {R : List HA} {p : EP} (h : Sat w0 B (edRow p :: HA.edg (l ++ m) :: R) w) : Sat w0 B (HA.edg (l ++ p :: m) :: R) w :=
  Sl.Sat.rules (Hs := [edRow p, HA.edg (l ++ m)]) (Hs' := [HA.edg (l ++ p :: m)]) h (by
    simp only [fps, List.flatMap_cons, List.flatMap_nil, HA.edg, HA.row, List.append_nil, List.flatMap_append]
    exact (List.perm_append_comm_assoc _ _ _).symm) (fun hh Y hY => by
    have h1 : (HA.edg (l ++ m)).holds w := hh (HA.edg (l ++ m)) (by simp)
    have h2 : (edRow p).holds w := hh (edRow p) (by simp)
    rw [List.mem_singleton] at hY
    subst hY
    intro q hq
    rcases List.mem_append.1 hq with hq | hq
    · exact h1 q (by simp [hq])
    · rcases List.mem_cons.1 hq with rfl | hq
      · exact h2
      · exact h1 q (by simp [hq]))
theorem Sat.edgNew {w0 w : World} {B : Nat} {l : List EP} {R : List HA} (h : Sat w0 B (HA.edg l :: R) w) : Sat w0 B (HA.edg (l ++ [((.slice none 0 0, []) : EP)]) :: R) w :=
  Sl.Sat.rules (Hs := [HA.edg l]) (Hs' := [HA.edg (l ++ [((.slice none 0 0, []) : EP)])]) h (by
    simp only [fps, List.flatMap_cons, List.flatMap_nil, HA.edg, List.append_nil, List.flatMap_append, Value.ownBlock, Option.toList]
    exact List.Perm.refl _) (fun hh Y hY => by
    have h1 : (HA.edg l).holds w := hh (HA.edg l) (by simp)
    rw [List.mem_singleton] at hY
    subst hY
    intro q hq
    rcases List.mem_append.1 hq with hq | hq
    · exact h1 q hq
    · rw [List.mem_singleton] at hq
      subst hq
      exact World.ownsRow_nil _ _ _ _)
abbrev OR (ad : Option Addr) (cap : Nat) (ps : List EP) : HA := HA.row (.slice ad ps.length cap) 178 1 ps.length (ps.map Prod.fst)
structure AV where
  oad : Option Addr
  ocap : Nat
  bad : Option Addr
  bcap : Nat
  ps : List EP
  qs : List EP
abbrev AVal (ga : Nat) (v : AV) (en : Nat) : HA := HA.blk ga (.cells #[.slice v.oad v.ps.length v.ocap, .slice v.bad v.qs.length v.bcap, Iv (en : Nat)] 121)
abbrev AH (ga : Nat) (v : AV) (en : Nat) : List HA := [AVal ga v en, OR v.oad v.ocap v.ps, HA.edg v.ps, OR v.bad v.bcap v.qs, HA.edg v.qs]
structure AV.Is (v : AV) (a : AM) : Prop where
  out : v.ps.map Prod.snd = a.out
  back : v.qs.map Prod.snd = a.back
abbrev AX (a : AM) : Type := { v : AV // v.Is a }
abbrev nilE : EP := (.slice none 0 0, [])
theorem OR_app {ad : Option Addr} {cap : Nat} {ps : List EP} : HA.row (.slice ad (ps.length + 1) cap) 178 1 (ps.length + 1) (ps.map Prod.fst ++ [.slice none 0 0]) = OR ad cap (ps ++ [nilE]) := by
  unfold OR
  rw [List.length_append, List.length_singleton, List.map_append]; rfl
theorem nfaAdd_c (ga : Nat) (v : AV) (en : Nat) (a : AM) (hv : v.Is a) (hn : v.ps.length ≤ 1073741824) (hm : v.qs.length ≤ 1073741824) :
    Mut Tryz.prog 41 #[Pv ga 0] (AH ga v en) (fun _ : AX a.add => Iv (a.out.length : Nat)) (fun x => AH ga x.1 en) := by
  intro w0 B R w h
  obtain ⟨oad, ocap, bad, bcap, ps, qs⟩ := v
  obtain ⟨ho, hb⟩ := hv
  dsimp only at ho hb hn hm
  have hlen : a.out.length = ps.length := by rw [← ho, List.length_map]
  replace h : Sat w0 B (HA.blk ga (.cells #[.slice oad ps.length ocap, .slice bad qs.length bcap, Iv (en : Nat)] 121) :: OR oad ocap ps :: HA.edg ps :: OR bad bcap qs :: HA.edg qs :: R) w := h
  refine calls_of_ES TB Tryz.func41 rfl _ Tryz.ntmps41 rfl h ?_; refine .go ?_; (repeat constructor); refine .as_ ?_; refine .go ?_; (repeat constructor); refine .mv ?_; refine .mv ?_; refine .nc ?_; refine .fa ?_; refine .lb ?_; (refine .b1 ?_; intro b8)
  (refine EL.append1 rfl rfl rfl rfl rfl rfl rfl rfl rfl (by repeat constructor) (by repeat constructor) (by first | (intro u hu; simp [Value.cells] at hu; subst hu; rfl) | exact all1 rfl) (by rfl) (by unfold maxLen; omega) (by first | omega | (show 1 * _ ≤ _; omega) | (show 8 * _ ≤ _; omega) | (show 16 * _ ≤ _; omega) | (show 24 * _ ≤ _; omega) | (show _ * 1 ≤ _; omega) | (show _ * 8 ≤ _; omega) | (show _ * 16 ≤ _; omega) | (show _ * 24 ≤ _; omega) | exact Nat.le_trans (Nat.mul_le_mul_right _ (show _ ≤ 1073741824 by omega)) (by decide)) ?_; intro a9 c9)
  refine .nc ?_; refine .fa ?_; refine .sb ?_; refine .go ?_; (repeat constructor); refine .mv ?_; refine .mv ?_; refine .nc ?_; refine .fa ?_; refine .lb ?_; (refine .b1 ?_; intro b17)
  (refine EL.append1 rfl rfl rfl rfl rfl rfl rfl rfl rfl (by repeat constructor) (by repeat constructor) (by first | (intro u hu; simp [Value.cells] at hu; subst hu; rfl) | exact all1 rfl) (by rfl) (by unfold maxLen; omega) (by first | omega | (show 1 * _ ≤ _; omega) | (show 8 * _ ≤ _; omega) | (show 16 * _ ≤ _; omega) | (show 24 * _ ≤ _; omega) | (show _ * 1 ≤ _; omega) | (show _ * 8 ≤ _; omega) | (show _ * 16 ≤ _; omega) | (show _ * 24 ≤ _; omega) | exact Nat.le_trans (Nat.mul_le_mul_right _ (show _ ≤ 1073741824 by omega)) (by decide)) ?_; intro a18 c18)
  refine .nc ?_; refine .fa ?_; refine .sb ?_; refine .go ?_; (repeat constructor); refine .mv ?_; refine .nc ?_; refine .fa ?_; refine .lb ?_; refine .lL ?_; refine EL.sub1 rfl rfl rfl rfl (by omega) (by omega) ?_; refine .as_ ?_; refine .go ?_; repeat constructor
  refine PX.ret rfl Tryz.results41 (.cons (.tmp rfl) .nil) (fun w hs => ⟨⟨⟨some ⟨a9, 0, none⟩, c9, some ⟨a18, 0, none⟩, c18, ps ++ [nilE], qs ++ [nilE]⟩, ⟨by simp [AM.add, ← ho], by simp [AM.add, ← hb]⟩⟩, by rw [hlen]; rfl, ?_⟩)
  have h1 := Sat.edgNew (hs.ent (H' := HA.edg ps :: HA.blk ga (.cells #[.slice (some ⟨a9, 0, none⟩) (ps.length + 1) c9, .slice (some ⟨a18, 0, none⟩) (qs.length + 1) c18, Iv (en : Nat)] 121) :: HA.row (.slice (some ⟨a9, 0, none⟩) (ps.length + 1) c9) 178 1 (ps.length + 1) (ps.map Prod.fst ++ [.slice none 0 0]) :: HA.row (.slice (some ⟨a18, 0, none⟩) (qs.length + 1) c18) 178 1 (qs.length + 1) (qs.map Prod.fst ++ [.slice none 0 0]) :: HA.edg qs :: R) (.i (by repeat constructor)))
  have h2 := Sat.edgNew (h1.ent (H' := HA.edg qs :: HA.edg (ps ++ [nilE]) :: HA.blk ga (.cells #[.slice (some ⟨a9, 0, none⟩) (ps.length + 1) c9, .slice (some ⟨a18, 0, none⟩) (qs.length + 1) c18, Iv (en : Nat)] 121) :: HA.row (.slice (some ⟨a9, 0, none⟩) (ps.length + 1) c9) 178 1 (ps.length + 1) (ps.map Prod.fst ++ [.slice none 0 0]) :: HA.row (.slice (some ⟨a18, 0, none⟩) (qs.length + 1) c18) 178 1 (qs.length + 1) (qs.map Prod.fst ++ [.slice none 0 0]) :: R) (.i (by repeat constructor)))
  rw [OR_app, OR_app] at h2
  have e1 : (ps ++ [nilE]).length = ps.length + 1 := by simp
  have e2 : (qs ++ [nilE]).length = qs.length + 1 := by simp
  show Sat w0 B (HA.blk ga (.cells #[.slice (some ⟨a9, 0, none⟩) (ps ++ [nilE]).length c9, .slice (some ⟨a18, 0, none⟩) (qs ++ [nilE]).length c18, Iv (en : Nat)] 121) :: OR (some ⟨a9, 0, none⟩) c9 (ps ++ [nilE]) :: HA.edg (ps ++ [nilE]) :: OR (some ⟨a18, 0, none⟩) c18 (qs ++ [nilE]) :: HA.edg (qs ++ [nilE]) :: R) w
  rw [e1, e2]
  exact h2.ent (.i (by repeat constructor))
theorem ep_split {ps : List EP} {i : Nat} (h : i < ps.length) : ∃ l p m, ps = l ++ p :: m ∧ l.length = i := ⟨ps.take i, ps[i], ps.drop (i + 1), by rw [List.getElem_cons_drop, List.take_append_drop], by rw [List.length_take]; omega⟩
theorem fst_at (l m : List EP) (p : EP) : ((l ++ p :: m).map Prod.fst)[l.length]? = some p.1 := by simp
theorem fst_set (l m : List EP) (p : EP) (u : Value) (es : List Ed) : ((l ++ p :: m).map Prod.fst).set l.length u = (l ++ (u, es) :: m).map Prod.fst := by simp
theorem addTo_split (l m : List EP) (p : EP) (e : Ed) (u : Value) : addTo ((l ++ p :: m).map Prod.snd) l.length e = (l ++ (u, p.2 ++ [e]) :: m).map Prod.snd := by
  unfold addTo
  simp [List.getD_eq_getElem?_getD]
theorem row_val {w : World} {e sz n : Nat} {v : Value} {cs : List Value} (h : w.ownsRow 0 e sz v n cs) : ∃ ad cap, v = .slice ad n cap := by
  obtain ⟨_, (⟨h1, h2⟩ | ⟨g, cap, cur, h1, _⟩)⟩ := h
  · exact ⟨none, 0, by rw [h1, h2]⟩
  · exact ⟨_, _, h1⟩
theorem edsC_app (es : List Ed) (e : Ed) : edsC (es ++ [e]) = edsC es ++ edC e := by simp [edsC]
theorem nfaLink_c (ga : Nat) (v : AV) (en : Nat) (a : AM) (hv : v.Is a) (f t k : Nat) (s : BS) (hf : f < v.ps.length) (ht : t < v.qs.length) (hn : v.ps.length ≤ 1073741824) (hm : v.qs.length ≤ 1073741824) (he : ∀ p ∈ v.ps, p.2.length ≤ 16777216) (he2 : ∀ p ∈ v.qs, p.2.length ≤ 16777216) :
    Mut Tryz.prog 64 #[Pv ga 0, Iv (f : Nat), Iv (t : Nat), Iv (k : Nat), Bs s] (AH ga v en) (fun _ : AX (a.link f t k s) => .tuple #[]) (fun x => AH ga x.1 en) := by
  intro w0 B R w h
  obtain ⟨oad, ocap, bad, bcap, ps, qs⟩ := v
  obtain ⟨ho, hb⟩ := hv
  dsimp only at ho hb hn hm hf ht he he2
  obtain ⟨l, p, m, rfl, rfl⟩ := ep_split hf
  obtain ⟨l2, p2, m2, rfl, rfl⟩ := ep_split ht
  have h1 := Sat.edgOut (h.ent (H' := HA.edg (l ++ p :: m) :: HA.blk ga (.cells #[.slice oad (l ++ p :: m).length ocap, .slice bad (l2 ++ p2 :: m2).length bcap, Iv (en : Nat)] 121) :: OR oad ocap (l ++ p :: m) :: OR bad bcap (l2 ++ p2 :: m2) :: HA.edg (l2 ++ p2 :: m2) :: R) (.i (by repeat constructor)))
  have h2 := Sat.edgOut (h1.ent (H' := HA.edg (l2 ++ p2 :: m2) :: HA.blk ga (.cells #[.slice oad (l ++ p :: m).length ocap, .slice bad (l2 ++ p2 :: m2).length bcap, Iv (en : Nat)] 121) :: OR oad ocap (l ++ p :: m) :: edRow p :: HA.edg (l ++ m) :: OR bad bcap (l2 ++ p2 :: m2) :: R) (.i (by repeat constructor)))
  have hpe := he p (by simp)
  have hpe2 := he2 p2 (by simp)
  obtain ⟨pv, pe⟩ := p
  obtain ⟨pv2, pe2⟩ := p2
  dsimp only at hpe hpe2
  have hr1 : w.ownsRow 0 180 6 pv pe.length (edsC pe) := h2.all (edRow (pv, pe)) (by simp)
  have hr2 : w.ownsRow 0 180 6 pv2 pe2.length (edsC pe2) := h2.all (edRow (pv2, pe2)) (by simp)
  obtain ⟨iad, icap, rfl⟩ := row_val hr1
  obtain ⟨iad2, icap2, rfl⟩ := row_val hr2
  have hpl : l.length < (l ++ (Value.slice iad pe.length icap, pe) :: m).length := by simp
  have hpl2 : l2.length < (l2 ++ (Value.slice iad2 pe2.length icap2, pe2) :: m2).length := by simp
  have hset := fun u => fst_set l m (Value.slice iad pe.length icap, pe) u (pe ++ [⟨k, s, l2.length⟩])
  have hset2 := fun u => fst_set l2 m2 (Value.slice iad2 pe2.length icap2, pe2) u (pe2 ++ [⟨k, s, l.length⟩])
  have hat := fst_at l m (Value.slice iad pe.length icap, pe)
  have hat2 := fst_at l2 m2 (Value.slice iad2 pe2.length icap2, pe2)
  have hs1 := fun u => addTo_split l m (Value.slice iad pe.length icap, pe) ⟨k, s, l2.length⟩ u
  have hs2 := fun u => addTo_split l2 m2 (Value.slice iad2 pe2.length icap2, pe2) ⟨k, s, l.length⟩ u
  have hln : ∀ u es, (l ++ ((u, es) : EP) :: m).length = (l ++ (Value.slice iad pe.length icap, pe) :: m).length := fun u es => by simp
  have hln2 : ∀ u es, (l2 ++ ((u, es) : EP) :: m2).length = (l2 ++ (Value.slice iad2 pe2.length icap2, pe2) :: m2).length := fun u es => by simp
  rw [ho] at hs1
  rw [hb] at hs2
  obtain ⟨og, rfl⟩ := (row_form (h.all (OR oad ocap (l ++ (Value.slice iad pe.length icap, pe) :: m)) (by simp))).2.2.2.2 (by omega)
  obtain ⟨bg, rfl⟩ := (row_form (h.all (OR bad bcap (l2 ++ (Value.slice iad2 pe2.length icap2, pe2) :: m2)) (by simp))).2.2.2.2 (by omega)
  replace h : Sat w0 B (HA.blk ga (.cells #[.slice (some ⟨og, 0, none⟩) (l ++ (Value.slice iad pe.length icap, pe) :: m).length ocap, .slice (some ⟨bg, 0, none⟩) (l2 ++ (Value.slice iad2 pe2.length icap2, pe2) :: m2).length bcap, Iv (en : Nat)] 121) :: OR (some ⟨og, 0, none⟩) ocap (l ++ (Value.slice iad pe.length icap, pe) :: m) :: HA.row (.slice iad pe.length icap) 180 6 pe.length (edsC pe) :: HA.edg (l ++ m) :: OR (some ⟨bg, 0, none⟩) bcap (l2 ++ (Value.slice iad2 pe2.length icap2, pe2) :: m2) :: HA.row (.slice iad2 pe2.length icap2) 180 6 pe2.length (edsC pe2) :: HA.edg (l2 ++ m2) :: R) w := h2.ent (.i (by repeat constructor))
  unfold OR at h
  generalize (l ++ (Value.slice iad pe.length icap, pe) :: m).length = N at *
  generalize (l2 ++ (Value.slice iad2 pe2.length icap2, pe2) :: m2).length = M at *
  generalize hF : (l ++ (Value.slice iad pe.length icap, pe) :: m).map Prod.fst = F at *
  generalize hF2 : (l2 ++ (Value.slice iad2 pe2.length icap2, pe2) :: m2).map Prod.fst = F2 at *
  have hFl : l.length < F.length := by rw [← hF]; simp
  have hFl2 : l2.length < F2.length := by rw [← hF2]; simp
  obtain ⟨K1, hK1⟩ : ∃ K1, K1 = HA.edg (l ++ m) := ⟨_, rfl⟩
  obtain ⟨K2, hK2⟩ : ∃ K2, K2 = HA.edg (l2 ++ m2) := ⟨_, rfl⟩
  rw [← hK1, ← hK2] at h
  refine calls_of_ES TB Tryz.func64 rfl _ Tryz.ntmps64 rfl h ?_; refine .go ?_; (repeat constructor); (refine .bx ?_; intro g9); refine .go ?_; repeat constructor
  refine ES.draw (X := Nat × Nat) (fun _ => [(0, Pv ga 0), (1, Iv (l.length : Nat)), (2, Iv (l2.length : Nat)), (3, Iv (k : Nat)), (9, Pv g9 0)])
    (fun x => HA.blk g9 (.cells #[Wv s.a, Wv s.b, Wv s.c, Wv s.d] 43) :: HA.blk ga (.cells #[.slice (some ⟨og, 0, none⟩) N ocap, .slice (some ⟨bg, 0, none⟩) M bcap, Iv (en : Nat)] 121) :: HA.row (.slice (some ⟨og, 0, none⟩) N ocap) 178 1 N (F.set l.length (.slice (some ⟨x.1, 0, none⟩) (pe.length + 1) x.2)) :: HA.row (.slice (some ⟨x.1, 0, none⟩) (pe.length + 1) x.2) 180 6 (pe.length + 1) (edsC pe ++ edC ⟨k, s, l2.length⟩) :: K1 :: HA.row (.slice (some ⟨bg, 0, none⟩) M bcap) 178 1 M F2 :: HA.row (.slice iad2 pe2.length icap2) 180 6 pe2.length (edsC pe2) :: K2 :: R)
    (HA.blk g9 (.cells #[Wv s.a, Wv s.b, Wv s.c, Wv s.d] 43) :: HA.blk ga (.cells #[.slice (some ⟨og, 0, none⟩) N ocap, .slice (some ⟨bg, 0, none⟩) M bcap, Iv (en : Nat)] 121) :: HA.row (.slice (some ⟨og, 0, none⟩) N ocap) 178 1 N F :: []) mixed (.i (by repeat constructor)) ?_ (fun x => ?_)
  · refine .tk 0 rfl (RV.move rfl) ?_; refine .tk 1 rfl (RV.nilCheck rfl) ?_; refine .tk 2 rfl (RV.fieldAddr rfl rfl rfl rfl rfl rfl) ?_; refine .tk 3 rfl (RV.loadB rfl rfl rfl (by repeat constructor) rfl) ?_; refine .tk 4 rfl (RV.move rfl) ?_; refine .tk 5 rfl (RV.move rfl) ?_; refine .tk 6 rfl (RV.nilCheck rfl) ?_; refine .tk 7 rfl (RV.fieldAddr rfl rfl rfl rfl rfl rfl) ?_; refine .tk 8 rfl (RV.loadB rfl rfl rfl (by repeat constructor) rfl) ?_; refine .tk 9 rfl (RV.move rfl) ?_; refine .tk 10 rfl (RV.indexAddrL1 rfl rfl rfl rfl rfl rfl (by omega)) ?_; refine .tk 11 rfl (RV.loadR rfl rfl rfl (by repeat constructor) hat) ?_; refine .tk 12 rfl (RV.move rfl) ?_; refine .tk 13 rfl (RV.loadAggB rfl rfl rfl (by repeat constructor) rfl) ?_; refine .tk 14 rfl (RV.move rfl) ?_; refine .tk 15 rfl (RV.buildS (edC ⟨k, s, l2.length⟩).toArray rfl rfl rfl rfl (by kernel_rfl)) ?_; refine .ld 16 ?_; (refine .b1 ?_; intro b26); refine .nx ?_; refine .ld 17 ?_
    (refine EL.append1 rfl rfl rfl rfl rfl rfl rfl rfl rfl (by repeat constructor) (by repeat constructor) (all1 rfl) (by rfl) (by unfold maxLen; omega) (by show (pe.length + 1) * 48 ≤ _; omega) ?_; intro a27 c27)
    refine .nx ?_; refine .tk 18 rfl (RV.indexAddrL1 rfl rfl rfl rfl rfl rfl (by omega)) ?_; refine ED.last 19 rfl (by decide +kernel) (by decide +kernel) (by decide +kernel) ?_
    refine EL.storeR rfl rfl rfl rfl rfl rfl (by repeat constructor) (by first | omega | (simp; omega)) ?_
    refine EL.endQ ?_
    exact .cy (a27, c27)
  refine .g0 ?_; repeat constructor
  refine ES.draw (X := Nat × Nat) (fun _ => [(0, Pv ga 0)])
    (fun y => HA.blk ga (.cells #[.slice (some ⟨og, 0, none⟩) N ocap, .slice (some ⟨bg, 0, none⟩) M bcap, Iv (en : Nat)] 121) :: HA.row (.slice (some ⟨og, 0, none⟩) N ocap) 178 1 N (F.set l.length (.slice (some ⟨x.1, 0, none⟩) (pe.length + 1) x.2)) :: HA.row (.slice (some ⟨x.1, 0, none⟩) (pe.length + 1) x.2) 180 6 (pe.length + 1) (edsC pe ++ edC ⟨k, s, l2.length⟩) :: K1 :: HA.row (.slice (some ⟨bg, 0, none⟩) M bcap) 178 1 M (F2.set l2.length (.slice (some ⟨y.1, 0, none⟩) (pe2.length + 1) y.2)) :: HA.row (.slice (some ⟨y.1, 0, none⟩) (pe2.length + 1) y.2) 180 6 (pe2.length + 1) (edsC pe2 ++ edC ⟨k, s, l.length⟩) :: K2 :: R)
    (HA.blk g9 (.cells #[Wv s.a, Wv s.b, Wv s.c, Wv s.d] 43) :: HA.blk ga (.cells #[.slice (some ⟨og, 0, none⟩) N ocap, .slice (some ⟨bg, 0, none⟩) M bcap, Iv (en : Nat)] 121) :: HA.row (.slice (some ⟨bg, 0, none⟩) M bcap) 178 1 M F2 :: []) mixed (.i (by repeat constructor)) ?_ (fun y => ?_)
  · refine .tk 0 rfl (RV.move rfl) ?_; refine .tk 1 rfl (RV.nilCheck rfl) ?_; refine .tk 2 rfl (RV.fieldAddr rfl rfl rfl rfl rfl rfl) ?_; refine .tk 3 rfl (RV.loadB rfl rfl rfl (by repeat constructor) rfl) ?_; refine .tk 4 rfl (RV.move rfl) ?_; refine .tk 5 rfl (RV.move rfl) ?_; refine .tk 6 rfl (RV.nilCheck rfl) ?_; refine .tk 7 rfl (RV.fieldAddr rfl rfl rfl rfl rfl rfl) ?_; refine .tk 8 rfl (RV.loadB rfl rfl rfl (by repeat constructor) rfl) ?_; refine .tk 9 rfl (RV.move rfl) ?_; refine .tk 10 rfl (RV.indexAddrL1 rfl rfl rfl rfl rfl rfl (by omega)) ?_; refine .tk 11 rfl (RV.loadR rfl rfl rfl (by repeat constructor) hat2) ?_; refine .tk 12 rfl (RV.move rfl) ?_; refine .tk 13 rfl (RV.loadAggB rfl rfl rfl (by repeat constructor) rfl) ?_; refine .tk 14 rfl (RV.move rfl) ?_; refine .tk 15 rfl (RV.buildS (edC ⟨k, s, l.length⟩).toArray rfl rfl rfl rfl (by kernel_rfl)) ?_; refine .ld 16 ?_; (refine .b1 ?_; intro b45); refine .nx ?_; refine .ld 17 ?_
    (refine EL.append1 rfl rfl rfl rfl rfl rfl rfl rfl rfl (by repeat constructor) (by repeat constructor) (all1 rfl) (by rfl) (by unfold maxLen; omega) (by show (pe2.length + 1) * 48 ≤ _; omega) ?_; intro a46 c46)
    refine .nx ?_; refine .tk 18 rfl (RV.indexAddrL1 rfl rfl rfl rfl rfl rfl (by omega)) ?_; refine ED.last 19 rfl (by decide +kernel) (by decide +kernel) (by decide +kernel) ?_
    refine EL.storeR rfl rfl rfl rfl rfl rfl (by repeat constructor) (by first | omega | (simp; omega)) ?_
    refine EL.endQ ?_
    exact .cy (a46, c46)
  refine .go ?_; repeat constructor
  refine PX.end rfl Tryz.results64 .nil (fun w hs => ⟨⟨⟨some ⟨og, 0, none⟩, ocap, some ⟨bg, 0, none⟩, bcap, l ++ (.slice (some ⟨x.1, 0, none⟩) (pe.length + 1) x.2, pe ++ [⟨k, s, l2.length⟩]) :: m, l2 ++ (.slice (some ⟨y.1, 0, none⟩) (pe2.length + 1) y.2, pe2 ++ [⟨k, s, l.length⟩]) :: m2⟩, ⟨(hs1 _).symm, (hs2 _).symm⟩⟩, rfl, ?_⟩)
  have e1 : ∀ a : Nat × Nat, HA.row (.slice (some ⟨a.1, 0, none⟩) (pe.length + 1) a.2) 180 6 (pe.length + 1) (edsC pe ++ edC ⟨k, s, l2.length⟩) = edRow ((.slice (some ⟨a.1, 0, none⟩) (pe.length + 1) a.2, pe ++ [⟨k, s, l2.length⟩]) : EP) := fun a => by
    unfold edRow; rw [edsC_app, List.length_append]; rfl
  have e2 : ∀ a : Nat × Nat, HA.row (.slice (some ⟨a.1, 0, none⟩) (pe2.length + 1) a.2) 180 6 (pe2.length + 1) (edsC pe2 ++ edC ⟨k, s, l.length⟩) = edRow ((.slice (some ⟨a.1, 0, none⟩) (pe2.length + 1) a.2, pe2 ++ [⟨k, s, l.length⟩]) : EP) := fun a => by
    unfold edRow; rw [edsC_app, List.length_append]; rfl
  rw [e1, e2, hK1, hK2, hset, hset2] at hs
  have k1 := Sat.edgIn (hs.ent (H' := edRow _ :: HA.edg (l ++ m) :: HA.blk ga _ :: HA.row (.slice (some ⟨og, 0, none⟩) N ocap) 178 1 N _ :: HA.row (.slice (some ⟨bg, 0, none⟩) M bcap) 178 1 M _ :: edRow _ :: HA.edg (l2 ++ m2) :: R) (.i (by repeat constructor)))
  have k2 := Sat.edgIn (k1.ent (H' := edRow _ :: HA.edg (l2 ++ m2) :: HA.edg _ :: HA.blk ga _ :: HA.row (.slice (some ⟨og, 0, none⟩) N ocap) 178 1 N _ :: HA.row (.slice (some ⟨bg, 0, none⟩) M bcap) 178 1 M _ :: R) (.i (by repeat constructor)))
  unfold AH AVal OR
  dsimp only
  rw [hln, hln2]
  exact k2.ent (.i (by repeat constructor))
abbrev AP (ga : Nat) (v : AV) (en : Nat) : HA := HA.pack (AH ga v en)
theorem Mut.pack {X : Type} {P : Program} {f : FuncId} {argv : Array Value} {Hq : List HA} {val : X → Value} {HX : X → List HA} (h : Mut P f argv Hq val HX) : Mut P f argv [HA.pack Hq] val (fun x => [HA.pack (HX x)]) := fun w0 B R w hs =>
  (h w0 B R w hs.unpack).mono (fun e w' ⟨x, he, hs'⟩ => ⟨x, he, hs'.pack⟩)
theorem AV.Is.len {v : AV} {a : AM} (h : v.Is a) : v.ps.length = a.out.length ∧ v.qs.length = a.back.length := ⟨by rw [← h.out, List.length_map], by rw [← h.back, List.length_map]⟩
def AX.cast {a b : AM} (x : AX a) (h : a = b) : AX b := ⟨x.1, h ▸ x.2⟩
theorem nfaAdd_p (ga en : Nat) (a : AM) (x : AX a) (hr : a.Room 1) : Mut Tryz.prog 41 #[Pv ga 0] [AP ga x.1 en] (fun _ : AX a.add => Iv (a.out.length : Nat)) (fun y => [AP ga y.1 en]) := by
  have hl := x.2.len
  have h1 := hr.out
  have h2 := hr.same
  exact Mut.pack (nfaAdd_c ga x.1 en a x.2 (by omega) (by omega))
theorem nfaLink_p (ga en : Nat) (a : AM) (x : AX a) (f t k : Nat) (s : BS) (hr : a.Room 1) (hf : f < a.out.length) (ht : t < a.out.length) :
    Mut Tryz.prog 64 #[Pv ga 0, Iv (f : Nat), Iv (t : Nat), Iv (k : Nat), Bs s] [AP ga x.1 en] (fun _ : AX (a.link f t k s) => .tuple #[]) (fun y => [AP ga y.1 en]) := by
  have hl := x.2.len
  have h1 := hr.out
  have h2 := hr.same
  refine Mut.pack (nfaLink_c ga x.1 en a x.2 f t k s (by omega) (by omega) (by omega) (by omega) (fun p hp => ?_) (fun p hp => ?_))
  · have := hr.ro p.2 (by rw [← x.2.out]; exact List.mem_map_of_mem hp)
    omega
  · have := hr.rb p.2 (by rw [← x.2.back]; exact List.mem_map_of_mem hp)
    omega
theorem nfaStep_p (ga en : Nat) (a : AM) (x : AX a) (f k : Nat) (s : BS) (hr : a.Room 2) (hf : f < a.out.length) :
    Mut Tryz.prog 63 #[Pv ga 0, Iv (f : Nat), Iv (k : Nat), Bs s] [AP ga x.1 en] (fun _ : AX (a.step f k s) => Iv (a.out.length : Nat)) (fun y => [AP ga y.1 en]) := by
  intro w0 B R w h
  replace h : Sat w0 B (AP ga x.1 en :: R) w := h
  have hr1 := add_room hr
  have hal := add_len a
  refine calls_of_ES TB Tryz.func63 rfl _ Tryz.ntmps63 rfl h ?_; refine .go ?_; (repeat constructor); (refine .bx ?_; intro g7); refine .as_ ?_; refine .go ?_; (repeat constructor); refine .mv ?_; (refine EL.callM rfl rfl rfl ent41 rfl (nfaAdd_p ga en a x (hr.less (by omega))) (by repeat constructor) ?_; intro y); refine .as_ ?_; refine .go ?_; (repeat constructor); refine .go ?_; (repeat constructor); refine .mv ?_; refine .mv ?_; refine .mv ?_; refine .mv ?_; refine .lg ?_; (refine EL.callM rfl rfl rfl ent64 rfl (nfaLink_p ga en a.add y f a.out.length k s hr1 (by omega) (by omega)) (by repeat constructor) ?_; intro z); refine .go ?_; (repeat constructor); refine .mv ?_; refine .as_ ?_; refine .go ?_; repeat constructor
  exact PX.ret rfl Tryz.results63 (.cons (.tmp rfl) .nil) (fun w hs => ⟨z, rfl, hs.ent (.i (by repeat constructor))⟩)
abbrev LayCt (w0 : World) (B : Nat) (r : RE) (g off : Nat) : Prop := ∀ (ga en : Nat) (a : AM) (x : AX a) (p : Nat), p < a.out.length → a.Room r.cost →
  MutAt Tryz.prog 42 #[Pv ga 0, Pv g off, Iv (p : Nat)] [AP ga x.1 en] (fun _ : AX (layM r a p).1 => Iv ((layM r a p).2 : Nat)) (fun y => [AP ga y.1 en]) w0 B
structure LS where
  i : Nat
  b : AM
  q : Nat
  x : AX b
theorem least_le (lo : Nat) (k : RE) : leastM lo k ≤ lo := by unfold leastM; split <;> omega
theorem layRep_c (w0 : World) (B lo : Nat) (hi : Int) (k : RE) (hf : (RE.rep lo hi k).fine) (g off : Nat) (hn : NodeRd w0 B g off (.rep lo hi k)) (hk : ∀ g' off', NodeRd w0 B g' off' k → LayCt w0 B k g' off')
    (ga en : Nat) (a : AM) (x : AX a) (p : Nat) (hp : p < a.out.length) (hr : a.Room (RE.rep lo hi k).cost) :
    MutAt Tryz.prog 66 #[Pv ga 0, Pv g off, Iv (p : Nat)] [AP ga x.1 en] (fun _ : AX (repA lo hi k (layM k) a p).1 => Iv ((repA lo hi k (layM k) a p).2 : Nat)) (fun y => [AP ga y.1 en]) w0 B := by
  intro R w h
  replace h : Sat w0 B (AP ga x.1 en :: R) w := h
  have hl := lay_room k
  obtain ⟨hlo, hm1, h255, hle, hkf⟩ := id hf
  obtain ⟨ad, cap, hrd, hkids⟩ := hn.kids
  have hrd := hrd.rd
  obtain ⟨g', o', rfl, hkk⟩ := hkids (by simp [RE.kids])
  have hkn : NodeRd w0 B g' o' k := by have := hkk 0 k rfl; rwa [Nat.zero_mul, Nat.add_zero] at this
  have hkc := hk g' o' hkn
  have hrep : repA lo hi k (layM k) a p = (let x := timesA (layM k) (leastM lo k) a p
    if hi = (lo : Int) ∨ k.thin = true then x
    else if hi < 0 then ((layM k (x.1.step x.2 0 zeroS) x.1.out.length).1.link (layM k (x.1.step x.2 0 zeroS) x.1.out.length).2 x.1.out.length 0 zeroS, x.1.out.length)
    else (optA (layM k) x.1.out.length (hi.toNat - lo) (x.1.step x.2 0 zeroS) x.2, x.1.out.length)) := rfl
  rw [RE.cost] at hr
  obtain ⟨rest, hrest⟩ : ∃ rest, rest = (if hi = (lo : Int) ∨ k.thin = true then 0 else if hi < 0 then k.cost + 3 else (hi.toNat - lo) * (k.cost + 1) + 2) := ⟨_, rfl⟩
  rw [← hrest] at hr
  have hleast := least_le lo k
  have hlc := fun w Hs (hs : Sat w0 B Hs w) => least_c lo hi k hf g off w (NodeRd.sat hn hs)
  generalize hX : timesA (layM k) (leastM lo k) a p = X at hrep
  generalize leastM lo k = m at *
  dsimp only at hrep
  refine calls_of_ES TB Tryz.func66 rfl _ Tryz.ntmps66 rfl h ?_; refine .go ?_; (repeat constructor); refine .as_ ?_; refine .go ?_; (repeat constructor); refine .mv ?_; refine .nc ?_; refine .fa ?_; refine EL.loadOld rfl rfl rfl rfl rfl hrd rfl ?_; refine EL.indexAddrL (i := 0) rfl rfl rfl rfl rfl rfl rfl (by simp [RE.kids]) ?_; refine .as_ ?_; refine .go ?_; (repeat constructor); refine .go ?_; (repeat constructor); refine .mv ?_; refine EL.callPw rfl rfl rfl ent68 rfl (fun w hs => hlc w _ hs) ?_; refine .mv ?_; refine .go ?_; repeat constructor
  refine ES.loop (σ := LS) (fun s => s.i ≤ m ∧ timesA (layM k) (m - s.i) s.b s.q = X ∧ s.q < s.b.out.length ∧ s.b.Room ((m - s.i) * k.cost + rest)) (fun s => [(0, Pv ga 0), (1, Pv g off), (2, Iv (s.q : Nat)), (7, Pv g' o'), (16, Iv (m : Nat)), (17, Iv (s.i : Nat))])
    (fun s => AP ga s.x.1 en :: R) (fun s => m - s.i) ⟨0, a, p, x⟩ ⟨Nat.zero_le _, hX, hp, hr⟩ ⟨rfl, rfl, rfl, rfl, rfl, rfl, trivial⟩ (.i (by repeat constructor)) ?_
  rintro ⟨i, b, q, y⟩ ⟨hi1, hgo, hq, hroom⟩
  dsimp only at hi1 hgo hq hroom ⊢
  refine .go ?_; (repeat constructor); refine .ls ?_; refine .go ?_; repeat constructor
  refine ES.condD rfl (fun hlt => ?_) (fun hge => ?_)
  · obtain ⟨d, hd⟩ : ∃ d, m - i = d + 1 := ⟨m - i - 1, by omega⟩
    have hd2 : m - (i + 1) = d := by omega
    rw [hd, Nat.succ_mul] at hroom
    rw [hd, timesA] at hgo
    have hnext := hl.room b q (d * k.cost + rest) (hroom.less (by omega)) hq
    refine .go ?_; (repeat constructor); refine .mv ?_; refine .mv ?_; refine .mv ?_; (refine EL.callMw rfl rfl rfl ent42 rfl (hkc ga en b y q hq (hroom.less (by omega))) (by repeat constructor) ?_; intro z); refine .as_ ?_; refine .go ?_; (repeat constructor); refine .a1 ?_; refine .mv ?_; refine .go ?_; repeat constructor
    exact .ly ⟨i + 1, (layM k b q).1, (layM k b q).2, z⟩ ⟨by simp only; omega, by rw [hd2]; exact hgo, hnext.2.1, by rw [hd2]; exact hnext.1⟩ (by simp only; omega)
  obtain rfl : i = m := by omega
  rw [Nat.sub_self, timesA] at hgo
  rw [Nat.sub_self, Nat.zero_mul, Nat.zero_add] at hroom
  subst hgo
  refine .g0 ?_; repeat constructor
  refine ES.draw (X := Unit) (fun _ => [(0, Pv ga 0), (1, Pv g off), (2, Iv (q : Nat)), (7, Pv g' o'), (36, .bool (decide (hi = (lo : Int) ∨ k.thin = true)))]) (fun _ => AP ga y.1 en :: R) [] mixed (.i (by repeat constructor)) ?_ (fun _ => ?_)
  · refine .tk 0 rfl (RV.move rfl) ?_; refine .tk 1 rfl (RV.nilCheck rfl) ?_; refine .tk 2 rfl (RV.fieldAddr rfl rfl rfl rfl rfl rfl) ?_; refine .tk 3 rfl (RV.loadOld rfl rfl rfl hrd rfl) ?_; refine .tk 4 rfl (RV.move rfl) ?_; refine .tk 5 rfl (RV.nilCheck rfl) ?_; refine .tk 6 rfl (RV.fieldAddr rfl rfl rfl rfl rfl rfl) ?_; refine .tk 7 rfl (RV.loadOld rfl rfl rfl hrd rfl) ?_; refine .tk 8 rfl (RV.eqlI rfl rfl) ?_; refine .tk 9 rfl (RV.move rfl) ?_
    first | refine ED.part (d := 33) rfl (fun hp33 => ?_) (fun hp33 => ?_) | refine ED.partN (d := 33) rfl (fun hp33 => ?_) (fun hp33 => ?_) | refine ED.partB (d := 33) rfl (fun hp33 => ?_) (fun hp33 => ?_)
    · refine .pa 10 rfl ?_; refine .pa 11 rfl ?_; refine .tk 12 rfl (RV.pickT rfl rfl) ?_; refine .dn ?_
      exact .cx () ⟨rfl, rfl, rfl, rfl, getA rfl (congrArg Value.bool (by first | exact (decide_eq_true (p := hi = (lo : Int) ∨ k.thin = true) (Or.inl hp33)).symm | (have h0 : ¬ hi = (lo : Int) := hp33; simp [h0]))), trivial⟩
    · refine .tk 10 rfl (RV.move rfl) ?_; refine .ld 11 ?_; refine EL.callPw rfl rfl rfl ent87 rfl (fun w hs => thin_c k hkf g' o' w (NodeRd.sat hkn hs)) ?_; refine .nx ?_; refine .tk 12 rfl (RV.pickF rfl rfl) ?_; refine .dn ?_
      exact .cx () ⟨rfl, rfl, rfl, rfl, getA rfl (congrArg Value.bool (by first | exact (decide_eq_true (p := hi = (lo : Int) ∨ k.thin = true) (Or.inl hp33)).symm | (have h0 : ¬ hi = (lo : Int) := hp33; simp [h0]))), trivial⟩
  refine ES.condD rfl (fun hc => ?_) (fun hc => ?_)
  · rw [if_pos hc] at hrep
    refine .go ?_; (repeat constructor); refine .mv ?_; refine .as_ ?_; refine .go ?_; repeat constructor
    exact PX.ret rfl Tryz.results66 (.cons (.tmp rfl) .nil) (fun w hs => ⟨y.cast (by rw [hrep]), by rw [hrep]; rfl, hs.ent (.i (by repeat constructor))⟩)
  rw [if_neg hc] at hrep hrest
  refine .go ?_; (repeat constructor); refine .mv ?_; refine .nc ?_; refine .fa ?_; refine EL.loadOld rfl rfl rfl rfl rfl hrd rfl ?_; refine .ls ?_; refine .go ?_; repeat constructor
  refine ES.condD rfl (fun hneg => ?_) (fun hneg => ?_)
  · have hneg' : hi < 0 := hneg
    rw [if_pos hneg'] at hrep hrest
    have r1 := step_room (k := 0) (s := zeroS) (n := k.cost + 1) (hroom.less (by omega)) hq
    have hsl := step_len b q 0 zeroS
    have r2 := hl.room _ b.out.length 1 r1 (by omega)
    refine .go ?_; (repeat constructor); refine .mv ?_; refine .mv ?_; refine EL.buildZA rfl rfl rfl rfl rfl ?_; (refine EL.callM rfl rfl rfl ent63 rfl (nfaStep_p ga en b y q 0 zeroS (hroom.less (by omega)) hq) (by repeat constructor) ?_; intro y2); refine .as_ ?_; refine .go ?_; (repeat constructor); refine .mv ?_; refine .mv ?_; refine .mv ?_; refine .mv ?_; (refine EL.callMw rfl rfl rfl ent42 rfl (hkc ga en (b.step q 0 zeroS) y2 b.out.length (by omega) (r1.less (by omega))) (by repeat constructor) ?_; intro y3); refine .mv ?_; refine EL.buildZA rfl rfl rfl rfl rfl ?_; (refine EL.callM rfl rfl rfl ent64 rfl (nfaLink_p ga en _ y3 _ b.out.length 0 zeroS r2.1 r2.2.1 (by omega)) (by repeat constructor) ?_; intro y4); refine .go ?_; (repeat constructor); refine .go ?_; (repeat constructor); refine .mv ?_; refine .as_ ?_; refine .go ?_; repeat constructor
    exact PX.ret rfl Tryz.results66 (.cons (.tmp rfl) .nil) (fun w hs => ⟨y4.cast (by rw [hrep]), by rw [hrep]; rfl, hs.ent (.i (by repeat constructor))⟩)
  have hneg' : ¬ hi < 0 := hneg
  rw [if_neg hneg'] at hrep hrest
  have hge2 := hle (by omega)
  obtain ⟨M, hM⟩ : ∃ M, M = hi.toNat - lo := ⟨_, rfl⟩
  rw [← hM] at hrep hrest
  have r1 := step_room (k := 0) (s := zeroS) (n := M * (k.cost + 1)) (hroom.less (by omega)) hq
  have hsl := step_len b q 0 zeroS
  refine .go ?_; (repeat constructor); refine .mv ?_; refine .mv ?_; refine EL.buildZA rfl rfl rfl rfl rfl ?_; (refine EL.callM rfl rfl rfl ent63 rfl (nfaStep_p ga en b y q 0 zeroS (hroom.less (by omega)) hq) (by repeat constructor) ?_; intro y2); refine .as_ ?_; refine .go ?_; (repeat constructor); refine .g0 ?_; repeat constructor
  refine ES.draw (X := Unit) (fun _ => [(0, Pv ga 0), (2, Iv (q : Nat)), (7, Pv g' o'), (9, Iv (b.out.length : Nat)), (68, Iv (M : Nat)), (69, Iv ((0 : Nat) : Int))]) (fun _ => AP ga y2.1 en :: R) [] mixed (.i (by repeat constructor)) ?_ (fun _ => ?_)
  · refine .tk 0 rfl (RV.move rfl) ?_; refine .tk 1 rfl (RV.nilCheck rfl) ?_; refine .tk 2 rfl (RV.fieldAddr rfl rfl rfl rfl rfl rfl) ?_; refine .tk 3 rfl (RV.loadOld rfl rfl rfl hrd rfl) ?_; refine .tk 4 rfl (RV.move rfl) ?_; refine .tk 5 rfl (RV.nilCheck rfl) ?_; refine .tk 6 rfl (RV.fieldAddr rfl rfl rfl rfl rfl rfl) ?_; refine .tk 7 rfl (RV.loadOld rfl rfl rfl hrd rfl) ?_
    refine .tk 8 rfl (RV.sub_ ((M : Nat) : Int) rfl rfl ((wrap_i64 _ (by simp only [RE.hi, RE.lo]; omega) (by simp only [RE.hi, RE.lo]; omega)).trans (by simp only [RE.hi, RE.lo]; omega))) ?_
    refine .tk 9 rfl (RV.move rfl) ?_; refine .dn ?_
    exact .cy ()
  refine .go ?_; repeat constructor
  generalize hO : b.out.length = O at *
  generalize hF : optA (layM k) O M (b.step q 0 zeroS) q = F at hrep
  refine ES.loop (σ := LS) (fun s => s.i ≤ M ∧ optA (layM k) O (M - s.i) s.b s.q = F ∧ s.q < s.b.out.length ∧ O < s.b.out.length ∧ s.b.Room ((M - s.i) * (k.cost + 1))) (fun s => [(0, Pv ga 0), (2, Iv (s.q : Nat)), (7, Pv g' o'), (9, Iv (O : Nat)), (68, Iv (M : Nat)), (69, Iv (s.i : Nat))])
    (fun s => AP ga s.x.1 en :: R) (fun s => M - s.i) ⟨0, b.step q 0 zeroS, q, y2⟩ ⟨Nat.zero_le _, hF, by simp only; omega, by simp only; omega, r1⟩ ⟨rfl, rfl, rfl, rfl, rfl, rfl, trivial⟩ (.i (by repeat constructor)) ?_
  rintro ⟨i, b2, q2, z⟩ ⟨hi1, hgo, hq2, hO2, hroom2⟩
  dsimp only at hi1 hgo hq2 hO2 hroom2 ⊢
  refine .go ?_; (repeat constructor); refine .ls ?_; refine .go ?_; repeat constructor
  refine ES.condD rfl (fun hlt => ?_) (fun hge => ?_)
  · obtain ⟨d, hd⟩ : ∃ d, M - i = d + 1 := ⟨M - i - 1, by omega⟩
    have hd2 : M - (i + 1) = d := by omega
    rw [hd, Nat.succ_mul] at hroom2
    rw [hd, optA] at hgo
    have hnext := hl.room b2 q2 (d * (k.cost + 1) + 1) (hroom2.less (by omega)) hq2
    have hlink := link_room (k := 0) (s := zeroS) (t := O) hnext.1 hnext.2.1 (by omega)
    have hll := (link_len (layM k b2 q2).1 (layM k b2 q2).2 O 0 zeroS).1
    refine .go ?_; (repeat constructor); refine .mv ?_; refine .mv ?_; refine .mv ?_; (refine EL.callMw rfl rfl rfl ent42 rfl (hkc ga en b2 z q2 hq2 (hroom2.less (by omega))) (by repeat constructor) ?_; intro z2); refine .as_ ?_; refine .go ?_; (repeat constructor); refine .mv ?_; refine .mv ?_; refine .mv ?_; refine EL.buildZA rfl rfl rfl rfl rfl ?_; (refine EL.callM rfl rfl rfl ent64 rfl (nfaLink_p ga en _ z2 _ O 0 zeroS (hnext.1.less (by omega)) hnext.2.1 (by omega)) (by repeat constructor) ?_; intro z3); refine .go ?_; (repeat constructor); refine .a1 ?_; refine .mv ?_; refine .go ?_; repeat constructor
    exact .ly ⟨i + 1, (layM k b2 q2).1.link (layM k b2 q2).2 O 0 zeroS, (layM k b2 q2).2, z3⟩ ⟨by simp only; omega, by rw [hd2]; exact hgo, by simp only; omega, by simp only; omega, by rw [hd2]; exact hlink⟩ (by simp only; omega)
  obtain rfl : i = M := by omega
  rw [Nat.sub_self, optA] at hgo
  subst hgo
  refine .go ?_; (repeat constructor); refine .mv ?_; refine .as_ ?_; refine .go ?_; repeat constructor
  exact PX.ret rfl Tryz.results66 (.cons (.tmp rfl) .nil) (fun w hs => ⟨z.cast (by rw [hrep]), by rw [hrep]; rfl, hs.ent (.i (by repeat constructor))⟩)
theorem layL_kids (r : RE) (h : r.kind = 0 ∨ r.kind = 4) (a : AM) (p : Nat) : layM r a p = layL r.kids a p := by
  cases r <;> simp [RE.kind] at h
  · rw [layM]; rfl
  · rw [layM]; simp only [RE.kids]; rw [layL, layL]
theorem costL_kids (r : RE) (h : r.kind = 0 ∨ r.kind = 4) : r.cost = costL r.kids := by
  cases r <;> simp [RE.kind] at h
  · rw [RE.cost]; rfl
  · rw [RE.cost]; simp only [RE.kids]; rw [costL, costL]; rfl
theorem lay_n (w0 : World) (B n : Nat) : ∀ r : RE, r.sz ≤ n → r.fine → ∀ g off, NodeRd w0 B g off r → LayCt w0 B r g off := by
  induction n with
  | zero => intro r hr; exact absurd (sz_pos r) (by omega)
  | succ n ih =>
    intro r hsz hfine g off hn ga en a x p hp hr R w h
    replace h : Sat w0 B (AP ga x.1 en :: R) w := h
    have hkl := fine_len hfine
    obtain ⟨ad, cap, hrd, hkids⟩ := hn.kids
    have hrd := hrd.rd
    refine calls_of_ES TB Tryz.func42 rfl _ Tryz.ntmps42 rfl h ?_; refine .go ?_; (repeat constructor); refine .as_ ?_; refine .go ?_; (repeat constructor); refine .mv ?_; refine .nc ?_; refine .fa ?_; refine EL.loadOld rfl rfl rfl rfl rfl hrd rfl ?_; refine .go ?_; (repeat constructor); refine .go ?_; (repeat constructor); refine .ei ?_; refine .as_ ?_; refine .go ?_; repeat constructor
    refine ES.condD rfl (fun h1 => ?_) (fun h1 => ?_)
    · obtain ⟨bs, rfl⟩ := kind_1 (show r.kind = 1 by omega)
      rw [RE.cost] at hr
      have el : layM (.byte bs) a p = (a.step p 1 bs, a.out.length) := by rw [layM]
      refine .go ?_; (repeat constructor); refine .mv ?_; refine .mv ?_; refine .mv ?_; refine .nc ?_; refine .fa ?_
      refine EL.ofRV (RV.loadOldA (vs := [Wv bs.a, Wv bs.b, Wv bs.c, Wv bs.d]) rfl rfl rfl rfl (by simp) hrd (set_cells (.byte bs) _)) rfl rfl rfl (by intro c h; cases h) ?_
      (refine EL.callM rfl rfl rfl ent63 rfl (nfaStep_p ga en a x p 1 bs hr hp) (by repeat constructor) ?_; intro y); refine .as_ ?_; refine .go ?_; repeat constructor
      exact PX.ret rfl Tryz.results42 (.cons (.tmp rfl) .nil) (fun w hs => ⟨y.cast (by rw [el]), congrArg (fun z : AM × Nat => Ending.returned (Iv (z.2 : Nat))) el.symm, hs.ent (.i (by repeat constructor))⟩)
    refine .go ?_; (repeat constructor); refine .ei ?_; refine .as_ ?_; refine .go ?_; repeat constructor
    refine ES.condD rfl (fun h2 => ?_) (fun h2 => ?_)
    · obtain rfl := kind_2 (show r.kind = 2 by omega)
      rw [RE.cost] at hr
      have el : layM .bol a p = (a.step p 2 zeroS, a.out.length) := by rw [layM]
      refine .go ?_; (repeat constructor); refine .mv ?_; refine .mv ?_; refine EL.buildZA rfl rfl rfl rfl rfl ?_; (refine EL.callM rfl rfl rfl ent63 rfl (nfaStep_p ga en a x p 2 zeroS hr hp) (by repeat constructor) ?_; intro y); refine .as_ ?_; refine .go ?_; repeat constructor
      exact PX.ret rfl Tryz.results42 (.cons (.tmp rfl) .nil) (fun w hs => ⟨y.cast (by rw [el]), congrArg (fun z : AM × Nat => Ending.returned (Iv (z.2 : Nat))) el.symm, hs.ent (.i (by repeat constructor))⟩)
    refine .go ?_; (repeat constructor); refine .ei ?_; refine .as_ ?_; refine .go ?_; repeat constructor
    refine ES.condD rfl (fun h3 => ?_) (fun h3 => ?_)
    · obtain rfl := kind_3 (show r.kind = 3 by omega)
      rw [RE.cost] at hr
      have el : layM .eol a p = (a.step p 3 zeroS, a.out.length) := by rw [layM]
      refine .go ?_; (repeat constructor); refine .mv ?_; refine .mv ?_; refine EL.buildZA rfl rfl rfl rfl rfl ?_; (refine EL.callM rfl rfl rfl ent63 rfl (nfaStep_p ga en a x p 3 zeroS hr hp) (by repeat constructor) ?_; intro y); refine .as_ ?_; refine .go ?_; repeat constructor
      exact PX.ret rfl Tryz.results42 (.cons (.tmp rfl) .nil) (fun w hs => ⟨y.cast (by rw [el]), congrArg (fun z : AM × Nat => Ending.returned (Iv (z.2 : Nat))) el.symm, hs.ent (.i (by repeat constructor))⟩)
    refine .go ?_; (repeat constructor); refine .ei ?_; refine .as_ ?_; refine .go ?_; repeat constructor
    refine ES.condD rfl (fun h6 => ?_) (fun h6 => ?_)
    · obtain ⟨bn, rfl⟩ := kind_6 (show r.kind = 6 by omega)
      rw [RE.cost] at hr
      have el : layM (.back bn) a p = ((a.step p 0 zeroS).link a.out.length a.out.length 1 (notS zeroS), a.out.length) := by rw [layM]
      have r1 := step_room (k := 0) (s := zeroS) (n := 1) hr hp
      have hsl := step_len a p 0 zeroS
      refine .go ?_; (repeat constructor); refine .mv ?_; refine .mv ?_; refine EL.buildZA rfl rfl rfl rfl rfl ?_; (refine EL.callM rfl rfl rfl ent63 rfl (nfaStep_p ga en a x p 0 zeroS (hr.less (by omega)) hp) (by repeat constructor) ?_; intro y); refine .as_ ?_; refine .go ?_; (repeat constructor); refine .mv ?_; refine .mv ?_; refine .mv ?_; refine EL.buildZA rfl rfl rfl rfl rfl ?_; refine EL.callP rfl rfl rfl ent65 rfl (not_c zeroS) ?_; (refine EL.callM rfl rfl rfl ent64 rfl (nfaLink_p ga en _ y a.out.length a.out.length 1 (notS zeroS) r1 (by omega) (by omega)) (by repeat constructor) ?_; intro z); refine .go ?_; (repeat constructor); refine .go ?_; (repeat constructor); refine .mv ?_; refine .as_ ?_; refine .go ?_; repeat constructor
      exact PX.ret rfl Tryz.results42 (.cons (.tmp rfl) .nil) (fun w hs => ⟨z.cast (by rw [el]), congrArg (fun z : AM × Nat => Ending.returned (Iv (z.2 : Nat))) el.symm, hs.ent (.i (by repeat constructor))⟩)
    refine .go ?_; (repeat constructor); refine .ei ?_; refine .as_ ?_; refine .go ?_; repeat constructor
    refine ES.condD rfl (fun h5 => ?_) (fun h5 => ?_)
    · obtain ⟨lo, hi, k, rfl⟩ := kind_5 (show r.kind = 5 by omega)
      have hks : k.sz + 1 = (RE.rep lo hi k).sz := by simp [RE.sz]
      have el : layM (.rep lo hi k) a p = repA lo hi k (layM k) a p := by rw [layM]
      have hrc := layRep_c w0 B lo hi k hfine g off hn (fun g' off' hk => ih k (by omega) hfine.2.2.2.2 g' off' hk) ga en a x p hp hr
      refine .go ?_; (repeat constructor); refine .mv ?_; refine .mv ?_; refine .mv ?_; (refine EL.callMw rfl rfl rfl ent66 rfl hrc (by repeat constructor) ?_; intro y); refine .as_ ?_; refine .go ?_; repeat constructor
      exact PX.ret rfl Tryz.results42 (.cons (.tmp rfl) .nil) (fun w hs => ⟨y.cast (by rw [el]), congrArg (fun z : AM × Nat => Ending.returned (Iv (z.2 : Nat))) el.symm, hs.ent (.i (by repeat constructor))⟩)
    have hk04 : r.kind = 0 ∨ r.kind = 4 := by have := kind_le r; omega
    have hlk := layL_kids r hk04 a p
    have hck := costL_kids r hk04
    rw [hck] at hr
    refine .go ?_; (repeat constructor); refine .mv ?_; refine .nc ?_; refine .fa ?_; refine EL.loadOld rfl rfl rfl rfl rfl hrd rfl ?_; refine .lL ?_; refine .mv ?_; refine .go ?_; repeat constructor
    refine ES.loop (σ := LS) (fun s => s.i ≤ r.kids.length ∧ layL (r.kids.drop s.i) s.b s.q = layM r a p ∧ s.q < s.b.out.length ∧ s.b.Room (costL (r.kids.drop s.i))) (fun s => [(0, Pv ga 0), (1, Pv g off), (2, Iv (s.q : Nat)), (57, Iv (r.kids.length : Nat)), (58, Iv (s.i : Nat))])
      (fun s => AP ga s.x.1 en :: R) (fun s => r.kids.length - s.i) ⟨0, a, p, x⟩ ⟨Nat.zero_le _, by rw [List.drop_zero]; exact hlk.symm, hp, by rw [List.drop_zero]; exact hr⟩ ⟨rfl, rfl, rfl, rfl, rfl, trivial⟩ (.i (by repeat constructor)) ?_
    rintro ⟨i, b, q, y⟩ ⟨hi1, hgo, hq, hroom⟩
    dsimp only at hi1 hgo hq hroom ⊢
    refine .go ?_; (repeat constructor); refine .ls ?_; refine .go ?_; repeat constructor
    refine ES.condD rfl (fun hlt => ?_) (fun hge => ?_)
    · have hlt' : i < r.kids.length := by omega
      obtain ⟨kg, ko, rfl, hk⟩ := hkids (by intro e; rw [e] at hlt'; simp at hlt')
      obtain ⟨k, hki⟩ : ∃ k, r.kids[i]? = some k := ⟨_, List.getElem?_eq_getElem hlt'⟩
      have hmem := List.mem_of_getElem? hki
      have hks := kids_lt hmem
      rw [List.drop_eq_getElem_cons hlt', show r.kids[i] = k from (List.getElem?_eq_some_iff.1 hki).2] at hgo hroom
      rw [costL] at hroom
      rw [layL] at hgo
      have hnext := (lay_room k).room b q _ hroom hq
      refine .go ?_; (repeat constructor); refine .mv ?_; refine .as_ ?_; refine .go ?_; (repeat constructor); refine .mv ?_; refine .mv ?_; refine .nc ?_; refine .fa ?_; refine EL.loadOld rfl rfl rfl rfl rfl hrd rfl ?_; refine .mv ?_; refine EL.indexAddrL rfl rfl rfl rfl rfl rfl rfl (by omega) ?_; refine .mv ?_; (refine EL.callMw rfl rfl rfl ent42 rfl (ih k (by omega) (fine_kid hfine hmem) kg (ko + i * 9) (hk i k hki) ga en b y q hq (hroom.less (by omega))) (by repeat constructor) ?_; intro z); refine .as_ ?_; refine .go ?_; (repeat constructor); refine .a1 ?_; refine .mv ?_; refine .go ?_; repeat constructor
      exact .ly ⟨i + 1, (layM k b q).1, (layM k b q).2, z⟩ ⟨hlt', hgo, hnext.2.1, hnext.1⟩ (by simp only; omega)
    · obtain rfl : i = r.kids.length := by omega
      rw [List.drop_length, layL] at hgo
      refine .go ?_; (repeat constructor); refine .mv ?_; refine .as_ ?_; refine .go ?_; repeat constructor
      exact PX.ret rfl Tryz.results42 (.cons (.tmp rfl) .nil) (fun w hs => ⟨y.cast (by rw [← hgo]), by rw [← hgo]; rfl, hs.ent (.i (by repeat constructor))⟩)
theorem lay_c (w0 : World) (B : Nat) (r : RE) (hf : r.fine) (g off : Nat) (hn : NodeRd w0 B g off r) : LayCt w0 B r g off := lay_n w0 B r.sz r (Nat.le_refl _) hf g off hn
end Go.Proofs.YthcbjbkheodejaaGreat
namespace Go.Proofs.YthcbjbkheodejaaGreat.Sl
open Go Go.RowKit
section cuts
variable {C : Cx} {cs : List Code} {Q : Qt} {E E' : Env} {H H' : List HA}
def CutE {X Y : Type} (C : Cx) (id : Nat) (Ex : X → Env) (Hx : X → List HA) (Ey : Y → Env) (Hy : Y → List HA) : Qt := fun e a w => match e with
  | .normal => ∃ x, At C (Ex x) (Hx x) a w
  | .exit j => j = id ∧ ∃ y, At C (Ey y) (Hy y) a w
  | _ => False
theorem ES.cutE {X Y : Type} {c : Code} (id : Nat) (Ex : X → Env) (Hx : X → List HA) (Ey : Y → Env) (Hy : Y → List HA) (h : ES C [c] (CutE C id Ex Hx Ey Hy) E H) (k : ∀ x, ES C cs Q (Ex x) (Hx x)) (k2 : ∀ y, PX C Q (.exit id) (Ey y) (Hy y)) : ES C (c :: cs) Q E H := by
  intro a w ha
  refine wpIn_mono (h a w ha) ?_
  intro e a' w' hq
  cases e with
  | normal =>
    obtain ⟨x, hx⟩ := (hq : CutE C id Ex Hx Ey Hy .normal a' w')
    exact k x a' w' hx
  | exit j =>
    obtain ⟨rfl, y, hy⟩ := (hq : CutE C id Ex Hx Ey Hy (.exit j) a' w')
    exact k2 y a' w' hy
  | _ => exact (hq : False).elim
theorem PX.cutEn {X Y : Type} {id : Nat} {Ex : X → Env} {Hx : X → List HA} {Ey : Y → Env} {Hy : Y → List HA} (x : X) (he : Has E (Ex x)) (hh : Ent H (Hx x)) : PX C (CutE C id Ex Hx Ey Hy) .normal E H := fun a w h => ⟨x, h.sub he hh⟩
theorem PX.cutEx {X Y : Type} {id : Nat} {Ex : X → Env} {Hx : X → List HA} {Ey : Y → Env} {Hy : Y → List HA} (y : Y) (he : Has E (Ey y)) (hh : Ent H (Hy y)) : PX C (CutE C id Ex Hx Ey Hy) (.exit id) E H := fun a w h => ⟨rfl, y, h.sub he hh⟩
theorem ES.know {P : Prop} (h : ∀ w, Sat C.w0 C.B H w → P) (k : P → ES C cs Q E H) : ES C cs Q E H := fun a w ha => k (h w ha.2) a w ha
end cuts
section slices
variable {C : Cx} {E : Env} {H : List HA} {d ty t : Nat} {pos : String} {af : Array Edge} {gd : Option (Nat × Bool)} {x y z : Operand}
theorem RV.sliceLHk {ti te : TI} {el lo hi n cap g off : Nat} {kd kd' : IntKind} (hx : E.ev x = some (.slice (some ⟨g, off, none⟩) n cap)) (hy : E.ev y = some (.int kd (lo : Nat))) (hz : E.ev z = some (.int kd' (hi : Nat))) (ht : C.T.f t = some ti) (hu : ti.u = .slice el) (hte : C.T.f el = some te) (hlo : lo ≤ hi) (hhi : hi ≤ cap) (hlt : lo < cap) :
    RunV C E H ⟨some d, .slice t x (some y) (some z) none, ty, pos, af, gd⟩ (.slice (some ⟨g, off + lo * te.size, none⟩) (hi - lo) (cap - lo)) := fun a w ha => by
  have hT := (C.T.ok t ti ht).u
  rw [hu] at hT
  have hI := (C.T.ok el te hte).runInfo w
  have h1 : cap ≠ lo := by omega
  simp [execOp, ha.1.ev hx, ha.1.ev hy, ha.1.ev hz, Instr.sliceAt, Instr.slice, Instr.sliceBounds, Instr.sliceBound, asIntOf, run_underlying hT, hI.1, Result.andThen, h1, hlo, hhi, add_n]
theorem RV.sliceLk {ti te : TI} {el lo n cap g off : Nat} {kd : IntKind} (hx : E.ev x = some (.slice (some ⟨g, off, none⟩) n cap)) (hy : E.ev y = some (.int kd (lo : Nat))) (ht : C.T.f t = some ti) (hu : ti.u = .slice el) (hte : C.T.f el = some te) (hlo : lo ≤ n) (hn : n ≤ cap) (hlt : lo < cap) :
    RunV C E H ⟨some d, .slice t x (some y) none none, ty, pos, af, gd⟩ (.slice (some ⟨g, off + lo * te.size, none⟩) (n - lo) (cap - lo)) := fun a w ha => by
  have hT := (C.T.ok t ti ht).u
  rw [hu] at hT
  have hI := (C.T.ok el te hte).runInfo w
  have h1 : cap ≠ lo := by omega
  simp [execOp, ha.1.ev hx, ha.1.ev hy, Instr.sliceAt, Instr.slice, Instr.sliceBounds, Instr.sliceBound, asIntOf, run_underlying hT, hI.1, Result.andThen, h1, hlo, hn, add_n]
end slices
section funcs
variable {C : Cx} {all : Array Oper} {ops : List Oper} {Q : Qt} {E : Env} {H R : List HA} {d ty t t' : Nat} {pos : String} {af : Array Edge} {gd : Option (Nat × Bool)} {x y : Operand}
end funcs
end Go.Proofs.YthcbjbkheodejaaGreat.Sl
