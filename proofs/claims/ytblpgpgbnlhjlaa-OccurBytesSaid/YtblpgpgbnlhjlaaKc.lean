/- Layer 12 (occur): the iterator's function. Layer 12 (occur): All, List. Layer 12 (occur): the law's helpers. -/
import Derived.Test.YtblpgpgbnlhjlaaQa
import Derived.Test.YtblpgpgbnlhjlaaSlk
namespace Go.Proofs.Ytblpgpgbnlhjlaa
open Go Go.RowKit Sl
set_option maxRecDepth 100000
set_option maxHeartbeats 8000000
set_option linter.unusedVariables false
set_option linter.unusedSimpArgs false
attribute [local irreducible] ES EL PX wps

/-- The matches, each behind the one before; mr: what the matcher answers from a place on. -/
def occGo (mr : Nat → MR) (n : Nat) : Nat → Nat → Int → List (List Spn × Int)
  | 0, _, _ => []
  | f + 1, p, last =>
    if n < p then []
    else if (mr p).e ≠ 0 then [([], (mr p).e)]
    else if (mr p).ok = false then []
    else
      let w := (mr p).spans.headD (0, 0)
      if w.1 = w.2 ∧ w.2 = last then occGo mr n f (p + 1) last
      else ((mr p).spans, 0) :: occGo mr n f (if w.1 = w.2 then w.2.toNat + 1 else w.2.toNat) w.2
def occL (mr : Nat → MR) (n : Nat) : List (List Spn × Int) := occGo mr n (n + 2) 0 (-1)
structure McOk (mr : Nat → MR) (n : Nat) : Prop where
  is : ∀ p, p ≤ n → (mr p).e = 0 → (mr p).ok = true → ∃ (a b : Nat) (rest : List Spn), (mr p).spans = ((a : Int), (b : Int)) :: rest ∧ p ≤ a ∧ a ≤ b ∧ b ≤ n
theorem occ_fuel {mr : Nat → MR} {n : Nat} (h : McOk mr n) : ∀ (f f' p : Nat) (last : Int), n + 1 < f + p → n + 1 < f' + p → occGo mr n f p last = occGo mr n f' p last
  | 0, 0, _, _, _, _ => rfl
  | 0, f' + 1, p, last, h1, _ => by rw [occGo, occGo, if_pos (by omega)]
  | f + 1, 0, p, last, _, h2 => by rw [occGo, occGo, if_pos (by omega)]
  | f + 1, f' + 1, p, last, h1, h2 => by
    rw [occGo, occGo]
    split
    · rfl
    · rename_i hp
      split
      · rfl
      · rename_i he
        split
        · rfl
        · rename_i hok
          obtain ⟨a, b, rest, e1, e2, e3, e4⟩ := h.is p (by omega) (by simpa using he) (by simpa using hok)
          rw [e1]
          dsimp only [List.headD_cons]
          split
          · exact occ_fuel h f f' (p + 1) last (by omega) (by omega)
          · rename_i hw
            congr 1
            refine occ_fuel h f f' _ _ ?_ ?_ <;> split <;> rename_i hab <;> simp at hab ⊢ <;> omega
def ElO (xs : List (List Spn × Int)) (i : Nat) (x : List Value) (G : List HA) : Prop := ∃ l e ad cap, xs[i]? = some (l, e) ∧ x = [.slice ad l.length cap, Iv e] ∧ G = [PRow ad cap l]
theorem drop_head {α : Type} {l : List α} {i : Nat} {x : α} {r : List α} (h : l.drop i = x :: r) : l[i]? = some x ∧ l.drop (i + 1) = r := by
  constructor
  · have : (l.drop i)[0]? = some x := by rw [h]; rfl
    simpa using this
  · have := congrArg List.tail h
    simpa [List.tail_drop] using this
theorem occ1_iter (gs gm : Nat) (s : List UInt8) (hsl : s.length ≤ 1152921504606846976) (po : Option Addr) (Hm : HA) (mr : Nat → MR) (hok : McOk mr s.length) (W0 : World) (B0 : Nat)
    (hmt : ∀ p : Nat, p ≤ s.length → MutAt Try.prog 22 #[.pointer po, Sv s, Iv (p : Nat)] [Hm] (mrV (mr p)) (fun x => [PRow x.1 x.2 (mr p).spans, Hm]) W0 B0)
    (hne : ∀ p : Nat, (mr p).e ≠ 0 → (mr p).spans = []) :
    IterX Try.prog 70 #[Pv gs 0, Pv gm 0] (occL mr s.length).length (ElO (occL mr s.length)) [HA.blk gs (.cells #[Sv s] 9), HA.blk gm (.cells #[.pointer po] 39), Hm] W0 B0 := by
  obtain ⟨xs, hxs⟩ : ∃ xs, xs = occL mr s.length := ⟨_, rfl⟩
  rw [← hxs]
  intro l I Ix hY A R W hI hs
  replace hs : Sat W0 B0 (HA.blk gs (.cells #[Sv s] 9) :: HA.blk gm (.cells #[.pointer po] 39) :: Hm :: A :: R) W := hs
  refine calls_of_ES TB Try.func70 rfl _ Try.ntmps70 rfl hs ?_
  refine .go ?_; repeat constructor
  refine EL.assign rfl rfl rfl ?_
  refine .go ?_; repeat constructor
  refine EL.assign rfl rfl rfl ?_
  refine .go ?_; repeat constructor
  refine ES.loop (σ := Nat × Nat × Int × HA) (fun (i, p, last, A) => occGo mr s.length (s.length + 2 - p) p last = xs.drop i ∧ i ≤ xs.length ∧ p ≤ s.length + 1 ∧ I i A) (fun (i, p, last, A) => [(0, .func (.yield l) #[] #[]), (1, Pv gs 0), (2, Pv gm 0), (4, Iv last), (5, Iv (p : Nat))])
    (fun (i, p, last, A) => HA.blk gs (.cells #[Sv s] 9) :: HA.blk gm (.cells #[.pointer po] 39) :: Hm :: A :: R) (fun (i, p, last, A) => s.length + 2 - p) (0, 0, -1, A) ⟨by rw [hxs]; rfl, Nat.zero_le _, Nat.zero_le _, hI⟩ ⟨rfl, rfl, rfl, rfl, rfl, trivial⟩ (.i (by repeat constructor)) ?_
  rintro ⟨i, p, last, A⟩ ⟨hgo, hi, hp, hI⟩
  dsimp only at hgo hi hp hI ⊢
  have hend : xs.drop i = [] → xs.length = i := fun h => by
    have := congrArg List.length h
    simp only [List.length_drop, List.length_nil] at this
    omega
  refine .go ?_; repeat constructor
  refine EL.move rfl rfl rfl ?_
  (apply EL.loadB; exact rfl; exact rfl; exact rfl; exact rfl; exact rfl; (case hm => repeat constructor); exact rfl)
  refine EL.lenS rfl rfl rfl rfl rfl ?_
  refine EL.leq rfl rfl rfl rfl ?_
  refine .go ?_; repeat constructor
  refine ES.condD rfl (fun hle => ?_) (fun hgt => ?_)
  rotate_left
  · rw [show s.length + 2 - p = s.length + 1 - p + 1 by omega, occGo, if_pos (by omega)] at hgo
    have hlen := hend hgo.symm
    refine .go ?_; repeat constructor
    exact PX.end rfl Try.results70 .nil (fun w hs => ⟨⟨_, rfl⟩, .inl ⟨A, by rw [hlen]; exact hI, hs.ent (.i (by repeat constructor))⟩⟩)
  have hple : p ≤ s.length := by omega
  rw [show s.length + 2 - p = s.length + 1 - p + 1 by omega, occGo, if_neg (by omega)] at hgo
  have hc := hmt p hple
  have hokp := hok.is p hple
  have hnp := hne p
  generalize mr p = me at hgo hc hokp hnp
  obtain ⟨spans, ok, steps, e⟩ := me
  dsimp only at hgo hc hokp hnp
  refine .go ?_; repeat constructor
  (apply EL.loadB; exact rfl; exact rfl; exact rfl; exact rfl; exact rfl; (case hm => repeat constructor); exact rfl)
  (apply EL.loadB; exact rfl; exact rfl; exact rfl; exact rfl; exact rfl; (case hm => repeat constructor); exact rfl)
  refine EL.move rfl rfl rfl ?_
  (refine EL.callMw rfl rfl rfl ent22 rfl hc (by repeat constructor) ?_; rintro ⟨xa, xc⟩)
  refine EL.move rfl rfl rfl ?_
  refine EL.extract rfl rfl rfl rfl ?_
  refine EL.extract rfl rfl rfl rfl ?_
  refine EL.extract rfl rfl rfl rfl ?_
  refine EL.assign rfl rfl rfl ?_
  refine EL.assign rfl rfl rfl ?_
  refine EL.assign rfl rfl rfl ?_
  refine .go ?_; repeat constructor
  refine .go ?_; repeat constructor
  refine EL.move rfl rfl rfl ?_
  refine EL.neqI rfl rfl rfl rfl ?_
  refine .go ?_; repeat constructor
  refine ES.condN rfl (fun hbad => ?_) (fun h0 => ?_)
  · rw [if_pos hbad] at hgo
    obtain ⟨hat, hdr⟩ := drop_head hgo.symm
    have hlt := (List.getElem?_eq_some_iff.1 hat).1
    have hlen := hend
    have hl1 : xs.length = i + 1 := by
      have := congrArg List.length hdr
      simp only [List.length_drop, List.length_nil] at this
      omega
    refine .go ?_; repeat constructor
    refine EL.move rfl rfl rfl ?_
    refine EL.move rfl rfl rfl ?_
    refine EL.nilRow 33 2 ?_
    refine EL.yieldX rfl rfl rfl rfl hY hI ⟨[], e, none, 0, hat, rfl, rfl⟩ (by repeat constructor) (by repeat constructor) (fun A' hI' => ?_) (fun A' hX' => ?_)
    · refine .go ?_; repeat constructor
      exact PX.ret rfl Try.results70 .nil (fun w hs => ⟨⟨_, rfl⟩, .inl ⟨A', by rw [hl1]; exact hI', hs.ent (.i (by repeat constructor))⟩⟩)
    · refine .go ?_; repeat constructor
      exact PX.ret rfl Try.results70 .nil (fun w hs => ⟨⟨_, rfl⟩, .inr ⟨_, A', hX', hs.ent (.i (by repeat constructor))⟩⟩)
  rw [if_neg (fun h => h h0)] at hgo
  cases ok with
  | false =>
    rw [if_pos rfl] at hgo
    have hlen := hend hgo.symm
    refine .go ?_; repeat constructor
    refine EL.move rfl rfl rfl ?_
    refine EL.not rfl rfl rfl ?_
    refine .go ?_; repeat constructor
    refine ES.condT rfl ?_
    refine .go ?_; repeat constructor
    exact PX.ret rfl Try.results70 .nil (fun w hs => ⟨⟨_, rfl⟩, .inl ⟨A, by rw [hlen]; exact hI, hs.ent (.i (by repeat constructor))⟩⟩)
  | true =>
    rw [if_neg (by simp)] at hgo
    obtain ⟨a, b, rest, rfl, hpa, hab, hbn⟩ := hokp h0 rfl
    dsimp only [List.headD_cons] at hgo
    refine .go ?_; repeat constructor
    refine EL.move rfl rfl rfl ?_
    refine EL.not rfl rfl rfl ?_
    refine .go ?_; repeat constructor
    refine ES.condF rfl ?_
    refine ES.know (P := ∃ g, xa = some ⟨g, 0, none⟩) (fun w hs => (row_form (hs.all (PRow xa xc (((a : Int), (b : Int)) :: rest)) (by simp))).2.2.2.2 (Nat.zero_lt_succ _)) ?_
    rintro ⟨xg, rfl⟩
    refine .go ?_; repeat constructor
    refine EL.move rfl rfl rfl ?_
    refine EL.indexAddrL (i := 0) rfl rfl rfl rfl rfl rfl rfl (Nat.zero_lt_succ _) ?_
    (refine EL.ofRV (RV.loadRA (spC ((a : Int), (b : Int))) rfl rfl rfl rfl (by repeat constructor) rfl) rfl rfl rfl (by intro c h; cases h) ?_)
    (refine EL.alloc rfl rfl rfl ?_; intro g9)
    (apply EL.storeAll; exact rfl; exact rfl; exact rfl; exact rfl; exact rfl; (case p => repeat constructor); exact rfl; (case h1 => exact (by first | rfl | exact all1 rfl | (intro u hu; simp only [List.mem_cons, List.not_mem_nil, or_false] at hu; rcases hu with rfl | rfl | rfl | rfl <;> rfl) | (intro u hu; simp at hu; rcases hu with rfl | rfl | rfl | rfl <;> rfl) | (intro u hu; simp at hu; rcases hu with rfl | rfl | rfl <;> rfl) | (intro u hu; simp at hu; rcases hu with rfl | rfl <;> rfl) | (intro u hu; simp at hu; obtain ⟨_, _, rfl⟩ := hu; rfl))))
    refine .go ?_; repeat constructor
    refine EL.cutX (X := Unit) (fun _ => [(0, .func (.yield l) #[] #[]), (1, Pv gs 0), (2, Pv gm 0), (4, Iv last), (5, Iv (p : Nat)), (6, .slice (some ⟨xg, 0, none⟩) (rest.length + 1) xc), (9, Pv g9 0), (42, .bool (decide ((a : Int) = b ∧ (b : Int) = last)))]) (fun _ => PRow (some ⟨xg, 0, none⟩) xc (((a : Int), (b : Int)) :: rest) :: HA.blk g9 (.cells (spC ((a : Int), (b : Int))).toArray 33) :: HA.blk gs (.cells #[Sv s] 9) :: HA.blk gm (.cells #[.pointer po] 39) :: Hm :: A :: R) ?_ (fun _ => ?_)
    · refine .go ?_; repeat constructor
      refine EL.fieldAddr rfl rfl rfl rfl rfl rfl rfl rfl ?_
      (apply EL.loadB; exact rfl; exact rfl; exact rfl; exact rfl; exact rfl; (case hm => repeat constructor); exact rfl)
      refine EL.fieldAddr rfl rfl rfl rfl rfl rfl rfl rfl ?_
      (apply EL.loadB; exact rfl; exact rfl; exact rfl; exact rfl; exact rfl; (case hm => repeat constructor); exact rfl)
      refine EL.eqlI rfl rfl rfl rfl ?_
      refine EL.move rfl rfl rfl ?_
      first | refine EL.splitD (d := 37) rfl (fun hp37 => ?_) (fun hp37 => ?_) | refine EL.splitN (d := 37) rfl (fun hp37 => ?_) (fun hp37 => ?_) | refine EL.splitB (d := 37) rfl (fun hp37 => ?_) (fun hp37 => ?_)
      · refine EL.fieldAddr rfl rfl rfl rfl rfl rfl rfl rfl ?_
        (apply EL.loadB; exact rfl; exact rfl; exact rfl; exact rfl; exact rfl; (case hm => repeat constructor); exact rfl)
        refine EL.move rfl rfl rfl ?_
        refine EL.eqlI rfl rfl rfl rfl ?_
        refine EL.pickT rfl rfl rfl rfl ?_
        exact EL.endX () ⟨rfl, rfl, rfl, rfl, rfl, rfl, rfl, getA rfl (congrArg Value.bool (by rw [Bool.eq_iff_iff]; simp_all)), trivial⟩ (.i (by repeat constructor))
      · refine EL.pass rfl rfl rfl ?_
        refine EL.pass rfl rfl rfl ?_
        refine EL.pass rfl rfl rfl ?_
        refine EL.pass rfl rfl rfl ?_
        refine EL.pickF rfl rfl rfl rfl ?_
        exact EL.endX () ⟨rfl, rfl, rfl, rfl, rfl, rfl, rfl, getA rfl (congrArg Value.bool (by rw [Bool.eq_iff_iff]; simp_all)), trivial⟩ (.i (by repeat constructor))
    refine ES.condD rfl (fun hsame => ?_) (fun hnew => ?_)
    · replace hgo := (if_pos hsame).symm.trans hgo
      refine .go ?_; repeat constructor
      refine EL.move rfl rfl rfl ?_
      refine EL.add1 rfl rfl rfl rfl (by omega) ?_
      refine EL.assign rfl rfl rfl ?_
      refine .go ?_; repeat constructor
      exact PX.loop (i, p + 1, last, A) ⟨by dsimp only; rw [show s.length + 2 - (p + 1) = s.length + 1 - p by omega]; exact hgo, hi, by simp only; omega, hI⟩ (by simp only; omega) ⟨rfl, rfl, rfl, rfl, rfl, trivial⟩ (.i (by repeat constructor))
    replace hgo := (if_neg hnew).symm.trans hgo
    obtain ⟨hat, hdr⟩ := drop_head hgo.symm
    have hlt := (List.getElem?_eq_some_iff.1 hat).1
    refine .go ?_; repeat constructor
    refine EL.move rfl rfl rfl ?_
    refine EL.move rfl rfl rfl ?_
    refine EL.yieldX rfl rfl rfl rfl hY hI ⟨_, 0, some ⟨xg, 0, none⟩, xc, hat, rfl, rfl⟩ (by repeat constructor) (by repeat constructor) (fun A' hI' => ?_) (fun A' hX' => ?_)
    · refine EL.not rfl rfl rfl ?_
      refine .go ?_; repeat constructor
      refine ES.condF rfl ?_
      refine .go ?_; repeat constructor
      refine EL.fieldAddr rfl rfl rfl rfl rfl rfl rfl rfl ?_
      (apply EL.loadB; exact rfl; exact rfl; exact rfl; exact rfl; exact rfl; (case hm => repeat constructor); exact rfl)
      refine EL.assign rfl rfl rfl ?_
      refine .go ?_; repeat constructor
      refine EL.fieldAddr rfl rfl rfl rfl rfl rfl rfl rfl ?_
      (apply EL.loadB; exact rfl; exact rfl; exact rfl; exact rfl; exact rfl; (case hm => repeat constructor); exact rfl)
      refine EL.assign rfl rfl rfl ?_
      refine .go ?_; repeat constructor
      refine EL.fieldAddr rfl rfl rfl rfl rfl rfl rfl rfl ?_
      (apply EL.loadB; exact rfl; exact rfl; exact rfl; exact rfl; exact rfl; (case hm => repeat constructor); exact rfl)
      refine EL.fieldAddr rfl rfl rfl rfl rfl rfl rfl rfl ?_
      (apply EL.loadB; exact rfl; exact rfl; exact rfl; exact rfl; exact rfl; (case hm => repeat constructor); exact rfl)
      refine EL.eqlI rfl rfl rfl rfl ?_
      refine .go ?_; repeat constructor
      refine ES.condD rfl (fun he => ?_) (fun hne2 => ?_)
      · have hf : occGo mr s.length (s.length + 1 - p) (b + 1) b = xs.drop (i + 1) := by
          rw [hdr]
          have he' : (a : Int) = b := he
          exact congrArg (fun q => occGo mr s.length (s.length + 1 - p) q (b : Int)) (if_pos he').symm
        refine .go ?_; repeat constructor
        refine EL.move rfl rfl rfl ?_
        refine EL.add1 rfl rfl rfl rfl (by omega) ?_
        refine EL.assign rfl rfl rfl ?_
        refine .go ?_; repeat constructor
        exact PX.loop (i + 1, b + 1, (b : Int), A') ⟨by dsimp only; rw [← hf]; exact occ_fuel hok _ _ _ _ (by omega) (by omega), by simp only; omega, by simp only; omega, hI'⟩ (by simp only; omega) ⟨rfl, rfl, rfl, rfl, rfl, trivial⟩ (.i (by repeat constructor))
      · have hf : occGo mr s.length (s.length + 1 - p) b b = xs.drop (i + 1) := by
          rw [hdr]
          have he' : ¬ (a : Int) = b := hne2
          exact congrArg (fun q => occGo mr s.length (s.length + 1 - p) q (b : Int)) (if_neg he').symm
        refine .go ?_; repeat constructor
        exact PX.loop (i + 1, b, (b : Int), A') ⟨by dsimp only; rw [← hf]; exact occ_fuel hok _ _ _ _ (by omega) (by omega), by simp only; omega, by simp only; omega, hI'⟩ (by simp only; omega) ⟨rfl, rfl, rfl, rfl, rfl, trivial⟩ (.i (by repeat constructor))
    · refine EL.not rfl rfl rfl ?_
      refine .go ?_; repeat constructor
      refine ES.condT rfl ?_
      refine .go ?_; repeat constructor
      exact PX.ret rfl Try.results70 .nil (fun w hs => ⟨⟨_, rfl⟩, .inr ⟨_, A', hX', hs.ent (.i (by repeat constructor))⟩⟩)
end Go.Proofs.Ytblpgpgbnlhjlaa
namespace Go.Proofs.Ytblpgpgbnlhjlaa
open Go Go.RowKit Sl
set_option maxRecDepth 100000
set_option maxHeartbeats 8000000
set_option linter.unusedVariables false
set_option linter.unusedSimpArgs false
attribute [local irreducible] ES EL PX wps

theorem occ_len {mr : Nat → MR} {n : Nat} : ∀ (f p : Nat) (last : Int), (occGo mr n f p last).length ≤ f
  | 0, _, _ => Nat.le_refl _
  | f + 1, p, last => by
    rw [occGo]
    split
    · simp
    · split
      · simp
      · split
        · simp
        · dsimp only
          split
          · exact Nat.le_trans (occ_len f _ _) (Nat.le_succ _)
          · simp only [List.length_cons]
            exact Nat.succ_le_succ (occ_len f _ _)
theorem occAll_c (po : Option Addr) (s : List UInt8) (w : World) : Pure Try.prog 48 #[.pointer po, Sv s] (fun x : Nat × Nat => .func (.func 70) #[] #[Pv x.1 0, Pv x.2 0]) (fun x => [HA.blk x.1 (.cells #[Sv s] 9), HA.blk x.2 (.cells #[.pointer po] 39)]) w := by
  refine calls_of_ES TB Try.func48 rfl _ Try.ntmps48 rfl (Sat.start w) ?_
  refine .gr ?_; repeat constructor
  (refine EL.box rfl rfl rfl ?_; intro g2)
  (refine EL.box rfl rfl rfl ?_; intro g3)
  refine EL.assign rfl rfl rfl ?_
  refine .gr ?_; repeat constructor
  refine EL.makeFunc rfl rfl rfl ?_
  refine EL.assign rfl rfl rfl ?_
  refine .gr ?_; repeat constructor
  exact PX.ret rfl Try.results48 (.cons (.tmp rfl) .nil) (fun w hs => ⟨(g3, g2), rfl, hs.ent (.i (by repeat constructor))⟩)
/-- A list of lists of spans: address, room, spans. -/
abbrev LsT := Option Addr × Nat × List Spn
def lsV (x : LsT) : Value := .slice x.1 x.2.2.length x.2.1
def lsR (x : LsT) : HA := PRow x.1 x.2.1 x.2.2
theorem lsR_add {w0 w : World} {B : Nat} {rs : List LsT} {x : LsT} {R : List HA} (h : Sat w0 B (lsR x :: HA.pack (rs.map lsR) :: R) w) : Sat w0 B (HA.pack ((rs ++ [x]).map lsR) :: R) w := by
  have h1 : Sat w0 B (HA.pack (rs.map lsR) :: (lsR x :: R)) w := h.perm (List.Perm.swap _ _ _)
  have h2 := h1.unpack
  rw [List.map_append]
  exact Sat.pack (by rw [List.append_assoc]; exact h2)
theorem mats_one {w0 w : World} {B g : Nat} {t : List UInt8} {st : Int} {R : List HA} (h : Sat w0 B (MB g t (meOf t) st :: R) w) : Sat w0 B (HA.mats [(g, t)] :: R) w :=
  Sat.matsIn (l := []) (r := []) ((Sat.mats0 h).perm (List.Perm.swap _ _ _))
theorem pack_nil {w0 w : World} {B : Nat} {R : List HA} (h : Sat w0 B R w) : Sat w0 B (HA.pack [] :: R) w := Sat.pack (Hs := []) h
theorem occList_c (t s : List UInt8) (hp : (parseM t).e = 0) (ht : t.length ≤ 4611686018427387904) (hb : (meOf t).back = false) (hsl : s.length ≤ 1048576) (mr : Nat → MR) (hmr : ∀ p : Nat, p ≤ s.length → ∃ F, setM F t s (p : Nat) = some (mr p)) (hok : McOk mr s.length) (he : ∀ p, (mr p).e = 0)
    (hall : ∀ x ∈ occL mr s.length, x.2 = 0) (most : Nat) (hlt : (occL mr s.length).length < most) (w : World) (hG : GR w w.heap.size) :
    Pure Try.prog 28 #[Sv t, Sv s, Iv (most : Nat)] (fun x : { x : (Option Addr × Nat) × List LsT // x.2.map (fun y => y.2.2) = (occL mr s.length).map Prod.fst } => .tuple #[.slice x.1.1.1 x.1.2.length x.1.1.2, Iv 0])
      (fun x => [HA.row (.slice x.1.1.1 x.1.2.length x.1.1.2) 28 1 x.1.2.length (x.1.2.map lsV), HA.pack (x.1.2.map lsR)]) w := by
  refine calls_of_ESM TB Try.func28 rfl _ Try.ntmps28 rfl (Sat.start w) ?_
  refine .gr ?_; repeat constructor
  (refine EL.box rfl rfl rfl ?_; intro g5)
  (refine EL.alloc rfl rfl rfl ?_; intro g6)
  (refine EL.alloc rfl rfl rfl ?_; intro g7)
  refine .gr ?_; repeat constructor
  refine EL.move rfl rfl rfl ?_
  (refine EL.callXw rfl rfl rfl ent36 rfl (fun w hs => newOk_c t hp ht w (GR.sat hG hs)) ?_; intro gmt)
  refine EL.move rfl rfl rfl ?_
  refine EL.extract rfl rfl rfl rfl ?_
  refine EL.extract rfl rfl rfl rfl ?_
  (refine EL.alloc rfl rfl rfl ?_; intro g9)
  refine EL.assign rfl rfl rfl ?_
  (apply EL.storeAll; exact rfl; exact rfl; exact rfl; exact rfl; exact rfl; (case p => repeat constructor); exact rfl; (case h1 => exact (by first | rfl | exact all1 rfl | (intro u hu; simp only [List.mem_cons, List.not_mem_nil, or_false] at hu; rcases hu with rfl | rfl | rfl | rfl <;> rfl) | (intro u hu; simp at hu; rcases hu with rfl | rfl | rfl | rfl <;> rfl) | (intro u hu; simp at hu; rcases hu with rfl | rfl | rfl <;> rfl) | (intro u hu; simp at hu; rcases hu with rfl | rfl <;> rfl) | (intro u hu; simp at hu; obtain ⟨_, _, rfl⟩ := hu; rfl))))
  refine .gr ?_; repeat constructor
  refine .gr ?_; repeat constructor
  refine EL.fieldAddr rfl rfl rfl rfl rfl rfl rfl rfl ?_
  (apply EL.loadB; exact rfl; exact rfl; exact rfl; exact rfl; exact rfl; (case hm => repeat constructor); exact rfl)
  refine EL.neqI rfl rfl rfl rfl ?_
  refine .gr ?_; repeat constructor
  refine ES.condF rfl ?_
  refine .gr ?_; repeat constructor
  (apply EL.loadB; exact rfl; exact rfl; exact rfl; exact rfl; exact rfl; (case hm => repeat constructor); exact rfl)
  refine EL.lss rfl rfl rfl rfl ?_
  refine .gr ?_; repeat constructor
  refine ES.condD rfl (fun h => absurd h (by omega)) (fun _ => ?_)
  refine .gr ?_; repeat constructor
  (refine EL.alloc rfl rfl rfl ?_; intro g10)
  refine .gr ?_; repeat constructor
  (apply EL.loadB; exact rfl; exact rfl; exact rfl; exact rfl; exact rfl; (case hm => repeat constructor); exact rfl)
  refine EL.eqlI rfl rfl rfl rfl ?_
  refine .gr ?_; repeat constructor
  refine ES.condD rfl (fun h => absurd h (by omega)) (fun _ => ?_)
  refine .gr ?_; repeat constructor
  refine EL.move rfl rfl rfl ?_
  refine EL.move rfl rfl rfl ?_
  (refine EL.callX rfl rfl rfl ent48 rfl (occAll_c _ s) ?_; rintro ⟨gs, gm⟩)
  refine .gr ?_; repeat constructor
  refine ES.imp (H' := HA.pack ([] : List HA) :: HA.mats [(gmt, t)] :: HA.blk gs (.cells #[Sv s] 9) :: HA.blk gm (.cells #[Pv gmt 0] 39) :: HA.blk g10 (.cells #[.slice none 0 0] 45) :: HA.blk g5 (.cells #[Iv (most : Nat)] 3) :: HA.blk g6 (.cells #[.slice none 0 0] 45) :: HA.blk g7 (.cells #[Iv 0] 23) :: []) (fun w hs => pack_nil (mats_one (st := 0) (hs.ent (.i (by repeat constructor))))) ?_
  refine ES.nilRow 28 1 ?_
  obtain ⟨xs, hxs⟩ : ∃ xs, xs = occL mr s.length := ⟨_, rfl⟩
  have hmt : ∀ p : Nat, p ≤ s.length → MutAt Try.prog 22 #[Pv gmt 0, Sv s, Iv (p : Nat)] [HA.mats [(gmt, t)]] (mrV (mr p)) (fun x => [PRow x.1 x.2 (mr p).spans, HA.mats [(gmt, t)]]) w w.heap.size := fun p hp => by
    obtain ⟨F, hF⟩ := hmr p hp
    exact matchMats_c F [(gmt, t)] (gmt, t) (by simp) ht hb s _ _ hF w _ hG
  have hit := occ1_iter gs gm s (by omega) (some ⟨gmt, 0, none⟩) (HA.mats [(gmt, t)]) mr hok w w.heap.size hmt (fun p hp => absurd (he p) hp)
  have hxl : xs.length ≤ s.length + 2 := by rw [hxs]; exact occ_len _ _ _
  rw [← hxs] at hall hlt hit
  refine ES.rangeFuncX (σ := (Option Addr × Nat) × List LsT) (τ := Unit) (fun i z => z.2.length = i ∧ i ≤ xs.length ∧ z.2.map (fun y => y.2.2) = (xs.take i).map Prod.fst)
    (fun z => [HA.blk g10 (.cells #[.slice z.1.1 z.2.length z.1.2] 45), HA.row (.slice z.1.1 z.2.length z.1.2) 28 1 z.2.length (z.2.map lsV), HA.pack (z.2.map lsR), HA.blk g5 (.cells #[Iv (most : Nat)] 3)]) (fun _ _ _ => False) (fun _ => []) ((none, 0), []) ⟨rfl, Nat.zero_le _, rfl⟩
    rfl rfl ent70 hit (by repeat constructor) (by repeat constructor) (by rintro i x G ⟨l, e, ad, cap, _, rfl, rfl⟩; rfl) rfl ?_ (fun D z hz => ?_) (fun D c i z h => h.elim)
  · rintro l i ⟨⟨ad, cap⟩, rs⟩ x G R1 ⟨hi, hle, hmap⟩ ⟨sp, e, ad', cap', hx, rfl, rfl⟩
    dsimp only at hi hle hmap ⊢
    have hlt2 : i < xs.length := (List.getElem?_eq_some_iff.1 hx).1
    have he0 : e = 0 := hall (sp, e) (List.mem_of_getElem? hx)
    subst he0
    have htk : xs.take (i + 1) = xs.take i ++ [(sp, 0)] := by
      rw [List.take_succ_eq_append_getElem hlt2, (List.getElem?_eq_some_iff.1 hx).2]
    refine .gr ?_; repeat constructor
    refine EL.assign rfl rfl rfl ?_
    refine .gr ?_; repeat constructor
    refine EL.assign rfl rfl rfl ?_
    refine .gr ?_; repeat constructor
    refine PX.assigned [(11, .slice ad' sp.length cap'), (12, Iv 0), (10, Pv g10 0), (5, Pv g5 0)] [HA.blk g10 (.cells #[.slice ad rs.length cap] 45), HA.row (.slice ad rs.length cap) 28 1 rs.length (rs.map lsV), HA.pack (rs.map lsR), HA.blk g5 (.cells #[Iv (most : Nat)] 3), lsR (ad', cap', sp)] ⟨rfl, rfl, rfl, rfl, trivial⟩ (.i (by repeat constructor)) (fun R2 => ?_)
    refine ES.imp (H' := HA.pack ((rs ++ [(ad', cap', sp)]).map lsR) :: HA.blk g10 (.cells #[.slice ad rs.length cap] 45) :: HA.row (.slice ad rs.length cap) 28 1 rs.length (rs.map lsV) :: HA.blk g5 (.cells #[Iv (most : Nat)] 3) :: R2) (fun w hs => lsR_add (hs.ent (.i (by repeat constructor)))) ?_
    refine .gr ?_; repeat constructor
    refine EL.move rfl rfl rfl ?_
    refine EL.neqI rfl rfl rfl rfl ?_
    refine .gr ?_; repeat constructor
    refine ES.condF rfl ?_
    refine .gr ?_; repeat constructor
    (apply EL.loadB; exact rfl; exact rfl; exact rfl; exact rfl; exact rfl; (case hm => repeat constructor); exact rfl)
    refine EL.move rfl rfl rfl ?_
    (refine EL.buildSlice1 rfl rfl rfl rfl rfl rfl rfl rfl rfl rfl ?_; intro b37)
    (refine EL.append1 rfl rfl rfl rfl rfl rfl rfl rfl rfl (by repeat constructor) (by repeat constructor) (by first | (intro u hu; simp [Value.cells] at hu; subst hu; rfl) | exact all1 rfl) (by rfl) (by unfold maxLen; omega) (by first | omega | (show 1 * _ ≤ _; omega) | (show 8 * _ ≤ _; omega) | (show 16 * _ ≤ _; omega) | (show 24 * _ ≤ _; omega) | (show _ * 1 ≤ _; omega) | (show _ * 8 ≤ _; omega) | (show _ * 16 ≤ _; omega) | (show _ * 24 ≤ _; omega) | exact Nat.le_trans (Nat.mul_le_mul_right _ (show _ ≤ 1073741824 by omega)) (by decide)) ?_; intro a38 c38)
    (apply EL.storeB; exact rfl; exact rfl; exact rfl; exact rfl; exact rfl; exact rfl; (case p => repeat constructor); exact (by first | decide | exact Nat.le_of_ble_eq_true rfl | simp))
    refine .gr ?_; repeat constructor
    (apply EL.loadB; exact rfl; exact rfl; exact rfl; exact rfl; exact rfl; (case hm => repeat constructor); exact rfl)
    refine EL.lenL rfl rfl rfl rfl rfl ?_
    (apply EL.loadB; exact rfl; exact rfl; exact rfl; exact rfl; exact rfl; (case hm => repeat constructor); exact rfl)
    refine EL.eqlI rfl rfl rfl rfl ?_
    refine .gr ?_; repeat constructor
    refine ES.condD rfl (fun h => absurd h (by omega)) (fun _ => ?_)
    refine .gr ?_; repeat constructor
    refine PX.round ((some ⟨a38, 0, none⟩, c38), rs ++ [(ad', cap', sp)]) ⟨by simp [hi], by omega, by rw [htk, List.map_append, List.map_append, hmap]; rfl⟩ ?_
    dsimp only
    rw [List.length_append, List.map_append (f := lsV)]
    exact (.i (by repeat constructor))
  · obtain ⟨⟨ad, cap⟩, rs⟩ := z
    obtain ⟨hi, _, hmap⟩ := hz
    dsimp only at hi hmap ⊢
    rw [List.take_length] at hmap
    refine .gr ?_; repeat constructor
    (apply EL.loadB; exact rfl; exact rfl; exact rfl; exact rfl; exact rfl; (case hm => repeat constructor); exact rfl)
    (apply EL.storeB; exact rfl; exact rfl; exact rfl; exact rfl; exact rfl; exact rfl; (case p => repeat constructor); exact (by first | decide | exact Nat.le_of_ble_eq_true rfl | simp))
    (apply EL.storeB; exact rfl; exact rfl; exact rfl; exact rfl; exact rfl; exact rfl; (case p => repeat constructor); exact (by first | decide | exact Nat.le_of_ble_eq_true rfl | simp))
    refine .gr ?_; repeat constructor
    exact PX.retM [D] rfl (by repeat constructor) Try.results28 (.cons (.blk1 rfl rfl rfl (by repeat constructor) rfl) (.cons (.blk1 rfl rfl rfl (by repeat constructor) rfl) .nil)) (fun w hs => ⟨⟨((ad, cap), rs), by rw [hmap, hxs]⟩, rfl, hs.ent (.i (by repeat constructor))⟩)
end Go.Proofs.Ytblpgpgbnlhjlaa
namespace Go.Proofs.Ytblpgpgbnlhjlaa
open Go Go.RowKit Sl
set_option maxRecDepth 100000
set_option maxHeartbeats 8000000
set_option linter.unusedVariables false
set_option linter.unusedSimpArgs false
attribute [local irreducible] ES EL PX wps

theorem spsK_get : ∀ (l : List Spn) (i : Nat) (r : Spn), l[i]? = some r → ∀ j u, (spC r)[j]? = some u → (spsC l)[i * 2 + j]? = some u
  | [], i, r, h, _, _, _ => by simp at h
  | r' :: l, 0, r, h, j, u, hj => by
    simp only [List.getElem?_cons_zero, Option.some.injEq] at h
    subst h
    have hlt := (List.getElem?_eq_some_iff.1 hj).1
    rw [Nat.zero_mul, Nat.zero_add]
    show (spC r' ++ spsC l)[j]? = some u
    rw [List.getElem?_append_left hlt]; exact hj
  | r' :: l, i + 1, r, h, j, u, hj => by
    simp only [List.getElem?_cons_succ] at h
    have ih := spsK_get l i r h j u hj
    have hl : (spC r').length = 2 := rfl
    show (spC r' ++ spsC l)[(i + 1) * 2 + j]? = some u
    rw [List.getElem?_append_right (by omega), show (i + 1) * 2 + j - (spC r').length = i * 2 + j by omega]
    exact ih
theorem same08_k (xs : List Spn) (ad1 ad2 : Option Addr) (cap1 cap2 : Nat) (hlen : xs.length ≤ 4611686018427387904) (w : World) (h1 : Rd w w.heap.size ad1 (spsC xs)) (h2 : Rd w w.heap.size ad2 (spsC xs)) :
    Pure Try.prog 19 #[.slice ad1 xs.length cap1, .slice ad2 xs.length cap2] (fun _ : Unit => .bool true) (fun _ => []) w := by
  have hl := spsC_len xs
  refine calls_of_ES TB Try.func19 rfl _ Try.ntmps19 rfl (Sat.start w) ?_
  refine .gr ?_; repeat constructor
  refine EL.assign rfl rfl rfl ?_
  refine .gr ?_; repeat constructor
  refine EL.move rfl rfl rfl ?_
  refine EL.lenL rfl rfl rfl rfl rfl ?_
  refine EL.move rfl rfl rfl ?_
  refine EL.lenL rfl rfl rfl rfl rfl ?_
  refine EL.neqI rfl rfl rfl rfl ?_
  refine .gr ?_; repeat constructor
  refine ES.condN rfl (fun h => absurd rfl h) (fun _ => ?_)
  refine .gr ?_; repeat constructor
  refine EL.assign rfl rfl rfl ?_
  refine .gr ?_; repeat constructor
  refine ES.loop (σ := Nat) (fun i => i ≤ xs.length) (fun i => [(0, .slice ad1 xs.length cap1), (1, .slice ad2 xs.length cap2), (5, Iv (i : Nat))]) (fun _ => []) (fun i => xs.length - i) 0 (Nat.zero_le _) ⟨rfl, rfl, rfl, trivial⟩ (.i (by repeat constructor)) ?_
  intro i hi
  refine .gr ?_; repeat constructor
  refine EL.move rfl rfl rfl ?_
  refine EL.move rfl rfl rfl ?_
  refine EL.lenL rfl rfl rfl rfl rfl ?_
  refine EL.lss rfl rfl rfl rfl ?_
  refine .gr ?_; repeat constructor
  refine ES.condD rfl (fun hlt => ?_) (fun hge => ?_)
  · have hlt' : i < xs.length := by omega
    obtain ⟨p, hp⟩ : ∃ p, xs[i]? = some p := ⟨_, List.getElem?_eq_getElem hlt'⟩
    have hne : spsC xs ≠ [] := fun e => by rw [e] at hl; simp at hl; omega
    obtain ⟨g1, o1, rfl, _⟩ := h1 hne
    obtain ⟨g2, o2, rfl, _⟩ := h2 hne
    refine .gs ?_; repeat constructor
    refine ES.draw (X := Unit) (fun _ => [(0, .slice (some ⟨g1, o1, none⟩) xs.length cap1), (1, .slice (some ⟨g2, o2, none⟩) xs.length cap2), (5, Iv (i : Nat)), (25, .bool false)]) (fun _ => []) [] mixed (.i (by repeat constructor)) ?_ (fun _ => ?_)
    · refine ED.take 0 rfl (by decide +kernel) CutX.no_panic (by decide +kernel) rfl rfl rfl (RV.move rfl) ?_
      refine ED.take 1 rfl (by decide +kernel) CutX.no_panic (by decide +kernel) rfl rfl rfl (RV.move rfl) ?_
      refine ED.take 2 rfl (by decide +kernel) CutX.no_panic (by decide +kernel) rfl rfl rfl (RV.indexAddrL rfl rfl rfl rfl rfl (by omega)) ?_
      refine ED.take 3 rfl (by decide +kernel) CutX.no_panic (by decide +kernel) rfl rfl rfl (RV.loadOldA (j := i * 2) (vs := spC p) rfl rfl rfl rfl (by simp [spC]) h1 (spsK_get xs i p hp)) ?_
      refine ED.take 4 rfl (by decide +kernel) CutX.no_panic (by decide +kernel) rfl rfl rfl (RV.move rfl) ?_
      refine ED.take 5 rfl (by decide +kernel) CutX.no_panic (by decide +kernel) rfl rfl rfl (RV.move rfl) ?_
      refine ED.take 6 rfl (by decide +kernel) CutX.no_panic (by decide +kernel) rfl rfl rfl (RV.indexAddrL rfl rfl rfl rfl rfl (by omega)) ?_
      refine ED.take 7 rfl (by decide +kernel) CutX.no_panic (by decide +kernel) rfl rfl rfl (RV.loadOldA (j := i * 2) (vs := spC p) rfl rfl rfl rfl (by simp [spC]) h2 (spsK_get xs i p hp)) ?_
      refine ED.take 8 rfl (by decide +kernel) CutX.no_panic (by decide +kernel) rfl rfl rfl (RV.neqAgg (b := true) rfl rfl eqg33 (fun w => (run_equal_st2 TB rfl rfl sth33 rfl rfl rfl rfl rfl rfl rfl rfl p.1 p.2 p.1 p.2 w).trans (by simp))) ?_
      refine ED.done (by decide +kernel) ?_
      exact PX.cutX () ⟨rfl, rfl, rfl, rfl, trivial⟩ (.i (by repeat constructor))
    refine ES.condF rfl ?_
    refine .gr ?_; repeat constructor
    refine EL.move rfl rfl rfl ?_
    refine EL.add1 rfl rfl rfl rfl (by omega) ?_
    refine EL.assign rfl rfl rfl ?_
    refine .gr ?_; repeat constructor
    exact PX.loop (i + 1) (by omega) (by omega) ⟨rfl, rfl, rfl, trivial⟩ (.i (by repeat constructor))
  refine .gr ?_; repeat constructor
  refine EL.assign rfl rfl rfl ?_
  refine .gr ?_; repeat constructor
  exact PX.ret rfl Try.results19 (.cons (.tmp rfl) .nil) (fun w hs => ⟨(), rfl, hs.ent (.i (by repeat constructor))⟩)
theorem rd_mem {w0 w : World} {B n cap sz e : Nat} {H : List HA} {ad : Option Addr} {cs : List Value} (hs : Sat w0 B H w) (hm : HA.row (.slice ad n cap) e sz n cs ∈ H) (hsz : 0 < sz) : Rd w w.heap.size ad cs := by
  intro hne
  have hf := row_form (hs.all _ hm)
  have hpos : 0 < n := by
    rcases Nat.eq_zero_or_pos n with h0 | h0
    · subst h0; exact absurd (List.eq_nil_of_length_eq_zero (by simpa using hf.2.2.2.1)) hne
    · exact h0
  obtain ⟨g, rfl⟩ := hf.2.2.2.2 hpos
  have hlt := (hs.lo g (List.mem_flatMap.2 ⟨_, hm, by simp [HA.row, Value.ownBlock]⟩)).2
  exact ⟨g, 0, rfl, hlt, fun j v hj => by rw [Nat.zero_add]; exact row_cell (hs.all _ hm) j v hj⟩
theorem rd_pack {w0 w : World} {B : Nat} {rs : List LsT} {R : List HA} (hs : Sat w0 B (HA.pack (rs.map lsR) :: R) w) : ∀ y ∈ rs, Rd w w.heap.size y.1 (spsC y.2.2) := fun y hy =>
  rd_mem hs.unpack (List.mem_append.2 (.inl (List.mem_map.2 ⟨y, hy, rfl⟩))) (by decide)
theorem same12_c (r1 r2 : List LsT) (ad1 ad2 : Option Addr) (cap1 cap2 : Nat) (heq : r1.map (fun y => y.2.2) = r2.map (fun y => y.2.2)) (hlen : r1.length ≤ 4611686018427387904) (hin : ∀ y ∈ r1, y.2.2.length ≤ 4611686018427387904) (w : World) (h1 : Rd w w.heap.size ad1 (r1.map lsV)) (h2 : Rd w w.heap.size ad2 (r2.map lsV))
    (g1 : ∀ y ∈ r1, Rd w w.heap.size y.1 (spsC y.2.2)) (g2 : ∀ y ∈ r2, Rd w w.heap.size y.1 (spsC y.2.2)) :
    Pure Try.prog 47 #[.slice ad1 r1.length cap1, .slice ad2 r2.length cap2] (fun _ : Unit => .bool true) (fun _ => []) w := by
  have hl : r1.length = r2.length := by simpa using congrArg List.length heq
  refine calls_of_ES TB Try.func47 rfl _ Try.ntmps47 rfl (Sat.start w) ?_
  refine .gr ?_; repeat constructor
  refine EL.assign rfl rfl rfl ?_
  refine .gr ?_; repeat constructor
  refine EL.move rfl rfl rfl ?_
  refine EL.lenL rfl rfl rfl rfl rfl ?_
  refine EL.move rfl rfl rfl ?_
  refine EL.lenL rfl rfl rfl rfl rfl ?_
  refine EL.neqI rfl rfl rfl rfl ?_
  refine .gr ?_; repeat constructor
  refine ES.condN rfl (fun h => absurd (by rw [hl] : ((r1.length : Nat) : Int) = (r2.length : Nat)) h) (fun _ => ?_)
  refine .gr ?_; repeat constructor
  refine EL.assign rfl rfl rfl ?_
  refine .gr ?_; repeat constructor
  refine ES.loop (σ := Nat) (fun i => i ≤ r1.length) (fun i => [(0, .slice ad1 r1.length cap1), (1, .slice ad2 r2.length cap2), (5, Iv (i : Nat))]) (fun _ => []) (fun i => r1.length - i) 0 (Nat.zero_le _) ⟨rfl, rfl, rfl, trivial⟩ (.i (by repeat constructor)) ?_
  intro i hi
  refine .gr ?_; repeat constructor
  refine EL.move rfl rfl rfl ?_
  refine EL.move rfl rfl rfl ?_
  refine EL.lenL rfl rfl rfl rfl rfl ?_
  refine EL.lss rfl rfl rfl rfl ?_
  refine .gr ?_; repeat constructor
  refine ES.condD rfl (fun hlt => ?_) (fun hge => ?_)
  · have hlt' : i < r1.length := by omega
    obtain ⟨p, hp⟩ : ∃ p, r1[i]? = some p := ⟨_, List.getElem?_eq_getElem hlt'⟩
    obtain ⟨q, hq⟩ : ∃ q, r2[i]? = some q := ⟨_, List.getElem?_eq_getElem (by omega)⟩
    have hpq : p.2.2 = q.2.2 := by
      have := congrArg (fun l => l[i]?) heq
      simpa [List.getElem?_map, hp, hq] using this
    have hpm := List.mem_of_getElem? hp
    have hqm := List.mem_of_getElem? hq
    have hc1 : (r1.map lsV)[i]? = some (lsV p) := by rw [List.getElem?_map, hp]; rfl
    have hc2 : (r2.map lsV)[i]? = some (lsV q) := by rw [List.getElem?_map, hq]; rfl
    have gp := g1 p hpm
    have gq := g2 q hqm
    have hpl := hin p hpm
    obtain ⟨pa, pc, ps⟩ := p
    obtain ⟨qa, qc, qs⟩ := q
    dsimp only at hpq gp gq hpl
    subst hpq
    obtain ⟨b1, o1, rfl, _⟩ := h1 (fun e => by rw [e] at hc1; cases hc1)
    obtain ⟨b2, o2, rfl, _⟩ := h2 (fun e => by rw [e] at hc2; cases hc2)
    refine .gs ?_; repeat constructor
    refine ES.draw (X := Unit) (fun _ => [(0, .slice (some ⟨b1, o1, none⟩) r1.length cap1), (1, .slice (some ⟨b2, o2, none⟩) r2.length cap2), (5, Iv (i : Nat)), (26, .bool false)]) (fun _ => []) [] mixed (.i (by repeat constructor)) ?_ (fun _ => ?_)
    · refine ED.take 0 rfl (by decide +kernel) CutX.no_panic (by decide +kernel) rfl rfl rfl (RV.move rfl) ?_
      refine ED.take 1 rfl (by decide +kernel) CutX.no_panic (by decide +kernel) rfl rfl rfl (RV.move rfl) ?_
      refine ED.take 2 rfl (by decide +kernel) CutX.no_panic (by decide +kernel) rfl rfl rfl (RV.indexAddrL rfl rfl rfl rfl rfl (by omega)) ?_
      refine ED.take 3 rfl (by decide +kernel) CutX.no_panic (by decide +kernel) rfl rfl rfl (RV.loadOld (j := i * 1) rfl rfl rfl h1 (by rw [Nat.mul_one]; exact hc1)) ?_
      refine ED.take 4 rfl (by decide +kernel) CutX.no_panic (by decide +kernel) rfl rfl rfl (RV.move rfl) ?_
      refine ED.take 5 rfl (by decide +kernel) CutX.no_panic (by decide +kernel) rfl rfl rfl (RV.move rfl) ?_
      refine ED.take 6 rfl (by decide +kernel) CutX.no_panic (by decide +kernel) rfl rfl rfl (RV.indexAddrL rfl rfl rfl rfl rfl (by omega)) ?_
      refine ED.take 7 rfl (by decide +kernel) CutX.no_panic (by decide +kernel) rfl rfl rfl (RV.loadOld (j := i * 1) rfl rfl rfl h2 (by rw [Nat.mul_one]; exact hc2)) ?_
      refine ED.loud 8 rfl (by decide +kernel) ?_
      refine EL.callPw rfl rfl rfl ent19 rfl (fun w hs => same08_k ps pa qa pc qc hpl w (gp.sat hs) (gq.sat hs)) ?_
      refine ED.next (.i (by repeat constructor)) ?_
      refine ED.take 9 rfl (by decide +kernel) CutX.no_panic (by decide +kernel) rfl rfl rfl (RV.not rfl) ?_
      refine ED.done (by decide +kernel) ?_
      exact PX.cutX () ⟨rfl, rfl, rfl, rfl, trivial⟩ (.i (by repeat constructor))
    refine ES.condF rfl ?_
    refine .gr ?_; repeat constructor
    refine EL.move rfl rfl rfl ?_
    refine EL.add1 rfl rfl rfl rfl (by omega) ?_
    refine EL.assign rfl rfl rfl ?_
    refine .gr ?_; repeat constructor
    exact PX.loop (i + 1) (by omega) (by omega) ⟨rfl, rfl, rfl, trivial⟩ (.i (by repeat constructor))
  refine .gr ?_; repeat constructor
  refine EL.assign rfl rfl rfl ?_
  refine .gr ?_; repeat constructor
  exact PX.ret rfl Try.results47 (.cons (.tmp rfl) .nil) (fun w hs => ⟨(), rfl, hs.ent (.i (by repeat constructor))⟩)
/-! the law's example -/
def mrA (p : Nat) : MR := if p ≤ 4 then (setM 60 [97, 42] [98, 97, 97, 99] (p : Nat)).getD ⟨[], false, 0, 0⟩ else ⟨[], false, 0, 0⟩
theorem mrA_some (p : Nat) (hp : p ≤ 4) : setM 60 [97, 42] [98, 97, 97, 99] (p : Nat) = some (mrA p) := by
  have h : ∀ p, p ≤ 4 → (setM 60 [97, 42] [98, 97, 97, 99] (p : Nat)).isSome = true := by decide +kernel
  obtain ⟨m, hm⟩ := Option.isSome_iff_exists.1 (h p hp)
  unfold mrA
  rw [if_pos hp, hm]; rfl
theorem mrA_e (p : Nat) : (mrA p).e = 0 := by
  have h : ∀ p, p ≤ 4 → (mrA p).e = 0 := by decide +kernel
  by_cases hp : p ≤ 4
  · exact h p hp
  · unfold mrA; rw [if_neg hp]
theorem mrA_ok : McOk mrA 4 := ⟨fun p hp _ _ => by
  match p, hp with
  | 0, _ => exact ⟨0, 0, [], by decide +kernel, by omega, by omega, by omega⟩
  | 1, _ => exact ⟨1, 3, [], by decide +kernel, by omega, by omega, by omega⟩
  | 2, _ => exact ⟨2, 3, [], by decide +kernel, by omega, by omega, by omega⟩
  | 3, _ => exact ⟨3, 3, [], by decide +kernel, by omega, by omega, by omega⟩
  | 4, _ => exact ⟨4, 4, [], by decide +kernel, by omega, by omega, by omega⟩⟩
theorem mrA_l : (occL mrA 4).map Prod.fst = [[(0, 0)], [(1, 3)], [(4, 4)]] ∧ ∀ x ∈ occL mrA 4, x.2 = 0 := by
  constructor
  · decide +kernel
  · decide +kernel
theorem rd_packM {w0 w : World} {B : Nat} {rs : List LsT} {H : List HA} (hs : Sat w0 B H w) (hm : HA.pack (rs.map lsR) ∈ H) : ∀ y ∈ rs, Rd w w.heap.size y.1 (spsC y.2.2) := by
  intro y hy hne
  have hA : (lsR y).holds w := hs.all _ hm (lsR y) (List.mem_map.2 ⟨y, hy, rfl⟩)
  have hf := row_form hA
  have hpos : 0 < y.2.2.length := by
    rcases Nat.eq_zero_or_pos y.2.2.length with h0 | h0
    · have h1 := hf.2.2.2.1
      rw [h0, Nat.zero_mul] at h1
      exact absurd (List.eq_nil_of_length_eq_zero h1) hne
    · exact h0
  obtain ⟨g, hg⟩ := hf.2.2.2.2 hpos
  have hlt := (hs.lo g (List.mem_flatMap.2 ⟨_, hm, List.mem_flatMap.2 ⟨lsR y, List.mem_map.2 ⟨y, hy, rfl⟩, by simp [lsR, HA.row, hg, Value.ownBlock]⟩⟩)).2
  exact ⟨g, 0, hg, hlt, fun j v hj => by
    rw [Nat.zero_add]
    obtain ⟨ya, yc, ys⟩ := y
    dsimp only at hg
    subst hg
    exact row_cell hA j v hj⟩
theorem awake12_c (w : World) (hG : GR w w.heap.size) : Pure Try.prog 27 #[] (fun _ : Unit => .bool true) (fun _ => []) w := by
  have hc := fun w hG => occList_c [97, 42] [98, 97, 97, 99] (by decide +kernel) (by decide) (by decide +kernel) (by decide) mrA (fun p hp => ⟨60, mrA_some p hp⟩) mrA_ok mrA_e mrA_l.2 9 (by decide +kernel) w hG
  have hm := mrA_l.1
  rw [show ([98, 97, 97, 99] : List UInt8).length = 4 from rfl] at hc
  rw [hm] at hc
  refine calls_of_ES TB Try.func27 rfl _ Try.ntmps27 rfl (Sat.start w) ?_
  refine .gr ?_; repeat constructor
  refine EL.assign rfl rfl rfl ?_
  refine .gr ?_; repeat constructor
  (refine EL.callXw rfl rfl rfl ent28 rfl (fun w hs => hc w (GR.sat hG hs)) ?_; rintro ⟨⟨⟨ad, cap⟩, rs⟩, hrs⟩)
  refine EL.move rfl rfl rfl ?_
  refine EL.extract rfl rfl rfl rfl ?_
  refine EL.extract rfl rfl rfl rfl ?_
  refine EL.assign rfl rfl rfl ?_
  refine EL.assign rfl rfl rfl ?_
  refine .gr ?_; repeat constructor
  dsimp only at hrs ⊢
  refine .gr ?_; repeat constructor
  (apply EL.build2; exact rfl; exact rfl; exact rfl; exact rfl; exact rfl; exact rfl; exact rfl; exact rfl; exact rfl; exact rfl)
  (refine EL.buildSliceC (spsC [(0, 0)]).toArray rfl rfl rfl rfl rfl rfl (by kernel_rfl) rfl rfl rfl rfl ?_; intro b9)
  (apply EL.build2; exact rfl; exact rfl; exact rfl; exact rfl; exact rfl; exact rfl; exact rfl; exact rfl; exact rfl; exact rfl)
  (refine EL.buildSliceC (spsC [(1, 3)]).toArray rfl rfl rfl rfl rfl rfl (by kernel_rfl) rfl rfl rfl rfl ?_; intro b11)
  (apply EL.build2; exact rfl; exact rfl; exact rfl; exact rfl; exact rfl; exact rfl; exact rfl; exact rfl; exact rfl; exact rfl)
  (refine EL.buildSliceC (spsC [(4, 4)]).toArray rfl rfl rfl rfl rfl rfl (by kernel_rfl) rfl rfl rfl rfl ?_; intro b13)
  (refine EL.buildSliceS [.slice (some ⟨b9, 0, none⟩) 1 1, .slice (some ⟨b11, 0, none⟩) 1 1, .slice (some ⟨b13, 0, none⟩) 1 1] rfl rfl rfl rfl rfl rfl rfl rfl rfl rfl (by intro u hu; simp at hu; rcases hu with rfl | rfl | rfl <;> rfl) ?_; intro b14)
  refine EL.assign rfl rfl rfl ?_
  refine .gr ?_; repeat constructor
  have hlen : rs.length = 3 := by simpa using congrArg List.length hrs
  have hin : ∀ y ∈ rs, y.2.2.length ≤ 4611686018427387904 := fun y hy => by
    have h : y.2.2 ∈ ([[(0, 0)], [(1, 3)], [(4, 4)]] : List (List Spn)) := by rw [← hrs]; exact List.mem_map_of_mem hy
    simp only [List.mem_cons, List.not_mem_nil, or_false] at h
    rcases h with h | h | h <;> rw [h] <;> decide
  refine .gr ?_; repeat constructor
  refine EL.move rfl rfl rfl ?_
  refine EL.eqlI rfl rfl rfl rfl ?_
  refine EL.move rfl rfl rfl ?_
  refine EL.rew (d := 17) (v' := .bool true) rfl (by first | rfl | (decide) | (simp)) ?_
  refine EL.move rfl rfl rfl ?_
  refine EL.move rfl rfl rfl ?_
  refine EL.callPw rfl rfl rfl ent47 rfl (fun w hs => same12_c rs [(some ⟨b9, 0, none⟩, 1, [(0, 0)]), (some ⟨b11, 0, none⟩, 1, [(1, 3)]), (some ⟨b13, 0, none⟩, 1, [(4, 4)])] ad (some ⟨b14, 0, none⟩) cap 3 hrs (by omega) hin w (Rd.row hs (by repeat constructor) (by decide)) (Rd.row (n := 3) (cap := 3) (sz := 1) hs (by repeat constructor) (by decide)) (rd_packM hs (Mem.mem (by repeat constructor))) (by intro y hy; simp only [List.mem_cons, List.not_mem_nil, or_false] at hy; rcases hy with rfl | rfl | rfl <;> exact Rd.row (sz := 2) hs (by repeat constructor) (by decide))) ?_
  refine EL.pickT rfl rfl rfl rfl ?_
  refine EL.assign rfl rfl rfl ?_
  refine .gr ?_; repeat constructor
  exact PX.ret rfl Try.results27 (.cons (.tmp rfl) .nil) (fun w hs => ⟨(), rfl, hs.ent (.nil _)⟩)
end Go.Proofs.Ytblpgpgbnlhjlaa
