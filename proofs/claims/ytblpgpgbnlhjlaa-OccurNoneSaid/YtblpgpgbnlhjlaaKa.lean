/- Layer 12 (occur): the iterator's function. -/
import Derived.Test.YtblpgpgbnlhjlaaQa
import Derived.Test.YtblpgpgbnlhjlaaSlk
namespace Go.Proofs.Ytblpgpgbnlhjlaa
open Go Go.RowKit Sl
set_option maxRecDepth 100000
set_option maxHeartbeats 8000000
set_option linter.unusedVariables false
set_option linter.unusedSimpArgs false
attribute [local irreducible] ES EL PX wps

/-- The matches, each behind the one before; mr: what the matcher answers from a place on. -/
def occGo (mr : Nat → MR) (n : Nat) : Nat → Nat → Int → List (List Spn × Int)
  | 0, _, _ => []
  | f + 1, p, last =>
    if n < p then []
    else if (mr p).e ≠ 0 then [([], (mr p).e)]
    else if (mr p).ok = false then []
    else
      let w := (mr p).spans.headD (0, 0)
      if w.1 = w.2 ∧ w.2 = last then occGo mr n f (p + 1) last
      else ((mr p).spans, 0) :: occGo mr n f (if w.1 = w.2 then w.2.toNat + 1 else w.2.toNat) w.2
def occL (mr : Nat → MR) (n : Nat) : List (List Spn × Int) := occGo mr n (n + 2) 0 (-1)
structure McOk (mr : Nat → MR) (n : Nat) : Prop where
  is : ∀ p, p ≤ n → (mr p).e = 0 → (mr p).ok = true → ∃ (a b : Nat) (rest : List Spn), (mr p).spans = ((a : Int), (b : Int)) :: rest ∧ p ≤ a ∧ a ≤ b ∧ b ≤ n
theorem occ_fuel {mr : Nat → MR} {n : Nat} (h : McOk mr n) : ∀ (f f' p : Nat) (last : Int), n + 1 < f + p → n + 1 < f' + p → occGo mr n f p last = occGo mr n f' p last
  | 0, 0, _, _, _, _ => rfl
  | 0, f' + 1, p, last, h1, _ => by rw [occGo, occGo, if_pos (by omega)]
  | f + 1, 0, p, last, _, h2 => by rw [occGo, occGo, if_pos (by omega)]
  | f + 1, f' + 1, p, last, h1, h2 => by
    rw [occGo, occGo]
    split
    · rfl
    · rename_i hp
      split
      · rfl
      · rename_i he
        split
        · rfl
        · rename_i hok
          obtain ⟨a, b, rest, e1, e2, e3, e4⟩ := h.is p (by omega) (by simpa using he) (by simpa using hok)
          rw [e1]
          dsimp only [List.headD_cons]
          split
          · exact occ_fuel h f f' (p + 1) last (by omega) (by omega)
          · rename_i hw
            congr 1
            refine occ_fuel h f f' _ _ ?_ ?_ <;> split <;> rename_i hab <;> simp at hab ⊢ <;> omega
def ElO (xs : List (List Spn × Int)) (i : Nat) (x : List Value) (G : List HA) : Prop := ∃ l e ad cap, xs[i]? = some (l, e) ∧ x = [.slice ad l.length cap, Iv e] ∧ G = [PRow ad cap l]
theorem drop_head {α : Type} {l : List α} {i : Nat} {x : α} {r : List α} (h : l.drop i = x :: r) : l[i]? = some x ∧ l.drop (i + 1) = r := by
  constructor
  · have : (l.drop i)[0]? = some x := by rw [h]; rfl
    simpa using this
  · have := congrArg List.tail h
    simpa [List.tail_drop] using this
theorem occ1_iter (gs gm : Nat) (s : List UInt8) (hsl : s.length ≤ 1152921504606846976) (po : Option Addr) (Hm : HA) (mr : Nat → MR) (hok : McOk mr s.length) (W0 : World) (B0 : Nat)
    (hmt : ∀ p : Nat, p ≤ s.length → MutAt Try.prog 22 #[.pointer po, Sv s, Iv (p : Nat)] [Hm] (mrV (mr p)) (fun x => [PRow x.1 x.2 (mr p).spans, Hm]) W0 B0)
    (hne : ∀ p : Nat, (mr p).e ≠ 0 → (mr p).spans = []) :
    IterX Try.prog 70 #[Pv gs 0, Pv gm 0] (occL mr s.length).length (ElO (occL mr s.length)) [HA.blk gs (.cells #[Sv s] 9), HA.blk gm (.cells #[.pointer po] 39), Hm] W0 B0 := by
  obtain ⟨xs, hxs⟩ : ∃ xs, xs = occL mr s.length := ⟨_, rfl⟩
  rw [← hxs]
  intro l I Ix hY A R W hI hs
  replace hs : Sat W0 B0 (HA.blk gs (.cells #[Sv s] 9) :: HA.blk gm (.cells #[.pointer po] 39) :: Hm :: A :: R) W := hs
  refine calls_of_ES TB Try.func70 rfl _ Try.ntmps70 rfl hs ?_
  refine .go ?_; repeat constructor
  refine EL.assign rfl rfl rfl ?_
  refine .go ?_; repeat constructor
  refine EL.assign rfl rfl rfl ?_
  refine .go ?_; repeat constructor
  refine ES.loop (σ := Nat × Nat × Int × HA) (fun (i, p, last, A) => occGo mr s.length (s.length + 2 - p) p last = xs.drop i ∧ i ≤ xs.length ∧ p ≤ s.length + 1 ∧ I i A) (fun (i, p, last, A) => [(0, .func (.yield l) #[] #[]), (1, Pv gs 0), (2, Pv gm 0), (4, Iv last), (5, Iv (p : Nat))])
    (fun (i, p, last, A) => HA.blk gs (.cells #[Sv s] 9) :: HA.blk gm (.cells #[.pointer po] 39) :: Hm :: A :: R) (fun (i, p, last, A) => s.length + 2 - p) (0, 0, -1, A) ⟨by rw [hxs]; rfl, Nat.zero_le _, Nat.zero_le _, hI⟩ ⟨rfl, rfl, rfl, rfl, rfl, trivial⟩ (.i (by repeat constructor)) ?_
  rintro ⟨i, p, last, A⟩ ⟨hgo, hi, hp, hI⟩
  dsimp only at hgo hi hp hI ⊢
  have hend : xs.drop i = [] → xs.length = i := fun h => by
    have := congrArg List.length h
    simp only [List.length_drop, List.length_nil] at this
    omega
  refine .go ?_; repeat constructor
  refine EL.move rfl rfl rfl ?_
  (apply EL.loadB; exact rfl; exact rfl; exact rfl; exact rfl; exact rfl; (case hm => repeat constructor); exact rfl)
  refine EL.lenS rfl rfl rfl rfl rfl ?_
  refine EL.leq rfl rfl rfl rfl ?_
  refine .go ?_; repeat constructor
  refine ES.condD rfl (fun hle => ?_) (fun hgt => ?_)
  rotate_left
  · rw [show s.length + 2 - p = s.length + 1 - p + 1 by omega, occGo, if_pos (by omega)] at hgo
    have hlen := hend hgo.symm
    refine .go ?_; repeat constructor
    exact PX.end rfl Try.results70 .nil (fun w hs => ⟨⟨_, rfl⟩, .inl ⟨A, by rw [hlen]; exact hI, hs.ent (.i (by repeat constructor))⟩⟩)
  have hple : p ≤ s.length := by omega
  rw [show s.length + 2 - p = s.length + 1 - p + 1 by omega, occGo, if_neg (by omega)] at hgo
  have hc := hmt p hple
  have hokp := hok.is p hple
  have hnp := hne p
  generalize mr p = me at hgo hc hokp hnp
  obtain ⟨spans, ok, steps, e⟩ := me
  dsimp only at hgo hc hokp hnp
  refine .go ?_; repeat constructor
  (apply EL.loadB; exact rfl; exact rfl; exact rfl; exact rfl; exact rfl; (case hm => repeat constructor); exact rfl)
  (apply EL.loadB; exact rfl; exact rfl; exact rfl; exact rfl; exact rfl; (case hm => repeat constructor); exact rfl)
  refine EL.move rfl rfl rfl ?_
  (refine EL.callMw rfl rfl rfl ent22 rfl hc (by repeat constructor) ?_; rintro ⟨xa, xc⟩)
  refine EL.move rfl rfl rfl ?_
  refine EL.extract rfl rfl rfl rfl ?_
  refine EL.extract rfl rfl rfl rfl ?_
  refine EL.extract rfl rfl rfl rfl ?_
  refine EL.assign rfl rfl rfl ?_
  refine EL.assign rfl rfl rfl ?_
  refine EL.assign rfl rfl rfl ?_
  refine .go ?_; repeat constructor
  refine .go ?_; repeat constructor
  refine EL.move rfl rfl rfl ?_
  refine EL.neqI rfl rfl rfl rfl ?_
  refine .go ?_; repeat constructor
  refine ES.condN rfl (fun hbad => ?_) (fun h0 => ?_)
  · rw [if_pos hbad] at hgo
    obtain ⟨hat, hdr⟩ := drop_head hgo.symm
    have hlt := (List.getElem?_eq_some_iff.1 hat).1
    have hlen := hend
    have hl1 : xs.length = i + 1 := by
      have := congrArg List.length hdr
      simp only [List.length_drop, List.length_nil] at this
      omega
    refine .go ?_; repeat constructor
    refine EL.move rfl rfl rfl ?_
    refine EL.move rfl rfl rfl ?_
    refine EL.nilRow 33 2 ?_
    refine EL.yieldX rfl rfl rfl rfl hY hI ⟨[], e, none, 0, hat, rfl, rfl⟩ (by repeat constructor) (by repeat constructor) (fun A' hI' => ?_) (fun A' hX' => ?_)
    · refine .go ?_; repeat constructor
      exact PX.ret rfl Try.results70 .nil (fun w hs => ⟨⟨_, rfl⟩, .inl ⟨A', by rw [hl1]; exact hI', hs.ent (.i (by repeat constructor))⟩⟩)
    · refine .go ?_; repeat constructor
      exact PX.ret rfl Try.results70 .nil (fun w hs => ⟨⟨_, rfl⟩, .inr ⟨_, A', hX', hs.ent (.i (by repeat constructor))⟩⟩)
  rw [if_neg (fun h => h h0)] at hgo
  cases ok with
  | false =>
    rw [if_pos rfl] at hgo
    have hlen := hend hgo.symm
    refine .go ?_; repeat constructor
    refine EL.move rfl rfl rfl ?_
    refine EL.not rfl rfl rfl ?_
    refine .go ?_; repeat constructor
    refine ES.condT rfl ?_
    refine .go ?_; repeat constructor
    exact PX.ret rfl Try.results70 .nil (fun w hs => ⟨⟨_, rfl⟩, .inl ⟨A, by rw [hlen]; exact hI, hs.ent (.i (by repeat constructor))⟩⟩)
  | true =>
    rw [if_neg (by simp)] at hgo
    obtain ⟨a, b, rest, rfl, hpa, hab, hbn⟩ := hokp h0 rfl
    dsimp only [List.headD_cons] at hgo
    refine .go ?_; repeat constructor
    refine EL.move rfl rfl rfl ?_
    refine EL.not rfl rfl rfl ?_
    refine .go ?_; repeat constructor
    refine ES.condF rfl ?_
    refine ES.know (P := ∃ g, xa = some ⟨g, 0, none⟩) (fun w hs => (row_form (hs.all (PRow xa xc (((a : Int), (b : Int)) :: rest)) (by simp))).2.2.2.2 (Nat.zero_lt_succ _)) ?_
    rintro ⟨xg, rfl⟩
    refine .go ?_; repeat constructor
    refine EL.move rfl rfl rfl ?_
    refine EL.indexAddrL (i := 0) rfl rfl rfl rfl rfl rfl rfl (Nat.zero_lt_succ _) ?_
    (refine EL.ofRV (RV.loadRA (spC ((a : Int), (b : Int))) rfl rfl rfl rfl (by repeat constructor) rfl) rfl rfl rfl (by intro c h; cases h) ?_)
    (refine EL.alloc rfl rfl rfl ?_; intro g9)
    (apply EL.storeAll; exact rfl; exact rfl; exact rfl; exact rfl; exact rfl; (case p => repeat constructor); exact rfl; (case h1 => exact (by first | rfl | exact all1 rfl | (intro u hu; simp only [List.mem_cons, List.not_mem_nil, or_false] at hu; rcases hu with rfl | rfl | rfl | rfl <;> rfl) | (intro u hu; simp at hu; rcases hu with rfl | rfl | rfl | rfl <;> rfl) | (intro u hu; simp at hu; rcases hu with rfl | rfl | rfl <;> rfl) | (intro u hu; simp at hu; rcases hu with rfl | rfl <;> rfl) | (intro u hu; simp at hu; obtain ⟨_, _, rfl⟩ := hu; rfl))))
    refine .go ?_; repeat constructor
    refine EL.cutX (X := Unit) (fun _ => [(0, .func (.yield l) #[] #[]), (1, Pv gs 0), (2, Pv gm 0), (4, Iv last), (5, Iv (p : Nat)), (6, .slice (some ⟨xg, 0, none⟩) (rest.length + 1) xc), (9, Pv g9 0), (42, .bool (decide ((a : Int) = b ∧ (b : Int) = last)))]) (fun _ => PRow (some ⟨xg, 0, none⟩) xc (((a : Int), (b : Int)) :: rest) :: HA.blk g9 (.cells (spC ((a : Int), (b : Int))).toArray 33) :: HA.blk gs (.cells #[Sv s] 9) :: HA.blk gm (.cells #[.pointer po] 39) :: Hm :: A :: R) ?_ (fun _ => ?_)
    · refine .go ?_; repeat constructor
      refine EL.fieldAddr rfl rfl rfl rfl rfl rfl rfl rfl ?_
      (apply EL.loadB; exact rfl; exact rfl; exact rfl; exact rfl; exact rfl; (case hm => repeat constructor); exact rfl)
      refine EL.fieldAddr rfl rfl rfl rfl rfl rfl rfl rfl ?_
      (apply EL.loadB; exact rfl; exact rfl; exact rfl; exact rfl; exact rfl; (case hm => repeat constructor); exact rfl)
      refine EL.eqlI rfl rfl rfl rfl ?_
      refine EL.move rfl rfl rfl ?_
      first | refine EL.splitD (d := 37) rfl (fun hp37 => ?_) (fun hp37 => ?_) | refine EL.splitN (d := 37) rfl (fun hp37 => ?_) (fun hp37 => ?_) | refine EL.splitB (d := 37) rfl (fun hp37 => ?_) (fun hp37 => ?_)
      · refine EL.fieldAddr rfl rfl rfl rfl rfl rfl rfl rfl ?_
        (apply EL.loadB; exact rfl; exact rfl; exact rfl; exact rfl; exact rfl; (case hm => repeat constructor); exact rfl)
        refine EL.move rfl rfl rfl ?_
        refine EL.eqlI rfl rfl rfl rfl ?_
        refine EL.pickT rfl rfl rfl rfl ?_
        exact EL.endX () ⟨rfl, rfl, rfl, rfl, rfl, rfl, rfl, getA rfl (congrArg Value.bool (by rw [Bool.eq_iff_iff]; simp_all)), trivial⟩ (.i (by repeat constructor))
      · refine EL.pass rfl rfl rfl ?_
        refine EL.pass rfl rfl rfl ?_
        refine EL.pass rfl rfl rfl ?_
        refine EL.pass rfl rfl rfl ?_
        refine EL.pickF rfl rfl rfl rfl ?_
        exact EL.endX () ⟨rfl, rfl, rfl, rfl, rfl, rfl, rfl, getA rfl (congrArg Value.bool (by rw [Bool.eq_iff_iff]; simp_all)), trivial⟩ (.i (by repeat constructor))
    refine ES.condD rfl (fun hsame => ?_) (fun hnew => ?_)
    · replace hgo := (if_pos hsame).symm.trans hgo
      refine .go ?_; repeat constructor
      refine EL.move rfl rfl rfl ?_
      refine EL.add1 rfl rfl rfl rfl (by omega) ?_
      refine EL.assign rfl rfl rfl ?_
      refine .go ?_; repeat constructor
      exact PX.loop (i, p + 1, last, A) ⟨by dsimp only; rw [show s.length + 2 - (p + 1) = s.length + 1 - p by omega]; exact hgo, hi, by simp only; omega, hI⟩ (by simp only; omega) ⟨rfl, rfl, rfl, rfl, rfl, trivial⟩ (.i (by repeat constructor))
    replace hgo := (if_neg hnew).symm.trans hgo
    obtain ⟨hat, hdr⟩ := drop_head hgo.symm
    have hlt := (List.getElem?_eq_some_iff.1 hat).1
    refine .go ?_; repeat constructor
    refine EL.move rfl rfl rfl ?_
    refine EL.move rfl rfl rfl ?_
    refine EL.yieldX rfl rfl rfl rfl hY hI ⟨_, 0, some ⟨xg, 0, none⟩, xc, hat, rfl, rfl⟩ (by repeat constructor) (by repeat constructor) (fun A' hI' => ?_) (fun A' hX' => ?_)
    · refine EL.not rfl rfl rfl ?_
      refine .go ?_; repeat constructor
      refine ES.condF rfl ?_
      refine .go ?_; repeat constructor
      refine EL.fieldAddr rfl rfl rfl rfl rfl rfl rfl rfl ?_
      (apply EL.loadB; exact rfl; exact rfl; exact rfl; exact rfl; exact rfl; (case hm => repeat constructor); exact rfl)
      refine EL.assign rfl rfl rfl ?_
      refine .go ?_; repeat constructor
      refine EL.fieldAddr rfl rfl rfl rfl rfl rfl rfl rfl ?_
      (apply EL.loadB; exact rfl; exact rfl; exact rfl; exact rfl; exact rfl; (case hm => repeat constructor); exact rfl)
      refine EL.assign rfl rfl rfl ?_
      refine .go ?_; repeat constructor
      refine EL.fieldAddr rfl rfl rfl rfl rfl rfl rfl rfl ?_
      (apply EL.loadB; exact rfl; exact rfl; exact rfl; exact rfl; exact rfl; (case hm => repeat constructor); exact rfl)
      refine EL.fieldAddr rfl rfl rfl rfl rfl rfl rfl rfl ?_
      (apply EL.loadB; exact rfl; exact rfl; exact rfl; exact rfl; exact rfl; (case hm => repeat constructor); exact rfl)
      refine EL.eqlI rfl rfl rfl rfl ?_
      refine .go ?_; repeat constructor
      refine ES.condD rfl (fun he => ?_) (fun hne2 => ?_)
      · have hf : occGo mr s.length (s.length + 1 - p) (b + 1) b = xs.drop (i + 1) := by
          rw [hdr]
          have he' : (a : Int) = b := he
          exact congrArg (fun q => occGo mr s.length (s.length + 1 - p) q (b : Int)) (if_pos he').symm
        refine .go ?_; repeat constructor
        refine EL.move rfl rfl rfl ?_
        refine EL.add1 rfl rfl rfl rfl (by omega) ?_
        refine EL.assign rfl rfl rfl ?_
        refine .go ?_; repeat constructor
        exact PX.loop (i + 1, b + 1, (b : Int), A') ⟨by dsimp only; rw [← hf]; exact occ_fuel hok _ _ _ _ (by omega) (by omega), by simp only; omega, by simp only; omega, hI'⟩ (by simp only; omega) ⟨rfl, rfl, rfl, rfl, rfl, trivial⟩ (.i (by repeat constructor))
      · have hf : occGo mr s.length (s.length + 1 - p) b b = xs.drop (i + 1) := by
          rw [hdr]
          have he' : ¬ (a : Int) = b := hne2
          exact congrArg (fun q => occGo mr s.length (s.length + 1 - p) q (b : Int)) (if_neg he').symm
        refine .go ?_; repeat constructor
        exact PX.loop (i + 1, b, (b : Int), A') ⟨by dsimp only; rw [← hf]; exact occ_fuel hok _ _ _ _ (by omega) (by omega), by simp only; omega, by simp only; omega, hI'⟩ (by simp only; omega) ⟨rfl, rfl, rfl, rfl, rfl, trivial⟩ (.i (by repeat constructor))
    · refine EL.not rfl rfl rfl ?_
      refine .go ?_; repeat constructor
      refine ES.condT rfl ?_
      refine .go ?_; repeat constructor
      exact PX.ret rfl Try.results70 .nil (fun w hs => ⟨⟨_, rfl⟩, .inr ⟨_, A', hX', hs.ent (.i (by repeat constructor))⟩⟩)
end Go.Proofs.Ytblpgpgbnlhjlaa
