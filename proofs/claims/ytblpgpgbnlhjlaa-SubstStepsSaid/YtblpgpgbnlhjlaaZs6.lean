/- Texts of this claim, bundled. -/
import Derived.Test.YtblpgpgbnlhjlaaZs5
namespace Go.Proofs.Ytblpgpgbnlhjlaa
open Go Go.RowKit Sl
set_option maxRecDepth 100000
set_option maxHeartbeats 8000000
set_option linter.unusedVariables false
set_option linter.unusedSimpArgs false
attribute [local irreducible] ES EL PX wps
def occGo (mr : Nat → MR) (n : Nat) : Nat → Nat → Int → List (List Spn × Int)
  | 0, _, _ => []
  | f + 1, p, last =>
    if n < p then []
    else if (mr p).e ≠ 0 then [([], (mr p).e)]
    else if (mr p).ok = false then []
    else
      let w := (mr p).spans.headD (0, 0)
      if w.1 = w.2 ∧ w.2 = last then occGo mr n f (p + 1) last
      else ((mr p).spans, 0) :: occGo mr n f (if w.1 = w.2 then w.2.toNat + 1 else w.2.toNat) w.2
def occL (mr : Nat → MR) (n : Nat) : List (List Spn × Int) := occGo mr n (n + 2) 0 (-1)
structure McOk (mr : Nat → MR) (n : Nat) : Prop where
  is : ∀ p, p ≤ n → (mr p).e = 0 → (mr p).ok = true → ∃ (a b : Nat) (rest : List Spn), (mr p).spans = ((a : Int), (b : Int)) :: rest ∧ p ≤ a ∧ a ≤ b ∧ b ≤ n
theorem occ_fuel {mr : Nat → MR} {n : Nat} (h : McOk mr n) : ∀ (f f' p : Nat) (last : Int), n + 1 < f + p → n + 1 < f' + p → occGo mr n f p last = occGo mr n f' p last
  | 0, 0, _, _, _, _ => rfl
  | 0, f' + 1, p, last, h1, _ => by rw [occGo, occGo, if_pos (by omega)]
  | f + 1, 0, p, last, _, h2 => by rw [occGo, occGo, if_pos (by omega)]
  | f + 1, f' + 1, p, last, h1, h2 => by
    rw [occGo, occGo]
    split
    · rfl
    · rename_i hp
      split
      · rfl
      · rename_i he
        split
        · rfl
        · rename_i hok
          obtain ⟨a, b, rest, e1, e2, e3, e4⟩ := h.is p (by omega) (by simpa using he) (by simpa using hok)
          rw [e1]
          dsimp only [List.headD_cons]
          split
          · exact occ_fuel h f f' (p + 1) last (by omega) (by omega)
          · rename_i hw
            congr 1
            refine occ_fuel h f f' _ _ ?_ ?_ <;> split <;> rename_i hab <;> simp at hab ⊢ <;> omega
def ElO (xs : List (List Spn × Int)) (i : Nat) (x : List Value) (G : List HA) : Prop := ∃ l e ad cap, xs[i]? = some (l, e) ∧ x = [.slice ad l.length cap, Iv e] ∧ G = [PRow ad cap l]
theorem drop_head {α : Type} {l : List α} {i : Nat} {x : α} {r : List α} (h : l.drop i = x :: r) : l[i]? = some x ∧ l.drop (i + 1) = r := by
  constructor
  · have : (l.drop i)[0]? = some x := by rw [h]; rfl
    simpa using this
  · have := congrArg List.tail h
    simpa [List.tail_drop] using this
theorem occ1_iter (gs gm : Nat) (s : List UInt8) (hsl : s.length ≤ 1152921504606846976) (po : Option Addr) (Hm : HA) (mr : Nat → MR) (hok : McOk mr s.length) (W0 : World) (B0 : Nat)
    (hmt : ∀ p : Nat, p ≤ s.length → MutAt Try.prog 22 #[.pointer po, Sv s, Iv (p : Nat)] [Hm] (mrV (mr p)) (fun x => [PRow x.1 x.2 (mr p).spans, Hm]) W0 B0)
    (hne : ∀ p : Nat, (mr p).e ≠ 0 → (mr p).spans = []) :
    IterX Try.prog 70 #[Pv gs 0, Pv gm 0] (occL mr s.length).length (ElO (occL mr s.length)) [HA.blk gs (.cells #[Sv s] 9), HA.blk gm (.cells #[.pointer po] 39), Hm] W0 B0 := by
  obtain ⟨xs, hxs⟩ : ∃ xs, xs = occL mr s.length := ⟨_, rfl⟩
  rw [← hxs]
  intro l I Ix hY A R W hI hs
  replace hs : Sat W0 B0 (HA.blk gs (.cells #[Sv s] 9) :: HA.blk gm (.cells #[.pointer po] 39) :: Hm :: A :: R) W := hs
  refine calls_of_ES TB Try.func70 rfl _ Try.ntmps70 rfl hs ?_
  refine .go ?_; repeat constructor
  refine EL.assign rfl rfl rfl ?_
  refine .go ?_; repeat constructor
  refine EL.assign rfl rfl rfl ?_
  refine .go ?_; repeat constructor
  refine ES.loop (σ := Nat × Nat × Int × HA) (fun (i, p, last, A) => occGo mr s.length (s.length + 2 - p) p last = xs.drop i ∧ i ≤ xs.length ∧ p ≤ s.length + 1 ∧ I i A) (fun (i, p, last, A) => [(0, .func (.yield l) #[] #[]), (1, Pv gs 0), (2, Pv gm 0), (4, Iv last), (5, Iv (p : Nat))])
    (fun (i, p, last, A) => HA.blk gs (.cells #[Sv s] 9) :: HA.blk gm (.cells #[.pointer po] 39) :: Hm :: A :: R) (fun (i, p, last, A) => s.length + 2 - p) (0, 0, -1, A) ⟨by rw [hxs]; rfl, Nat.zero_le _, Nat.zero_le _, hI⟩ ⟨rfl, rfl, rfl, rfl, rfl, trivial⟩ (.i (by repeat constructor)) ?_
  rintro ⟨i, p, last, A⟩ ⟨hgo, hi, hp, hI⟩
  dsimp only at hgo hi hp hI ⊢
  have hend : xs.drop i = [] → xs.length = i := fun h => by
    have := congrArg List.length h
    simp only [List.length_drop, List.length_nil] at this
    omega
  refine .go ?_; repeat constructor
  refine EL.move rfl rfl rfl ?_
  (apply EL.loadB; exact rfl; exact rfl; exact rfl; exact rfl; exact rfl; (case hm => repeat constructor); exact rfl)
  refine EL.lenS rfl rfl rfl rfl rfl ?_
  refine EL.leq rfl rfl rfl rfl ?_
  refine .go ?_; repeat constructor
  refine ES.condD rfl (fun hle => ?_) (fun hgt => ?_)
  rotate_left
  · rw [show s.length + 2 - p = s.length + 1 - p + 1 by omega, occGo, if_pos (by omega)] at hgo
    have hlen := hend hgo.symm
    refine .go ?_; repeat constructor
    exact PX.end rfl Try.results70 .nil (fun w hs => ⟨⟨_, rfl⟩, .inl ⟨A, by rw [hlen]; exact hI, hs.ent (.i (by repeat constructor))⟩⟩)
  have hple : p ≤ s.length := by omega
  rw [show s.length + 2 - p = s.length + 1 - p + 1 by omega, occGo, if_neg (by omega)] at hgo
  have hc := hmt p hple
  have hokp := hok.is p hple
  have hnp := hne p
  generalize mr p = me at hgo hc hokp hnp
  obtain ⟨spans, ok, steps, e⟩ := me
  dsimp only at hgo hc hokp hnp
  refine .go ?_; repeat constructor
  (apply EL.loadB; exact rfl; exact rfl; exact rfl; exact rfl; exact rfl; (case hm => repeat constructor); exact rfl)
  (apply EL.loadB; exact rfl; exact rfl; exact rfl; exact rfl; exact rfl; (case hm => repeat constructor); exact rfl)
  refine EL.move rfl rfl rfl ?_
  (refine EL.callMw rfl rfl rfl ent22 rfl hc (by repeat constructor) ?_; rintro ⟨xa, xc⟩)
  refine EL.move rfl rfl rfl ?_
  refine EL.extract rfl rfl rfl rfl ?_
  refine EL.extract rfl rfl rfl rfl ?_
  refine EL.extract rfl rfl rfl rfl ?_
  refine EL.assign rfl rfl rfl ?_
  refine EL.assign rfl rfl rfl ?_
  refine EL.assign rfl rfl rfl ?_
  refine .go ?_; repeat constructor
  refine .go ?_; repeat constructor
  refine EL.move rfl rfl rfl ?_
  refine EL.neqI rfl rfl rfl rfl ?_
  refine .go ?_; repeat constructor
  refine ES.condN rfl (fun hbad => ?_) (fun h0 => ?_)
  · rw [if_pos hbad] at hgo
    obtain ⟨hat, hdr⟩ := drop_head hgo.symm
    have hlt := (List.getElem?_eq_some_iff.1 hat).1
    have hlen := hend
    have hl1 : xs.length = i + 1 := by
      have := congrArg List.length hdr
      simp only [List.length_drop, List.length_nil] at this
      omega
    refine .go ?_; repeat constructor
    refine EL.move rfl rfl rfl ?_
    refine EL.move rfl rfl rfl ?_
    refine EL.nilRow 33 2 ?_
    refine EL.yieldX rfl rfl rfl rfl hY hI ⟨[], e, none, 0, hat, rfl, rfl⟩ (by repeat constructor) (by repeat constructor) (fun A' hI' => ?_) (fun A' hX' => ?_)
    · refine .go ?_; repeat constructor
      exact PX.ret rfl Try.results70 .nil (fun w hs => ⟨⟨_, rfl⟩, .inl ⟨A', by rw [hl1]; exact hI', hs.ent (.i (by repeat constructor))⟩⟩)
    · refine .go ?_; repeat constructor
      exact PX.ret rfl Try.results70 .nil (fun w hs => ⟨⟨_, rfl⟩, .inr ⟨_, A', hX', hs.ent (.i (by repeat constructor))⟩⟩)
  rw [if_neg (fun h => h h0)] at hgo
  cases ok with
  | false =>
    rw [if_pos rfl] at hgo
    have hlen := hend hgo.symm
    refine .go ?_; repeat constructor
    refine EL.move rfl rfl rfl ?_
    refine EL.not rfl rfl rfl ?_
    refine .go ?_; repeat constructor
    refine ES.condT rfl ?_
    refine .go ?_; repeat constructor
    exact PX.ret rfl Try.results70 .nil (fun w hs => ⟨⟨_, rfl⟩, .inl ⟨A, by rw [hlen]; exact hI, hs.ent (.i (by repeat constructor))⟩⟩)
  | true =>
    rw [if_neg (by simp)] at hgo
    obtain ⟨a, b, rest, rfl, hpa, hab, hbn⟩ := hokp h0 rfl
    dsimp only [List.headD_cons] at hgo
    refine .go ?_; repeat constructor
    refine EL.move rfl rfl rfl ?_
    refine EL.not rfl rfl rfl ?_
    refine .go ?_; repeat constructor
    refine ES.condF rfl ?_
    refine ES.know (P := ∃ g, xa = some ⟨g, 0, none⟩) (fun w hs => (row_form (hs.all (PRow xa xc (((a : Int), (b : Int)) :: rest)) (by simp))).2.2.2.2 (Nat.zero_lt_succ _)) ?_
    rintro ⟨xg, rfl⟩
    refine .go ?_; repeat constructor
    refine EL.move rfl rfl rfl ?_
    refine EL.indexAddrL (i := 0) rfl rfl rfl rfl rfl rfl rfl (Nat.zero_lt_succ _) ?_
    (refine EL.ofRV (RV.loadRA (spC ((a : Int), (b : Int))) rfl rfl rfl rfl (by repeat constructor) rfl) rfl rfl rfl (by intro c h; cases h) ?_)
    (refine EL.alloc rfl rfl rfl ?_; intro g9)
    (apply EL.storeAll; exact rfl; exact rfl; exact rfl; exact rfl; exact rfl; (case p => repeat constructor); exact rfl; (case h1 => exact (by first | rfl | exact all1 rfl | (intro u hu; simp only [List.mem_cons, List.not_mem_nil, or_false] at hu; rcases hu with rfl | rfl | rfl | rfl <;> rfl) | (intro u hu; simp at hu; rcases hu with rfl | rfl | rfl | rfl <;> rfl) | (intro u hu; simp at hu; rcases hu with rfl | rfl | rfl <;> rfl) | (intro u hu; simp at hu; rcases hu with rfl | rfl <;> rfl) | (intro u hu; simp at hu; obtain ⟨_, _, rfl⟩ := hu; rfl))))
    refine .go ?_; repeat constructor
    refine EL.cutX (X := Unit) (fun _ => [(0, .func (.yield l) #[] #[]), (1, Pv gs 0), (2, Pv gm 0), (4, Iv last), (5, Iv (p : Nat)), (6, .slice (some ⟨xg, 0, none⟩) (rest.length + 1) xc), (9, Pv g9 0), (42, .bool (decide ((a : Int) = b ∧ (b : Int) = last)))]) (fun _ => PRow (some ⟨xg, 0, none⟩) xc (((a : Int), (b : Int)) :: rest) :: HA.blk g9 (.cells (spC ((a : Int), (b : Int))).toArray 33) :: HA.blk gs (.cells #[Sv s] 9) :: HA.blk gm (.cells #[.pointer po] 39) :: Hm :: A :: R) ?_ (fun _ => ?_)
    · refine .go ?_; repeat constructor
      refine EL.fieldAddr rfl rfl rfl rfl rfl rfl rfl rfl ?_
      (apply EL.loadB; exact rfl; exact rfl; exact rfl; exact rfl; exact rfl; (case hm => repeat constructor); exact rfl)
      refine EL.fieldAddr rfl rfl rfl rfl rfl rfl rfl rfl ?_
      (apply EL.loadB; exact rfl; exact rfl; exact rfl; exact rfl; exact rfl; (case hm => repeat constructor); exact rfl)
      refine EL.eqlI rfl rfl rfl rfl ?_
      refine EL.move rfl rfl rfl ?_
      first | refine EL.splitD (d := 37) rfl (fun hp37 => ?_) (fun hp37 => ?_) | refine EL.splitN (d := 37) rfl (fun hp37 => ?_) (fun hp37 => ?_) | refine EL.splitB (d := 37) rfl (fun hp37 => ?_) (fun hp37 => ?_)
      · refine EL.fieldAddr rfl rfl rfl rfl rfl rfl rfl rfl ?_
        (apply EL.loadB; exact rfl; exact rfl; exact rfl; exact rfl; exact rfl; (case hm => repeat constructor); exact rfl)
        refine EL.move rfl rfl rfl ?_
        refine EL.eqlI rfl rfl rfl rfl ?_
        refine EL.pickT rfl rfl rfl rfl ?_
        exact EL.endX () ⟨rfl, rfl, rfl, rfl, rfl, rfl, rfl, getA rfl (congrArg Value.bool (by rw [Bool.eq_iff_iff]; simp_all)), trivial⟩ (.i (by repeat constructor))
      · refine EL.pass rfl rfl rfl ?_
        refine EL.pass rfl rfl rfl ?_
        refine EL.pass rfl rfl rfl ?_
        refine EL.pass rfl rfl rfl ?_
        refine EL.pickF rfl rfl rfl rfl ?_
        exact EL.endX () ⟨rfl, rfl, rfl, rfl, rfl, rfl, rfl, getA rfl (congrArg Value.bool (by rw [Bool.eq_iff_iff]; simp_all)), trivial⟩ (.i (by repeat constructor))
    refine ES.condD rfl (fun hsame => ?_) (fun hnew => ?_)
    · replace hgo := (if_pos hsame).symm.trans hgo
      refine .go ?_; repeat constructor
      refine EL.move rfl rfl rfl ?_
      refine EL.add1 rfl rfl rfl rfl (by omega) ?_
      refine EL.assign rfl rfl rfl ?_
      refine .go ?_; repeat constructor
      exact PX.loop (i, p + 1, last, A) ⟨by dsimp only; rw [show s.length + 2 - (p + 1) = s.length + 1 - p by omega]; exact hgo, hi, by simp only; omega, hI⟩ (by simp only; omega) ⟨rfl, rfl, rfl, rfl, rfl, trivial⟩ (.i (by repeat constructor))
    replace hgo := (if_neg hnew).symm.trans hgo
    obtain ⟨hat, hdr⟩ := drop_head hgo.symm
    have hlt := (List.getElem?_eq_some_iff.1 hat).1
    refine .go ?_; repeat constructor
    refine EL.move rfl rfl rfl ?_
    refine EL.move rfl rfl rfl ?_
    refine EL.yieldX rfl rfl rfl rfl hY hI ⟨_, 0, some ⟨xg, 0, none⟩, xc, hat, rfl, rfl⟩ (by repeat constructor) (by repeat constructor) (fun A' hI' => ?_) (fun A' hX' => ?_)
    · refine EL.not rfl rfl rfl ?_
      refine .go ?_; repeat constructor
      refine ES.condF rfl ?_
      refine .go ?_; repeat constructor
      refine EL.fieldAddr rfl rfl rfl rfl rfl rfl rfl rfl ?_
      (apply EL.loadB; exact rfl; exact rfl; exact rfl; exact rfl; exact rfl; (case hm => repeat constructor); exact rfl)
      refine EL.assign rfl rfl rfl ?_
      refine .go ?_; repeat constructor
      refine EL.fieldAddr rfl rfl rfl rfl rfl rfl rfl rfl ?_
      (apply EL.loadB; exact rfl; exact rfl; exact rfl; exact rfl; exact rfl; (case hm => repeat constructor); exact rfl)
      refine EL.assign rfl rfl rfl ?_
      refine .go ?_; repeat constructor
      refine EL.fieldAddr rfl rfl rfl rfl rfl rfl rfl rfl ?_
      (apply EL.loadB; exact rfl; exact rfl; exact rfl; exact rfl; exact rfl; (case hm => repeat constructor); exact rfl)
      refine EL.fieldAddr rfl rfl rfl rfl rfl rfl rfl rfl ?_
      (apply EL.loadB; exact rfl; exact rfl; exact rfl; exact rfl; exact rfl; (case hm => repeat constructor); exact rfl)
      refine EL.eqlI rfl rfl rfl rfl ?_
      refine .go ?_; repeat constructor
      refine ES.condD rfl (fun he => ?_) (fun hne2 => ?_)
      · have hf : occGo mr s.length (s.length + 1 - p) (b + 1) b = xs.drop (i + 1) := by
          rw [hdr]
          have he' : (a : Int) = b := he
          exact congrArg (fun q => occGo mr s.length (s.length + 1 - p) q (b : Int)) (if_pos he').symm
        refine .go ?_; repeat constructor
        refine EL.move rfl rfl rfl ?_
        refine EL.add1 rfl rfl rfl rfl (by omega) ?_
        refine EL.assign rfl rfl rfl ?_
        refine .go ?_; repeat constructor
        exact PX.loop (i + 1, b + 1, (b : Int), A') ⟨by dsimp only; rw [← hf]; exact occ_fuel hok _ _ _ _ (by omega) (by omega), by simp only; omega, by simp only; omega, hI'⟩ (by simp only; omega) ⟨rfl, rfl, rfl, rfl, rfl, trivial⟩ (.i (by repeat constructor))
      · have hf : occGo mr s.length (s.length + 1 - p) b b = xs.drop (i + 1) := by
          rw [hdr]
          have he' : ¬ (a : Int) = b := hne2
          exact congrArg (fun q => occGo mr s.length (s.length + 1 - p) q (b : Int)) (if_neg he').symm
        refine .go ?_; repeat constructor
        exact PX.loop (i + 1, b, (b : Int), A') ⟨by dsimp only; rw [← hf]; exact occ_fuel hok _ _ _ _ (by omega) (by omega), by simp only; omega, by simp only; omega, hI'⟩ (by simp only; omega) ⟨rfl, rfl, rfl, rfl, rfl, trivial⟩ (.i (by repeat constructor))
    · refine EL.not rfl rfl rfl ?_
      refine .go ?_; repeat constructor
      refine ES.condT rfl ?_
      refine .go ?_; repeat constructor
      exact PX.ret rfl Try.results70 .nil (fun w hs => ⟨⟨_, rfl⟩, .inr ⟨_, A', hX', hs.ent (.i (by repeat constructor))⟩⟩)
end Go.Proofs.Ytblpgpgbnlhjlaa
namespace Go.Proofs.Ytblpgpgbnlhjlaa
open Go Go.RowKit Sl
set_option maxRecDepth 100000
set_option maxHeartbeats 8000000
set_option linter.unusedVariables false
set_option linter.unusedSimpArgs false
attribute [local irreducible] ES EL PX wps
theorem occ_len {mr : Nat → MR} {n : Nat} : ∀ (f p : Nat) (last : Int), (occGo mr n f p last).length ≤ f
  | 0, _, _ => Nat.le_refl _
  | f + 1, p, last => by
    rw [occGo]
    split
    · simp
    · split
      · simp
      · split
        · simp
        · dsimp only
          split
          · exact Nat.le_trans (occ_len f _ _) (Nat.le_succ _)
          · simp only [List.length_cons]
            exact Nat.succ_le_succ (occ_len f _ _)
theorem occAll_c (po : Option Addr) (s : List UInt8) (w : World) : Pure Try.prog 48 #[.pointer po, Sv s] (fun x : Nat × Nat => .func (.func 70) #[] #[Pv x.1 0, Pv x.2 0]) (fun x => [HA.blk x.1 (.cells #[Sv s] 9), HA.blk x.2 (.cells #[.pointer po] 39)]) w := by
  refine calls_of_ES TB Try.func48 rfl _ Try.ntmps48 rfl (Sat.start w) ?_
  refine .gr ?_; repeat constructor
  (refine EL.box rfl rfl rfl ?_; intro g2)
  (refine EL.box rfl rfl rfl ?_; intro g3)
  refine EL.assign rfl rfl rfl ?_
  refine .gr ?_; repeat constructor
  refine EL.makeFunc rfl rfl rfl ?_
  refine EL.assign rfl rfl rfl ?_
  refine .gr ?_; repeat constructor
  exact PX.ret rfl Try.results48 (.cons (.tmp rfl) .nil) (fun w hs => ⟨(g3, g2), rfl, hs.ent (.i (by repeat constructor))⟩)
theorem mats_one {w0 w : World} {B g : Nat} {t : List UInt8} {st : Int} {R : List HA} (h : Sat w0 B (MB g t (meOf t) st :: R) w) : Sat w0 B (HA.mats [(g, t)] :: R) w :=
  Sat.matsIn (l := []) (r := []) ((Sat.mats0 h).perm (List.Perm.swap _ _ _))
end Go.Proofs.Ytblpgpgbnlhjlaa
namespace Go.Proofs.Ytblpgpgbnlhjlaa
open Go Go.RowKit Sl
set_option maxRecDepth 100000
set_option maxHeartbeats 8000000
set_option linter.unusedVariables false
set_option linter.unusedSimpArgs false
attribute [local irreducible] ES EL PX wps
theorem rd_mem {w0 w : World} {B n cap sz e : Nat} {H : List HA} {ad : Option Addr} {cs : List Value} (hs : Sat w0 B H w) (hm : HA.row (.slice ad n cap) e sz n cs ∈ H) (hsz : 0 < sz) : Rd w w.heap.size ad cs := by
  intro hne
  have hf := row_form (hs.all _ hm)
  have hpos : 0 < n := by
    rcases Nat.eq_zero_or_pos n with h0 | h0
    · subst h0; exact absurd (List.eq_nil_of_length_eq_zero (by simpa using hf.2.2.2.1)) hne
    · exact h0
  obtain ⟨g, rfl⟩ := hf.2.2.2.2 hpos
  have hlt := (hs.lo g (List.mem_flatMap.2 ⟨_, hm, by simp [HA.row, Value.ownBlock]⟩)).2
  exact ⟨g, 0, rfl, hlt, fun j v hj => by rw [Nat.zero_add]; exact row_cell (hs.all _ hm) j v hj⟩
end Go.Proofs.Ytblpgpgbnlhjlaa
namespace Go.Proofs.Ytblpgpgbnlhjlaa
open Go Go.RowKit Sl
set_option maxRecDepth 100000
set_option maxHeartbeats 8000000
set_option linter.unusedVariables false
set_option linter.unusedSimpArgs false
attribute [local irreducible] ES EL PX wps
theorem blen_t (g : Nat) (u : Bool) (ad : Option Addr) (cap : Nat) (bs : List UInt8) : Mut Try.prog 72 #[Pv g 0] (HB g u ad cap bs) (fun _ : Unit => Iv bs.length) (fun _ => HB g u ad cap bs) := by
  intro w0 B R w h
  replace h : Sat w0 B (HA.blk g (.cells #[.pointer (if u then some ⟨g, 0, none⟩ else none), .slice ad bs.length cap] 170) :: HA.buf (.slice ad bs.length cap) 5 bs.length (bs.map Uv) :: R) w := h
  refine calls_of_ES TB Try.func72 rfl _ Try.ntmps72 rfl h ?_
  refine .go ?_; repeat constructor
  refine EL.assign rfl rfl rfl ?_
  refine .go ?_; repeat constructor
  refine EL.move rfl rfl rfl ?_
  refine EL.nilCheck rfl rfl rfl ?_
  refine EL.fieldAddr rfl rfl rfl rfl rfl rfl rfl rfl ?_
  (apply EL.loadB; exact rfl; exact rfl; exact rfl; exact rfl; exact rfl; (case hm => repeat constructor); exact rfl)
  refine EL.lenL rfl rfl rfl rfl rfl ?_
  refine EL.assign rfl rfl rfl ?_
  refine .go ?_; repeat constructor
  exact PX.ret rfl Try.results72 (.cons (.tmp rfl) .nil) (fun w hs => ⟨(), rfl, hs⟩)
structure BdS where
  i : Nat
  u : Bool
  ad : Option Addr
  cap : Nat
  bs : List UInt8
theorem build_c (ad : Option Addr) (cap : Nat) (put s : List UInt8) (hp : put.length ≤ 1024) (sa : Option Addr) (sn sc : Nat) (w : World) (hrd : Rd w w.heap.size ad [Iv (-1), Sv put]) : Pure Try.prog 55 #[.slice ad 1 cap, Sv s, .slice sa sn sc] (fun _ : Unit => .tuple #[Sv put, Iv 0]) (fun _ => []) w := by
  obtain ⟨pg, po, rfl, _⟩ := hrd (by simp)
  refine calls_of_ES TB Try.func55 rfl _ Try.ntmps55 rfl (Sat.start w) ?_
  refine .go ?_; repeat constructor
  refine EL.assign rfl rfl rfl ?_
  refine EL.assign rfl rfl rfl ?_
  refine .go ?_; repeat constructor
  (refine EL.alloc rfl rfl rfl ?_; intro g8)
  refine .go ?_; repeat constructor
  refine EL.nilBuf 5 ?_
  refine .go ?_; repeat constructor
  refine EL.move rfl rfl rfl ?_
  refine EL.lenL rfl rfl rfl rfl rfl ?_
  refine EL.move rfl rfl rfl ?_
  refine .go ?_; repeat constructor
  refine ES.loop (σ := BdS) (fun y => (y.i = 0 ∧ y.bs = []) ∨ (y.i = 1 ∧ y.bs = put)) (fun y => [(1, Sv s), (2, .slice sa sn sc), (8, Pv g8 0), (12, .slice (some ⟨pg, po, none⟩) 1 cap), (13, Iv 1), (14, Iv (y.i : Nat))])
    (fun y => HA.blk g8 (.cells #[.pointer (if y.u then some ⟨g8, 0, none⟩ else none), .slice y.ad y.bs.length y.cap] 170) :: HA.buf (.slice y.ad y.bs.length y.cap) 5 y.bs.length (y.bs.map Uv) :: []) (fun y => 1 - y.i) ⟨0, false, none, 0, []⟩ (.inl ⟨rfl, rfl⟩) ⟨rfl, rfl, rfl, rfl, rfl, rfl, trivial⟩ (.i (by repeat constructor)) ?_
  rintro ⟨i, u, bad, bcap, bs⟩ hinv
  dsimp only at hinv ⊢
  refine .go ?_; repeat constructor
  refine EL.lss rfl rfl rfl rfl ?_
  refine .go ?_; repeat constructor
  refine ES.condD rfl (fun hlt => ?_) (fun hge => ?_)
  · obtain ⟨rfl, rfl⟩ : i = 0 ∧ bs = [] := by
      rcases hinv with h | h
      · exact h
      · omega
    refine .go ?_; repeat constructor
    refine EL.indexAddrL (i := 0) rfl rfl rfl rfl rfl rfl rfl (by omega) ?_
    refine EL.loadOldA (j := 0) (vs := [Iv (-1), Sv put]) rfl rfl rfl rfl rfl (by simp) rfl hrd (fun i u h => by rw [Nat.zero_add]; exact h) ?_
    (refine EL.alloc rfl rfl rfl ?_; intro g10)
    (apply EL.storeAll; exact rfl; exact rfl; exact rfl; exact rfl; exact rfl; (case p => repeat constructor); exact rfl; (case h1 => exact (by first | rfl | exact all1 rfl | (intro u hu; simp only [List.mem_cons, List.not_mem_nil, or_false] at hu; rcases hu with rfl | rfl | rfl | rfl <;> rfl) | (intro u hu; simp at hu; rcases hu with rfl | rfl | rfl | rfl <;> rfl) | (intro u hu; simp at hu; rcases hu with rfl | rfl | rfl <;> rfl) | (intro u hu; simp at hu; rcases hu with rfl | rfl <;> rfl) | (intro u hu; simp at hu; obtain ⟨_, _, rfl⟩ := hu; rfl))))
    refine .go ?_; repeat constructor
    refine .go ?_; repeat constructor
    refine EL.fieldAddr rfl rfl rfl rfl rfl rfl rfl rfl ?_
    (apply EL.loadB; exact rfl; exact rfl; exact rfl; exact rfl; exact rfl; (case hm => repeat constructor); exact rfl)
    refine EL.lss rfl rfl rfl rfl ?_
    refine .go ?_; repeat constructor
    refine ES.condD rfl (fun h => absurd h (by decide)) (fun _ => ?_)
    refine .go ?_; repeat constructor
    refine EL.fieldAddr rfl rfl rfl rfl rfl rfl rfl rfl ?_
    (apply EL.loadB; exact rfl; exact rfl; exact rfl; exact rfl; exact rfl; (case hm => repeat constructor); exact rfl)
    refine EL.assign rfl rfl rfl ?_
    refine .go ?_; repeat constructor
    refine EL.fieldAddr rfl rfl rfl rfl rfl rfl rfl rfl ?_
    (apply EL.loadB; exact rfl; exact rfl; exact rfl; exact rfl; exact rfl; (case hm => repeat constructor); exact rfl)
    refine EL.geq rfl rfl rfl rfl ?_
    refine .go ?_; repeat constructor
    refine ES.condD rfl (fun h => absurd h (by decide)) (fun _ => ?_)
    refine .go ?_; repeat constructor
    refine EL.callM1 rfl rfl rfl ent72 rfl (blen_t g8 u bad bcap []) (by repeat constructor) ?_
    refine EL.move rfl rfl rfl ?_
    refine EL.lenS rfl rfl rfl rfl rfl ?_
    refine EL.addN (m := 0) (n := put.length) rfl rfl rfl rfl rfl (by omega) ?_
    refine EL.gtr rfl rfl rfl rfl ?_
    refine .go ?_; repeat constructor
    refine ES.condD rfl (fun h => ?_) (fun _ => ?_)
    · omega
    refine .go ?_; repeat constructor
    refine EL.move rfl rfl rfl ?_
    (refine EL.callM rfl rfl rfl ent73 rfl (writeString_c g8 u bad bcap [] put (by simp; omega)) (by repeat constructor) ?_; rintro ⟨ad2, cap2⟩)
    refine .go ?_; repeat constructor
    refine EL.add1 rfl rfl rfl rfl (by omega) ?_
    refine EL.move rfl rfl rfl ?_
    refine .go ?_; repeat constructor
    exact PX.loop ⟨1, true, ad2, cap2, put⟩ (.inr ⟨rfl, rfl⟩) (by show 1 - 1 < 1 - 0; decide) ⟨rfl, rfl, rfl, rfl, rfl, rfl, trivial⟩ (.i (by repeat constructor))
  · obtain ⟨rfl, rfl⟩ : i = 1 ∧ bs = put := by
      rcases hinv with h | h
      · omega
      · exact h
    refine .go ?_; repeat constructor
    refine EL.callM1 rfl rfl rfl ent74 rfl (bstring_c g8 u bad bcap bs (by omega)) (by repeat constructor) ?_
    refine EL.assign rfl rfl rfl ?_
    refine EL.assign rfl rfl rfl ?_
    refine .go ?_; repeat constructor
    exact PX.ret rfl Try.results55 (.cons (.tmp rfl) (.cons (.tmp rfl) .nil)) (fun w hs => ⟨(), rfl, hs.ent (.nil _)⟩)
abbrev LB (g : Nat) (ad : Option Addr) (cap : Nat) (out : List UInt8) : List HA := [HA.blk g (.cells #[.slice ad out.length cap, .bool false] 133), HA.buf (.slice ad out.length cap) 5 out.length (out.map Uv)]
theorem add_t (g : Nat) (ad : Option Addr) (cap : Nat) (out l : List UInt8) (hb : out.length + l.length ≤ 1024) : Mut Try.prog 56 #[Pv g 0, Sv l] (LB g ad cap out) (fun _ : Option Addr × Nat => .tuple #[]) (fun x => LB g x.1 x.2 (out ++ l)) := by
  intro w0 B R w h
  replace h : Sat w0 B (HA.blk g (.cells #[.slice ad out.length cap, .bool false] 133) :: HA.buf (.slice ad out.length cap) 5 out.length (out.map Uv) :: R) w := h
  have e1 : (out ++ l).length = out.length + l.length := by simp
  have e2 : (out ++ l).map Uv = out.map Uv ++ l.map Uv := by simp
  refine calls_of_ES TB Try.func56 rfl _ Try.ntmps56 rfl h ?_
  refine .go ?_; repeat constructor
  refine EL.move rfl rfl rfl ?_
  refine EL.nilCheck rfl rfl rfl ?_
  refine EL.fieldAddr rfl rfl rfl rfl rfl rfl rfl rfl ?_
  (apply EL.loadB; exact rfl; exact rfl; exact rfl; exact rfl; exact rfl; (case hm => repeat constructor); exact rfl)
  refine EL.move rfl rfl rfl ?_
  refine EL.rew (d := 8) (v' := .bool false) rfl (by first | rfl | (decide) | (simp)) ?_
  refine EL.move rfl rfl rfl ?_
  refine EL.nilCheck rfl rfl rfl ?_
  refine EL.fieldAddr rfl rfl rfl rfl rfl rfl rfl rfl ?_
  (apply EL.loadB; exact rfl; exact rfl; exact rfl; exact rfl; exact rfl; (case hm => repeat constructor); exact rfl)
  refine EL.lenL rfl rfl rfl rfl rfl ?_
  refine EL.move rfl rfl rfl ?_
  refine EL.lenS rfl rfl rfl rfl rfl ?_
  refine EL.addN rfl rfl rfl rfl rfl (by omega) ?_
  refine EL.gtr rfl rfl rfl rfl ?_
  refine EL.pickF rfl rfl rfl rfl ?_
  refine .go ?_; repeat constructor
  refine ES.condD rfl (fun h => ?_) (fun _ => ?_)
  · omega
  refine .go ?_; repeat constructor
  refine EL.move rfl rfl rfl ?_
  refine EL.move rfl rfl rfl ?_
  refine EL.nilCheck rfl rfl rfl ?_
  refine EL.fieldAddr rfl rfl rfl rfl rfl rfl rfl rfl ?_
  (apply EL.loadB; exact rfl; exact rfl; exact rfl; exact rfl; exact rfl; (case hm => repeat constructor); exact rfl)
  refine EL.move rfl rfl rfl ?_
  (refine EL.appendB rfl rfl rfl rfl rfl rfl rfl rfl rfl rfl rfl rfl (by repeat constructor) (by omega) ?_; intro ad2 cap2)
  refine EL.nilCheck rfl rfl rfl ?_
  refine EL.fieldAddr rfl rfl rfl rfl rfl rfl rfl rfl ?_
  (apply EL.storeB; exact rfl; exact rfl; exact rfl; exact rfl; exact rfl; exact rfl; (case p => repeat constructor); exact (by first | decide | exact Nat.le_of_ble_eq_true rfl | simp))
  refine .go ?_; repeat constructor
  exact PX.end rfl Try.results56 .nil (fun w hs => ⟨(ad2, cap2), rfl, by
    show Sat w0 B (HA.blk g (.cells #[.slice ad2 (out ++ l).length cap2, .bool false] 133) :: HA.buf (.slice ad2 (out ++ l).length cap2) 5 (out ++ l).length ((out ++ l).map Uv) :: R) w
    rw [e1, e2]
    exact hs.ent (.i (by repeat constructor))⟩)
end Go.Proofs.Ytblpgpgbnlhjlaa
namespace Go.Proofs.Ytblpgpgbnlhjlaa
open Go Go.RowKit Sl
set_option maxRecDepth 100000
set_option maxHeartbeats 8000000
set_option linter.unusedVariables false
set_option linter.unusedSimpArgs false
attribute [local irreducible] ES EL PX wps
def Iter (R : Nat → Nat → Prop) : Nat → Nat → Nat → Prop
  | 0, i, j => i = j
  | c + 1, i, j => ∃ m, R i m ∧ Iter R c m j
theorem Iter.snoc {R : Nat → Nat → Prop} : ∀ {c i m j}, Iter R c i m → R m j → Iter R (c + 1) i j
  | 0, i, m, j, h, hr => by
    have h : i = m := h
    subst h
    exact ⟨j, hr, rfl⟩
  | c + 1, i, m, j, ⟨u, h1, h2⟩, hr => ⟨u, h1, Iter.snoc h2 hr⟩
theorem Iter.add {R : Nat → Nat → Prop} : ∀ {c d i j}, Iter R (c + d) i j ↔ ∃ m, Iter R c i m ∧ Iter R d m j
  | 0, d, i, j => by
    rw [Nat.zero_add]
    exact ⟨fun h => ⟨i, rfl, h⟩, fun ⟨m, h1, h2⟩ => by cases (show i = m from h1); exact h2⟩
  | c + 1, d, i, j => by
    rw [Nat.succ_add]
    constructor
    · rintro ⟨u, h1, h2⟩
      obtain ⟨m, h3, h4⟩ := Iter.add.1 h2
      exact ⟨m, ⟨u, h1, h3⟩, h4⟩
    · rintro ⟨m, ⟨u, h1, h3⟩, h4⟩
      exact ⟨u, h1, Iter.add.2 ⟨m, h3, h4⟩⟩
def RepN (lo : Nat) (hi : Int) (k : RE) (c : Nat) : Prop := leastM lo k ≤ c ∧ (if hi = (lo : Int) ∨ k.thin = true then c = leastM lo k else hi < 0 ∨ c ≤ leastM lo k + (hi.toNat - lo))
mutual
def Hit (s : List UInt8) : RE → Nat → Nat → Prop
  | .byte S, i, j => (i < s.length ∧ hasS S (s.getD i 0).toNat = true) ∧ j = i + 1
  | .bol, i, j => i = 0 ∧ j = i
  | .eol, i, j => i = s.length ∧ j = i
  | .back _, i, j => j = i ∨ (i < j ∧ j ≤ s.length)
  | .group _ k, i, j => Hit s k i j
  | .cat ks, i, j => HitL s ks i j
  | .rep lo hi k, i, j => ∃ c, RepN lo hi k c ∧ Iter (Hit s k) c i j
def HitL (s : List UInt8) : List RE → Nat → Nat → Prop
  | [], i, j => i = j
  | k :: ks, i, j => ∃ m, Hit s k i m ∧ HitL s ks m j
end
abbrev ERow (a : AM) (q : Nat) : List Ed := a.out.getD q []
abbrev FW (s : List UInt8) (a : AM) (x y : Nat × Nat) : Prop := Rch a.out s true x y
theorem getD_nil {l : List (List Ed)} {q : Nat} (h : l.length ≤ q) : l.getD q [] = [] := by
  rw [List.getD_eq_getElem?_getD, List.getElem?_eq_none h]; rfl
theorem row_lt {a : AM} {q : Nat} {e : Ed} (h : e ∈ ERow a q) : q < a.out.length := by
  apply Decidable.byContradiction
  intro hn
  rw [show ERow a q = [] from getD_nil (by omega)] at h
  cases h
theorem getD_addTo (l : List (List Ed)) (f q : Nat) (e : Ed) (hf : f < l.length) : (addTo l f e).getD q [] = if q = f then l.getD q [] ++ [e] else l.getD q [] := by
  unfold addTo
  by_cases h : q = f
  · subst h
    rw [if_pos rfl]
    simp [List.getD_eq_getElem?_getD, hf]
  · rw [if_neg h, List.getD_eq_getElem?_getD, List.getElem?_set, if_neg (fun e => h e.symm), ← List.getD_eq_getElem?_getD]
theorem getD_new (l : List (List Ed)) (q : Nat) : (l ++ [[]]).getD q [] = l.getD q [] := by
  rw [List.getD_eq_getElem?_getD, List.getD_eq_getElem?_getD]
  by_cases h : q < l.length
  · rw [List.getElem?_append_left h]
  · rw [List.getElem?_append_right (by omega), List.getElem?_eq_none (show l.length ≤ q by omega)]
    cases q - l.length with
    | zero => rfl
    | succ n => rfl
theorem row_link {a : AM} {f t k : Nat} {S : BS} (hf : f < a.out.length) (q : Nat) : ERow (a.link f t k S) q = if q = f then ERow a q ++ [⟨k, S, t⟩] else ERow a q := getD_addTo _ _ _ _ hf
theorem row_step {a : AM} {f k : Nat} {S : BS} (hf : f < a.out.length) (q : Nat) : ERow (a.step f k S) q = if q = f then ERow a q ++ [⟨k, S, a.out.length⟩] else ERow a q := by
  unfold AM.step
  rw [row_link (by rw [add_len]; omega), show ERow a.add q = ERow a q from getD_new _ _]
theorem Rch.mono {es es' : List (List Ed)} {s : List UInt8} {fwd : Bool} {x y : Nat × Nat} (h : ∀ q e, e ∈ es.getD q [] → e ∈ es'.getD q []) (hr : Rch es s fwd x y) : Rch es' s fwd x y := by
  induction hr with
  | here => exact .here
  | step _ he hp ih => exact .step ih (h _ _ he) hp
theorem Rch.trans {es : List (List Ed)} {s : List UInt8} {fwd : Bool} {x y z : Nat × Nat} (h1 : Rch es s fwd x y) (h2 : Rch es s fwd y z) : Rch es s fwd x z := by
  induction h2 with
  | here => exact h1
  | step _ he hp ih => exact .step ih he hp
theorem Rch.dead {es : List (List Ed)} {s : List UInt8} {fwd : Bool} {q i : Nat} {y : Nat × Nat} (hd : es.getD q [] = []) (h : Rch es s fwd (q, i) y) : y = (q, i) := by
  induction h with
  | here => rfl
  | step _ he _ ih =>
    injection ih with h1 h2
    subst h1
    rw [hd] at he
    cases he
theorem Rch.inv {es : List (List Ed)} {s : List UInt8} {fwd : Bool} {x : Nat × Nat} {t b : Nat} (h : Rch es s fwd x (t, b)) : x = (t, b) ∨ ∃ q a e, Rch es s fwd x (q, a) ∧ e ∈ es.getD q [] ∧ e.to = t ∧ placeM s fwd e a = some b := by
  cases h with
  | here => exact .inl rfl
  | step h he hp => exact .inr ⟨_, _, _, h, he, rfl, hp⟩
theorem eps_place (s : List UInt8) (fwd : Bool) (S : BS) (t a : Nat) : placeM s fwd ⟨0, S, t⟩ a = some a := rfl
def Wf (a : AM) : Prop := ∀ q, ∀ e ∈ ERow a q, e.to < a.out.length
theorem wf_link {a : AM} {f t k : Nat} {S : BS} (h : Wf a) (hf : f < a.out.length) (ht : t < a.out.length) : Wf (a.link f t k S) := fun q e he => by
  rw [(link_len _ _ _ _ _).1]
  rw [row_link hf] at he
  split at he
  · rcases List.mem_append.1 he with he | he
    · exact h q e he
    · rw [List.mem_singleton] at he; subst he; exact ht
  · exact h q e he
theorem wf_step {a : AM} {f k : Nat} {S : BS} (h : Wf a) (hf : f < a.out.length) : Wf (a.step f k S) := fun q e he => by
  rw [step_len]
  rw [row_step hf] at he
  split at he
  · rcases List.mem_append.1 he with he | he
    · have := h q e he; omega
    · rw [List.mem_singleton] at he; subst he; exact Nat.lt_succ_self _
  · have := h q e he; omega
structure Grow (a b : AM) (p : Nat) : Prop where
  len : a.out.length ≤ b.out.length
  sub : ∀ q, ∀ e ∈ ERow a q, e ∈ ERow b q
  new : ∀ q, ∀ e ∈ ERow b q, e ∈ ERow a q ∨ ((q = p ∨ a.out.length ≤ q) ∧ a.out.length ≤ e.to)
theorem Grow.refl (a : AM) (p : Nat) : Grow a a p := ⟨Nat.le_refl _, fun _ _ h => h, fun _ _ h => .inl h⟩
theorem Grow.comp {a b c : AM} {p q : Nat} (h1 : Grow a b p) (h2 : Grow b c q) (hq : q = p ∨ a.out.length ≤ q) : Grow a c p := by
  have := h1.len
  refine ⟨Nat.le_trans h1.len h2.len, fun r e h => h2.sub r e (h1.sub r e h), fun r e h => ?_⟩
  rcases h2.new r e h with h | ⟨hr, ht⟩
  · exact h1.new r e h
  · right
    refine ⟨?_, by omega⟩
    rcases hr with rfl | hr
    · exact hq
    · right; omega
theorem Grow.old {s : List UInt8} {a b : AM} {p x0 i y j : Nat} (h : Grow a b p) (hw : Wf a) (hx : x0 < a.out.length) (hy : y < a.out.length) : FW s b (x0, i) (y, j) ↔ FW s a (x0, i) (y, j) := by
  refine ⟨fun hr => ?_, fun hr => hr.mono h.sub⟩
  have key : ∀ z, FW s b (x0, i) z → z.1 < a.out.length → FW s a (x0, i) z := by
    intro z hz
    induction hz with
    | here => exact fun _ => .here
    | step h1 he hp ih =>
      intro hlt
      rcases h.new _ _ he with he | ⟨_, h3⟩
      · exact .step (ih (row_lt he)) he hp
      · have hlt : _ < a.out.length := hlt
        dsimp only at hlt
        omega
  exact key _ hr hy
theorem grow_step {a : AM} {p k : Nat} {S : BS} (hp : p < a.out.length) : Grow a (a.step p k S) p := by
  refine ⟨by rw [step_len]; omega, fun q e h => ?_, fun q e h => ?_⟩
  · rw [row_step hp]; split
    · exact List.mem_append.2 (.inl h)
    · exact h
  · rw [row_step hp] at h
    split at h
    · rename_i e1
      rcases List.mem_append.1 h with h | h
      · exact .inl h
      · rw [List.mem_singleton] at h; subst h; exact .inr ⟨.inl e1, Nat.le_refl _⟩
    · exact .inl h
theorem step_hit {s : List UInt8} {a : AM} {p k x0 i j : Nat} {S : BS} (hw : Wf a) (hp : p < a.out.length) (hx : x0 < a.out.length) : FW s (a.step p k S) (x0, i) (a.out.length, j) ↔ ∃ m, FW s a (x0, i) (p, m) ∧ placeM s true ⟨k, S, a.out.length⟩ m = some j := by
  have hg := grow_step (k := k) (S := S) hp
  constructor
  · intro h
    rcases h.inv with h | ⟨q, m, e, h1, he, ht, hpl⟩
    · injection h with h1 h2; omega
    · have he' : e ∈ ERow (a.step p k S) q := he
      rw [row_step hp] at he'
      split at he'
      · rename_i e1
        rcases List.mem_append.1 he' with he' | he'
        · have := hw q e he'; omega
        · rw [List.mem_singleton] at he'; subst he' e1
          exact ⟨m, (hg.old hw hx hp).1 h1, hpl⟩
      · have := hw q e he'; omega
  · rintro ⟨m, h1, h2⟩
    refine Rch.step (e := ⟨k, S, a.out.length⟩) (h1.mono hg.sub) ?_ h2
    show _ ∈ ERow (a.step p k S) p
    rw [row_step hp, if_pos rfl]
    simp
structure LayH (s : List UInt8) (f : AM → Nat → AM × Nat) (R : Nat → Nat → Prop) : Prop where
  wf : ∀ a p, Wf a → p < a.out.length → Wf (f a p).1
  grow : ∀ a p, Wf a → p < a.out.length → Grow a (f a p).1 p
  out : ∀ a p, Wf a → p < a.out.length → ((f a p).2 = p ∨ a.out.length ≤ (f a p).2) ∧ (f a p).2 < (f a p).1.out.length
  hit : ∀ a p x0 i j, Wf a → p < a.out.length → x0 < a.out.length → (FW s (f a p).1 (x0, i) ((f a p).2, j) ↔ ∃ m, FW s a (x0, i) (p, m) ∧ R m j)
theorem LayH.iff {s : List UInt8} {f : AM → Nat → AM × Nat} {R R' : Nat → Nat → Prop} (h : LayH s f R) (e : ∀ i j, R i j ↔ R' i j) : LayH s f R' :=
  ⟨h.wf, h.grow, h.out, fun a p x0 i j h1 h2 h3 => (h.hit a p x0 i j h1 h2 h3).trans ⟨fun ⟨m, a, b⟩ => ⟨m, a, (e _ _).1 b⟩, fun ⟨m, a, b⟩ => ⟨m, a, (e _ _).2 b⟩⟩⟩
theorem LayH.id (s : List UInt8) : LayH s (fun a p => (a, p)) (fun i j => i = j) :=
  ⟨fun _ _ h _ => h, fun a p _ _ => Grow.refl a p, fun _ _ _ h => ⟨.inl rfl, h⟩, fun a p x0 i j _ _ _ => ⟨fun h => ⟨j, h, rfl⟩, fun ⟨m, h, e⟩ => e ▸ h⟩⟩
theorem LayH.seq {s : List UInt8} {f g : AM → Nat → AM × Nat} {R R' : Nat → Nat → Prop} (h1 : LayH s f R) (h2 : LayH s g R') : LayH s (fun a p => g (f a p).1 (f a p).2) (fun i j => ∃ m, R i m ∧ R' m j) := by
  refine ⟨fun a p hw hp => h2.wf _ _ (h1.wf a p hw hp) (h1.out a p hw hp).2, fun a p hw hp => (h1.grow a p hw hp).comp (h2.grow _ _ (h1.wf a p hw hp) (h1.out a p hw hp).2) (h1.out a p hw hp).1, fun a p hw hp => ?_, fun a p x0 i j hw hp hx => ?_⟩
  · have e1 := h1.out a p hw hp
    have e2 := h2.out _ _ (h1.wf a p hw hp) e1.2
    have e3 := (h1.grow a p hw hp).len
    refine ⟨?_, e2.2⟩
    rcases e2.1 with e | e
    · rw [e]; exact e1.1
    · right; omega
  · have e1 := h1.out a p hw hp
    have e3 := (h1.grow a p hw hp).len
    rw [h2.hit _ _ x0 i j (h1.wf a p hw hp) e1.2 (by omega)]
    constructor
    · rintro ⟨m, hm, hr⟩
      obtain ⟨m0, h3, h4⟩ := (h1.hit a p x0 i m hw hp hx).1 hm
      exact ⟨m0, h3, m, h4, hr⟩
    · rintro ⟨m0, h3, m, h4, hr⟩
      exact ⟨m, (h1.hit a p x0 i m hw hp hx).2 ⟨m0, h3, h4⟩, hr⟩
theorem LayH.times {s : List UInt8} {f : AM → Nat → AM × Nat} {R : Nat → Nat → Prop} (h : LayH s f R) : ∀ n, LayH s (timesA f n) (Iter R n)
  | 0 => LayH.id s
  | n + 1 => (LayH.seq h (LayH.times h n))
theorem LayH.edge (s : List UInt8) (k : Nat) (S : BS) (R : Nat → Nat → Prop) (hR : ∀ t i j, placeM s true ⟨k, S, t⟩ i = some j ↔ R i j) : LayH s (fun a p => (a.step p k S, a.out.length)) R :=
  ⟨fun a p hw hp => wf_step hw hp, fun a p _ hp => grow_step hp, fun a p _ hp => ⟨.inr (Nat.le_refl _), by rw [step_len]; exact Nat.lt_succ_self _⟩, fun a p x0 i j hw hp hx => (step_hit hw hp hx).trans ⟨fun ⟨m, h1, h2⟩ => ⟨m, h1, (hR _ _ _).1 h2⟩, fun ⟨m, h1, h2⟩ => ⟨m, h1, (hR _ _ _).2 h2⟩⟩⟩
def starA (f : AM → Nat → AM × Nat) (a : AM) (p : Nat) : AM × Nat :=
  ((f (a.step p 0 zeroS) a.out.length).1.link (f (a.step p 0 zeroS) a.out.length).2 a.out.length 0 zeroS, a.out.length)
theorem LayH.star {s : List UInt8} {f : AM → Nat → AM × Nat} {R : Nat → Nat → Prop} (h : LayH s f R) : LayH s (starA f) (fun i j => ∃ c, Iter R c i j) := by
  have all : ∀ a p, Wf a → p < a.out.length → Wf (starA f a p).1 ∧ Grow a (starA f a p).1 p ∧ a.out.length < (starA f a p).1.out.length ∧ ∀ x0 i j, x0 < a.out.length → (FW s (starA f a p).1 (x0, i) (a.out.length, j) ↔ ∃ m, FW s a (x0, i) (p, m) ∧ ∃ c, Iter R c m j) := by
    intro a p hw hp
    have hw2 := wf_step (k := 0) (S := zeroS) hw hp
    have hl2 : (a.step p 0 zeroS).out.length = a.out.length + 1 := step_len _ _ _ _
    have hh : a.out.length < (a.step p 0 zeroS).out.length := by omega
    have hg2 := grow_step (k := 0) (S := zeroS) hp
    have hw3 := h.wf _ _ hw2 hh
    have hg3 := h.grow _ _ hw2 hh
    obtain ⟨ho, hlt⟩ := h.out _ _ hw2 hh
    have hhit := fun x0 i j => h.hit _ a.out.length x0 i j hw2 hh
    have hrow2 := fun q => row_step (k := 0) (S := zeroS) hp q
    unfold starA
    dsimp only
    generalize f (a.step p 0 zeroS) a.out.length = y at hw3 hg3 ho hlt hhit
    obtain ⟨a3, q3⟩ := y
    dsimp only at hw3 hg3 ho hlt hhit ⊢
    have hl3 := hg3.len
    have hrow4 := fun q => row_link (k := 0) (S := zeroS) (t := a.out.length) hlt q
    have hsub4 : ∀ q, ∀ e ∈ ERow a3 q, e ∈ ERow (a3.link q3 a.out.length 0 zeroS) q := fun q e he => by
      rw [hrow4]; split
      · exact List.mem_append.2 (.inl he)
      · exact he
    have hl4 : (a3.link q3 a.out.length 0 zeroS).out.length = a3.out.length := (link_len _ _ _ _ _).1
    have hdead : ERow (a.step p 0 zeroS) a.out.length = [] := by
      rw [hrow2, if_neg (by omega)]
      exact getD_nil (Nat.le_refl _)
    refine ⟨wf_link hw3 hlt (by omega), ⟨by rw [hl4]; omega, fun q e he => hsub4 q e (hg3.sub q e (hg2.sub q e he)), fun q e he => ?_⟩, by rw [hl4]; omega, fun x0 i j hx => ⟨fun hr => ?_, ?_⟩⟩
    · have h23 := hg2.comp hg3 (.inr (Nat.le_refl _))
      rw [hrow4] at he
      split at he
      · rename_i e1
        rcases List.mem_append.1 he with he | he
        · exact h23.new q e he
        · rw [List.mem_singleton] at he; subst he e1
          refine .inr ⟨.inr (by omega), Nat.le_refl _⟩
      · exact h23.new q e he
    · have key : ∀ z, FW s (a3.link q3 a.out.length 0 zeroS) (x0, i) z → (z.1 < a.out.length ∧ FW s a (x0, i) z) ∨ ∃ m c m', FW s a (x0, i) (p, m) ∧ Iter R c m m' ∧ FW s a3 (a.out.length, m') z := by
        intro z hz
        induction hz with
        | here => exact .inl ⟨hx, .here⟩
        | @step q u b e h1 he hpl ih =>
          have he' : e ∈ ERow (a3.link q3 a.out.length 0 zeroS) q := he
          rw [hrow4] at he'
          have hcase : e ∈ ERow a3 q ∨ (q = q3 ∧ e = ⟨0, zeroS, a.out.length⟩) := by
            split at he'
            · rename_i e1
              rcases List.mem_append.1 he' with he' | he'
              · exact .inl he'
              · exact .inr ⟨e1, List.mem_singleton.1 he'⟩
            · exact .inl he'
          rcases hcase with he3 | ⟨rfl, rfl⟩
          · rcases ih with ⟨hq, hold⟩ | ⟨m, c, m', k1, k2, k3⟩
            · have hq : q < a.out.length := hq
              rcases hg3.new q e he3 with he2 | ⟨hbad, _⟩
              · rw [hrow2] at he2
                split at he2
                · rename_i e1
                  rcases List.mem_append.1 he2 with he2 | he2
                  · exact .inl ⟨hw q e he2, .step hold he2 hpl⟩
                  · rw [List.mem_singleton] at he2; subst he2 e1
                    rw [eps_place] at hpl
                    cases hpl
                    exact .inr ⟨u, 0, u, hold, rfl, .here⟩
                · exact .inl ⟨hw q e he2, .step hold he2 hpl⟩
              · omega
            · exact .inr ⟨m, c, m', k1, k2, .step k3 he3 hpl⟩
          · rw [eps_place] at hpl
            cases hpl
            rcases ih with ⟨hq, hold⟩ | ⟨m, c, m', k1, k2, k3⟩
            · have hq : q < a.out.length := hq
              omega
            · obtain ⟨m2, k4, k5⟩ := (hhit _ _ _ hh).1 k3
              have := Rch.dead hdead k4
              injection this with _ e2
              subst e2
              exact .inr ⟨m, c + 1, u, k1, k2.snoc k5, .here⟩
      rcases key _ hr with ⟨hbad, _⟩ | ⟨m, c, m', k1, k2, k3⟩
      · exact absurd hbad (by dsimp only; omega)
      · have k4 := (hg3.old hw2 hh hh).1 k3
        have := Rch.dead hdead k4
        injection this with _ e2
        subst e2
        exact ⟨m, k1, c, k2⟩
    · rintro ⟨m, h1, c, hc⟩
      have hbase : FW s (a3.link q3 a.out.length 0 zeroS) (x0, i) (a.out.length, m) := by
        have h2 := (step_hit (k := 0) (S := zeroS) hw hp hx (j := m) (s := s) (i := i)).2 ⟨m, h1, rfl⟩
        exact (h2.mono hg3.sub).mono hsub4
      clear h1
      induction c generalizing m with
      | zero =>
        cases (show m = j from hc)
        exact hbase
      | succ c ih =>
        obtain ⟨m1, k1, k2⟩ := hc
        refine ih m1 k2 ?_
        have h3 : FW s a3 (a.out.length, m) (q3, m1) := (hhit _ _ _ hh).2 ⟨m, .here, k1⟩
        refine Rch.step (e := ⟨0, zeroS, a.out.length⟩) (hbase.trans (h3.mono hsub4)) ?_ (eps_place _ _ _ _ _)
        show _ ∈ ERow _ q3
        rw [hrow4, if_pos rfl]
        simp
  exact ⟨fun a p hw hp => (all a p hw hp).1, fun a p hw hp => (all a p hw hp).2.1, fun a p hw hp => ⟨.inr (Nat.le_refl _), (all a p hw hp).2.2.1⟩, fun a p x0 i j hw hp hx => (all a p hw hp).2.2.2 x0 i j hx⟩
end Go.Proofs.Ytblpgpgbnlhjlaa
namespace Go.Proofs.Ytblpgpgbnlhjlaa
open Go Go.RowKit Sl
set_option maxRecDepth 100000
set_option maxHeartbeats 8000000
set_option linter.unusedVariables false
set_option linter.unusedSimpArgs false
attribute [local irreducible] ES EL PX wps
theorem opt_all {s : List UInt8} {f : AM → Nat → AM × Nat} {R : Nat → Nat → Prop} (h : LayH s f R) (o : Nat) : ∀ (n : Nat) (a : AM) (p : Nat), Wf a → p < a.out.length → o < a.out.length → o ≠ p → ERow a o = [] →
    Wf (optA f o n a p) ∧ a.out.length ≤ (optA f o n a p).out.length ∧ (∀ q, ∀ e ∈ ERow a q, e ∈ ERow (optA f o n a p) q) ∧ (∀ q, ∀ e ∈ ERow (optA f o n a p) q, e ∈ ERow a q ∨ ((q = p ∨ a.out.length ≤ q) ∧ (e.to = o ∨ a.out.length ≤ e.to))) ∧
    ∀ x0 i j, x0 < a.out.length → (FW s (optA f o n a p) (x0, i) (o, j) ↔ FW s a (x0, i) (o, j) ∨ ∃ m c, FW s a (x0, i) (p, m) ∧ 1 ≤ c ∧ c ≤ n ∧ Iter R c m j)
  | 0, a, p, hw, hp, ho, hne, hd => ⟨hw, Nat.le_refl _, fun _ _ h => h, fun _ _ h => .inl h, fun x0 i j hx => ⟨.inl, fun h => by
    rcases h with h | ⟨m, c, _, h1, h2, _⟩
    · exact h
    · omega⟩⟩
  | n + 1, a, p, hw, hp, ho, hne, hd => by
    have hw1 := h.wf a p hw hp
    have hg := h.grow a p hw hp
    obtain ⟨hout, hlt⟩ := h.out a p hw hp
    have hhit := fun x0 i j => h.hit a p x0 i j hw hp
    rw [show optA f o (n + 1) a p = optA f o n ((f a p).1.link (f a p).2 o 0 zeroS) (f a p).2 from rfl]
    generalize f a p = y at hw1 hg hout hlt hhit
    obtain ⟨a1, p1⟩ := y
    dsimp only at hw1 hg hout hlt hhit ⊢
    have hl1 := hg.len
    have hne1 : o ≠ p1 := by
      rcases hout with e | e
      · rw [e]; exact hne
      · omega
    have hd1 : ERow a1 o = [] := by
      apply List.eq_nil_iff_forall_not_mem.2
      intro e he
      rcases hg.new o e he with h | ⟨h, _⟩
      · rw [hd] at h; cases h
      · omega
    have hrow2 := fun q => row_link (k := 0) (S := zeroS) (t := o) hlt q
    have hl2 : (a1.link p1 o 0 zeroS).out.length = a1.out.length := (link_len _ _ _ _ _).1
    have hw2 : Wf (a1.link p1 o 0 zeroS) := wf_link hw1 hlt (by omega)
    have hd2 : ERow (a1.link p1 o 0 zeroS) o = [] := by rw [hrow2, if_neg hne1]; exact hd1
    obtain ⟨k1, k2, k3, k4, k5⟩ := opt_all h o n _ p1 hw2 (by omega) (by omega) hne1 hd2
    have hsub2 : ∀ q, ∀ e ∈ ERow a1 q, e ∈ ERow (a1.link p1 o 0 zeroS) q := fun q e he => by
      rw [hrow2]; split
      · exact List.mem_append.2 (.inl he)
      · exact he
    have hrow3 : ∀ q, ∀ e ∈ ERow (a1.link p1 o 0 zeroS) q, e ∈ ERow a1 q ∨ (q = p1 ∧ e = ⟨0, zeroS, o⟩) := fun q e he => by
      rw [hrow2] at he
      split at he
      · rename_i e1
        rcases List.mem_append.1 he with he | he
        · exact .inl he
        · exact .inr ⟨e1, List.mem_singleton.1 he⟩
      · exact .inl he
    have hother : ∀ x z, FW s (a1.link p1 o 0 zeroS) x z → z.1 ≠ o → FW s a1 x z := by
      intro x z hz
      induction hz with
      | here => exact fun _ => .here
      | @step q u b e h1 he hpl ih =>
        intro hzo
        rcases hrow3 q e he with he1 | ⟨rfl, rfl⟩
        · exact .step (ih (fun e1 => by
            have e1 : q = o := e1
            rw [e1, hd1] at he1; cases he1)) he1 hpl
        · exact absurd rfl hzo
    have hexit : ∀ x0 i j, FW s (a1.link p1 o 0 zeroS) (x0, i) (o, j) ↔ FW s a1 (x0, i) (o, j) ∨ FW s a1 (x0, i) (p1, j) := by
      intro x0 i j
      constructor
      · intro hr
        rcases hr.inv with e | ⟨q, u, e, h1, he, ht, hpl⟩
        · rw [e]; exact .inl .here
        · rcases hrow3 q e he with he1 | ⟨rfl, rfl⟩
          · left
            have hq : q ≠ o := fun e1 => by rw [e1, hd1] at he1; cases he1
            have := Rch.step (hother _ _ h1 hq) he1 hpl
            rw [ht] at this; exact this
          · rw [eps_place] at hpl
            cases hpl
            exact .inr (hother _ _ h1 (fun e => hne1 e.symm))
      · rintro (h1 | h1)
        · exact h1.mono hsub2
        · refine Rch.step (e := ⟨0, zeroS, o⟩) (h1.mono hsub2) ?_ (eps_place _ _ _ _ _)
          show _ ∈ ERow _ p1
          rw [hrow2, if_pos rfl]; simp
    refine ⟨k1, by omega, fun q e he => k3 q e (hsub2 q e (hg.sub q e he)), fun q e he => ?_, fun x0 i j hx => ?_⟩
    · rcases k4 q e he with he2 | ⟨hq, ht⟩
      · rcases hrow3 q e he2 with he1 | ⟨rfl, rfl⟩
        · rcases hg.new q e he1 with h1 | ⟨h1, h2⟩
          · exact .inl h1
          · exact .inr ⟨h1, .inr h2⟩
        · exact .inr ⟨hout, .inl rfl⟩
      · rw [hl2] at hq ht
        right
        constructor
        · rcases hq with rfl | hq
          · exact hout
          · right; omega
        · rcases ht with ht | ht
          · exact .inl ht
          · right; omega
    · rw [k5 x0 i j (by omega), hexit]
      constructor
      · rintro ((h1 | h1) | ⟨m, c, h1, c1, c2, hc⟩)
        · exact .inl ((hg.old hw hx ho).1 h1)
        · obtain ⟨m, h2, h3⟩ := (hhit x0 i j hx).1 h1
          exact .inr ⟨m, 1, h2, by omega, by omega, j, h3, rfl⟩
        · have h2 := hother _ _ h1 (fun e => hne1 e.symm)
          obtain ⟨m0, h3, h4⟩ := (hhit x0 i m hx).1 h2
          exact .inr ⟨m0, c + 1, h3, by omega, by omega, m, h4, hc⟩
      · rintro (h1 | ⟨m, c, h1, c1, c2, hc⟩)
        · exact .inl (.inl ((hg.old hw hx ho).2 h1))
        · cases c with
          | zero => omega
          | succ c =>
            obtain ⟨m1, h2, h3⟩ := hc
            have h4 : FW s a1 (x0, i) (p1, m1) := (hhit x0 i m1 hx).2 ⟨m, h1, h2⟩
            cases c with
            | zero =>
              cases (show m1 = j from h3)
              exact .inl (.inr h4)
            | succ c => exact .inr ⟨m1, c + 1, h4.mono hsub2, by omega, by omega, h3⟩
def questA (f : AM → Nat → AM × Nat) (n : Nat) (a : AM) (p : Nat) : AM × Nat := (optA f a.out.length n (a.step p 0 zeroS) p, a.out.length)
theorem LayH.quest {s : List UInt8} {f : AM → Nat → AM × Nat} {R : Nat → Nat → Prop} (h : LayH s f R) (n : Nat) : LayH s (questA f n) (fun i j => ∃ c, c ≤ n ∧ Iter R c i j) := by
  have all : ∀ a p, Wf a → p < a.out.length → Wf (questA f n a p).1 ∧ Grow a (questA f n a p).1 p ∧ a.out.length < (questA f n a p).1.out.length ∧ ∀ x0 i j, x0 < a.out.length → (FW s (questA f n a p).1 (x0, i) (a.out.length, j) ↔ ∃ m, FW s a (x0, i) (p, m) ∧ ∃ c, c ≤ n ∧ Iter R c m j) := by
    intro a p hw hp
    have hw2 := wf_step (k := 0) (S := zeroS) hw hp
    have hl2 : (a.step p 0 zeroS).out.length = a.out.length + 1 := step_len _ _ _ _
    have hg2 := grow_step (k := 0) (S := zeroS) hp
    have hdead : ERow (a.step p 0 zeroS) a.out.length = [] := by
      rw [row_step hp, if_neg (by omega)]
      exact getD_nil (Nat.le_refl _)
    obtain ⟨k1, k2, k3, k4, k5⟩ := opt_all h a.out.length n (a.step p 0 zeroS) p hw2 (by omega) (by omega) (by omega) hdead
    unfold questA
    dsimp only
    refine ⟨k1, ⟨by omega, fun q e he => k3 q e (hg2.sub q e he), fun q e he => ?_⟩, by omega, fun x0 i j hx => ?_⟩
    · rcases k4 q e he with he | ⟨hq, ht⟩
      · exact hg2.new q e he
      · exact .inr ⟨by omega, by omega⟩
    · rw [k5 x0 i j (by omega)]
      constructor
      · rintro (h1 | ⟨m, c, h1, c1, c2, hc⟩)
        · obtain ⟨m, h2, h3⟩ := (step_hit hw hp hx).1 h1
          rw [eps_place] at h3
          cases h3
          exact ⟨_, h2, 0, Nat.zero_le _, rfl⟩
        · exact ⟨m, (hg2.old hw hx hp).1 h1, c, c2, hc⟩
      · rintro ⟨m, h1, c, c2, hc⟩
        cases c with
        | zero =>
          cases (show m = j from hc)
          exact .inl ((step_hit hw hp hx).2 ⟨_, h1, rfl⟩)
        | succ c => exact .inr ⟨m, c + 1, (hg2.old hw hx hp).2 h1, by omega, c2, hc⟩
  exact ⟨fun a p hw hp => (all a p hw hp).1, fun a p hw hp => (all a p hw hp).2.1, fun a p hw hp => ⟨.inr (Nat.le_refl _), (all a p hw hp).2.2.1⟩, fun a p x0 i j hw hp hx => (all a p hw hp).2.2.2 x0 i j hx⟩
theorem LayH.rep {s : List UInt8} {f : AM → Nat → AM × Nat} {R : Nat → Nat → Prop} (h : LayH s f R) (lo : Nat) (hi : Int) (k : RE) : LayH s (repA lo hi k f) (fun i j => ∃ c, RepN lo hi k c ∧ Iter R c i j) := by
  by_cases hc : hi = (lo : Int) ∨ k.thin = true
  · have e : repA lo hi k f = timesA f (leastM lo k) := by
      funext a p
      unfold repA
      dsimp only
      rw [if_pos hc]
    rw [e]
    refine (h.times _).iff fun i j => ⟨fun hh => ⟨_, ⟨Nat.le_refl _, by rw [if_pos hc]⟩, hh⟩, fun ⟨c, ⟨_, h2⟩, hh⟩ => ?_⟩
    rw [if_pos hc] at h2
    rw [h2] at hh
    exact hh
  by_cases hn : hi < 0
  · have e : repA lo hi k f = fun a p => starA f (timesA f (leastM lo k) a p).1 (timesA f (leastM lo k) a p).2 := by
      funext a p
      unfold repA starA
      dsimp only
      rw [if_neg hc, if_pos hn]
    rw [e]
    refine ((h.times _).seq h.star).iff fun i j => ⟨fun ⟨m, h1, c, h2⟩ => ⟨leastM lo k + c, ⟨Nat.le_add_right _ _, by rw [if_neg hc]; exact .inl hn⟩, Iter.add.2 ⟨m, h1, h2⟩⟩, fun ⟨c, ⟨h1, _⟩, hh⟩ => ?_⟩
    obtain ⟨d, rfl⟩ := Nat.exists_eq_add_of_le h1
    obtain ⟨m, h3, h4⟩ := Iter.add.1 hh
    exact ⟨m, h3, d, h4⟩
  · have e : repA lo hi k f = fun a p => questA f (hi.toNat - lo) (timesA f (leastM lo k) a p).1 (timesA f (leastM lo k) a p).2 := by
      funext a p
      unfold repA questA
      dsimp only
      rw [if_neg hc, if_neg hn]
    rw [e]
    refine ((h.times _).seq (h.quest _)).iff fun i j => ⟨fun ⟨m, h1, c, hcn, h2⟩ => ⟨leastM lo k + c, ⟨Nat.le_add_right _ _, by rw [if_neg hc]; exact .inr (by omega)⟩, Iter.add.2 ⟨m, h1, h2⟩⟩, fun ⟨c, ⟨h1, h5⟩, hh⟩ => ?_⟩
    rw [if_neg hc] at h5
    obtain ⟨d, rfl⟩ := Nat.exists_eq_add_of_le h1
    obtain ⟨m, h3, h4⟩ := Iter.add.1 hh
    exact ⟨m, h3, d, by omega, h4⟩
theorem all_has : ∀ b : UInt8, hasS (notS zeroS) b.toNat = true := by
  have h : ∀ b : Fin 256, hasS (notS zeroS) b.val = true := by decide +kernel
  exact fun b => h ⟨b.toNat, b.toNat_lt⟩
theorem LayH.any (s : List UInt8) : LayH s (fun a p => ((a.step p 0 zeroS).link a.out.length a.out.length 1 (notS zeroS), a.out.length)) (fun i j => j = i ∨ (i < j ∧ j ≤ s.length)) := by
  have all : ∀ a p, Wf a → p < a.out.length → Wf ((a.step p 0 zeroS).link a.out.length a.out.length 1 (notS zeroS)) ∧ Grow a ((a.step p 0 zeroS).link a.out.length a.out.length 1 (notS zeroS)) p ∧ a.out.length < ((a.step p 0 zeroS).link a.out.length a.out.length 1 (notS zeroS)).out.length ∧
      ∀ x0 i j, x0 < a.out.length → (FW s ((a.step p 0 zeroS).link a.out.length a.out.length 1 (notS zeroS)) (x0, i) (a.out.length, j) ↔ ∃ m, FW s a (x0, i) (p, m) ∧ (j = m ∨ (m < j ∧ j ≤ s.length))) := by
    intro a p hw hp
    have hw2 := wf_step (k := 0) (S := zeroS) hw hp
    have hl2 : (a.step p 0 zeroS).out.length = a.out.length + 1 := step_len _ _ _ _
    have hg2 := grow_step (k := 0) (S := zeroS) hp
    have hh : a.out.length < (a.step p 0 zeroS).out.length := by omega
    have hdead : ERow (a.step p 0 zeroS) a.out.length = [] := by
      rw [row_step hp, if_neg (by omega)]
      exact getD_nil (Nat.le_refl _)
    have hrow3 := fun q => row_link (k := 1) (S := notS zeroS) (t := a.out.length) hh q
    have hl3 : ((a.step p 0 zeroS).link a.out.length a.out.length 1 (notS zeroS)).out.length = (a.step p 0 zeroS).out.length := (link_len _ _ _ _ _).1
    have hsub3 : ∀ q, ∀ e ∈ ERow (a.step p 0 zeroS) q, e ∈ ERow ((a.step p 0 zeroS).link a.out.length a.out.length 1 (notS zeroS)) q := fun q e he => by
      rw [hrow3]; split
      · exact List.mem_append.2 (.inl he)
      · exact he
    have hcase : ∀ q, ∀ e ∈ ERow ((a.step p 0 zeroS).link a.out.length a.out.length 1 (notS zeroS)) q, e ∈ ERow (a.step p 0 zeroS) q ∨ (q = a.out.length ∧ e = ⟨1, notS zeroS, a.out.length⟩) := fun q e he => by
      rw [hrow3] at he
      split at he
      · rename_i e1
        rcases List.mem_append.1 he with he | he
        · exact .inl he
        · exact .inr ⟨e1, List.mem_singleton.1 he⟩
      · exact .inl he
    refine ⟨wf_link hw2 hh hh, ⟨by omega, fun q e he => hsub3 q e (hg2.sub q e he), fun q e he => ?_⟩, by omega, fun x0 i j hx => ⟨fun hr => ?_, ?_⟩⟩
    · rcases hcase q e he with he | ⟨rfl, rfl⟩
      · exact hg2.new q e he
      · exact .inr ⟨.inr (Nat.le_refl _), Nat.le_refl _⟩
    · have key : ∀ z, FW s ((a.step p 0 zeroS).link a.out.length a.out.length 1 (notS zeroS)) (x0, i) z → (z.1 < a.out.length ∧ FW s a (x0, i) z) ∨ ∃ m, FW s a (x0, i) (p, m) ∧ z.1 = a.out.length ∧ (z.2 = m ∨ (m < z.2 ∧ z.2 ≤ s.length)) := by
        intro z hz
        induction hz with
        | here => exact .inl ⟨hx, .here⟩
        | @step q u b e h1 he hpl ih =>
          rcases hcase q e he with he2 | ⟨rfl, rfl⟩
          · rcases ih with ⟨hq, hold⟩ | ⟨m, k1, k2, k3⟩
            · have hq : q < a.out.length := hq
              rw [row_step hp] at he2
              split at he2
              · rename_i e1
                rcases List.mem_append.1 he2 with he2 | he2
                · exact .inl ⟨hw q e he2, .step hold he2 hpl⟩
                · rw [List.mem_singleton] at he2; subst he2 e1
                  rw [eps_place] at hpl
                  cases hpl
                  exact .inr ⟨u, hold, rfl, .inl rfl⟩
              · exact .inl ⟨hw q e he2, .step hold he2 hpl⟩
            · have k2 : q = a.out.length := k2
              rw [k2, hdead] at he2
              cases he2
          · rcases ih with ⟨hq, hold⟩ | ⟨m, k1, k2, k3⟩
            · have hq : a.out.length < a.out.length := hq
              omega
            · dsimp only at k3 ⊢
              unfold placeM inB at hpl
              simp at hpl
              exact .inr ⟨m, k1, rfl, .inr (by omega)⟩
      rcases key _ hr with ⟨hbad, _⟩ | ⟨m, k1, _, k3⟩
      · exact absurd hbad (by dsimp only; omega)
      · exact ⟨m, k1, k3⟩
    · rintro ⟨m, h1, hj⟩
      have hbase : FW s ((a.step p 0 zeroS).link a.out.length a.out.length 1 (notS zeroS)) (x0, i) (a.out.length, m) :=
        ((step_hit (k := 0) (S := zeroS) hw hp hx (j := m) (s := s) (i := i)).2 ⟨m, h1, rfl⟩).mono hsub3
      have hgo : ∀ d, m + d ≤ s.length → FW s ((a.step p 0 zeroS).link a.out.length a.out.length 1 (notS zeroS)) (x0, i) (a.out.length, m + d) := by
        intro d
        induction d with
        | zero => exact fun _ => hbase
        | succ d ih =>
          intro hd
          refine Rch.step (e := ⟨1, notS zeroS, a.out.length⟩) (ih (by omega)) ?_ (b := m + (d + 1)) ?_
          · show _ ∈ ERow _ a.out.length
            rw [hrow3, if_pos rfl]; simp
          · have := all_has (s.getD (m + d) 0)
            unfold placeM inB bAt
            simp only [if_true, this, and_true, decide_eq_true_eq]
            rw [if_pos (by omega)]
            rfl
      rcases hj with rfl | ⟨h2, h3⟩
      · exact hbase
      · have := hgo (j - m) (by omega)
        rw [show m + (j - m) = j by omega] at this
        exact this
  exact ⟨fun a p hw hp => (all a p hw hp).1, fun a p hw hp => (all a p hw hp).2.1, fun a p hw hp => ⟨.inr (Nat.le_refl _), (all a p hw hp).2.2.1⟩, fun a p x0 i j hw hp hx => (all a p hw hp).2.2.2 x0 i j hx⟩
mutual
theorem lay_hit (s : List UInt8) : ∀ r : RE, LayH s (layM r) (Hit s r)
  | .byte S => by
    rw [show layM (.byte S) = fun a p => (a.step p 1 S, a.out.length) from by funext a p; rw [layM]]
    refine LayH.edge s 1 S _ fun t i j => ?_
    rw [Hit]
    unfold placeM inB bAt
    simp only [if_true, decide_eq_true_eq]
    constructor
    · intro h
      split at h
      · rename_i h1; cases h; exact ⟨h1, rfl⟩
      · cases h
    · rintro ⟨h1, rfl⟩
      rw [if_pos h1]
  | .bol => by
    rw [show layM .bol = fun a p => (a.step p 2 zeroS, a.out.length) from by funext a p; rw [layM]]
    refine LayH.edge s 2 zeroS _ fun t i j => ?_
    rw [Hit]
    unfold placeM
    simp only [show ¬ ((2 : Nat) = 1) by omega, if_false, if_true]
    constructor
    · intro h
      split at h
      · rename_i h1; cases h; exact ⟨h1, rfl⟩
      · cases h
    · rintro ⟨h1, rfl⟩
      rw [if_pos h1]
  | .eol => by
    rw [show layM .eol = fun a p => (a.step p 3 zeroS, a.out.length) from by funext a p; rw [layM]]
    refine LayH.edge s 3 zeroS _ fun t i j => ?_
    rw [Hit]
    unfold placeM
    simp only [show ¬ ((3 : Nat) = 1) by omega, show ¬ ((3 : Nat) = 2) by omega, if_false, if_true]
    constructor
    · intro h
      split at h
      · rename_i h1; cases h; exact ⟨h1, rfl⟩
      · cases h
    · rintro ⟨h1, rfl⟩
      rw [if_pos h1]
  | .back n => by
    rw [show layM (.back n) = fun a p => ((a.step p 0 zeroS).link a.out.length a.out.length 1 (notS zeroS), a.out.length) from by funext a p; rw [layM]]
    exact (LayH.any s).iff fun i j => by rw [Hit]
  | .rep lo hi k => by
    rw [show layM (.rep lo hi k) = repA lo hi k (layM k) from by funext a p; rw [layM]]
    exact (LayH.rep (lay_hit s k) lo hi k).iff fun i j => by rw [Hit]
  | .cat ks => by
    rw [show layM (.cat ks) = layL ks from by funext a p; rw [layM]]
    exact (layL_hit s ks).iff fun i j => by rw [Hit]
  | .group n k => by
    rw [show layM (.group n k) = layM k from by funext a p; rw [layM]]
    exact (lay_hit s k).iff fun i j => by rw [Hit]
theorem layL_hit (s : List UInt8) : ∀ ks : List RE, LayH s (layL ks) (HitL s ks)
  | [] => by
    rw [show layL [] = fun a p => (a, p) from by funext a p; rw [layL]]
    exact (LayH.id s).iff fun i j => by rw [HitL]
  | k :: ks => by
    rw [show layL (k :: ks) = fun a p => layL ks (layM k a p).1 (layM k a p).2 from by funext a p; rw [layL]]
    exact ((lay_hit s k).seq (layL_hit s ks)).iff fun i j => by rw [HitL]
end
theorem make_hit (s : List UInt8) (ks : List RE) (i j : Nat) : FW s (makeM ks).1 (0, i) ((makeM ks).2, j) ↔ HitL s ks i j := by
  have hw : Wf (AM.add ⟨[], []⟩) := fun q e he => by
    rw [show ERow (AM.add ⟨[], []⟩) q = ERow ⟨[], []⟩ q from getD_new _ _] at he
    cases he
  refine ((layL_hit s ks).hit (AM.add ⟨[], []⟩) 0 0 i j hw (by decide) (by decide)).trans ⟨fun ⟨m, h1, h2⟩ => ?_, fun h => ⟨i, .here, h⟩⟩
  have := Rch.dead rfl h1
  injection this with _ e
  subst e
  exact h2
theorem ends_iff {ks : List RE} (hc : costL ks + 1 ≤ 131072) (s : List UInt8) {i j : Nat} (st : Nat) (hi : i ≤ s.length) (hj : j ≤ s.length) : (endsM (makeM ks) s i st).marks.getD j false = true ↔ HitL s ks i j := by
  obtain ⟨hr, hlt⟩ := make_room ks hc
  obtain ⟨done, hd⟩ := flood_spec hr.eo s (x0 := (0, i)) (by omega) hi (makeM ks).2 true st
  exact (hd.marks j hj).trans (make_hit s ks i j)
theorem place_rev (s : List UInt8) (k t q : Nat) (S : BS) (a b : Nat) : placeM s true ⟨k, S, t⟩ a = some b ↔ placeM s false ⟨k, S, q⟩ b = some a := by
  unfold placeM inB bAt
  dsimp only
  by_cases h1 : k = 1
  · simp only [h1, if_true, Bool.false_eq_true, if_false, decide_eq_true_eq]
    constructor
    · intro h
      split at h
      · rename_i h2; cases h
        rw [show a + 1 - 1 = a by omega, if_pos ⟨⟨by omega, h2.1⟩, h2.2⟩]
      · cases h
    · intro h
      split at h
      · rename_i h2; cases h
        rw [if_pos ⟨h2.1.2, h2.2⟩, show b - 1 + 1 = b by omega]
      · cases h
  · simp only [h1, if_false]
    by_cases h2 : k = 2
    · simp only [h2, if_true]
      constructor <;> intro h <;> split at h <;> first | (rename_i h3; cases h; rw [if_pos h3]) | cases h
    · simp only [h2, if_false]
      by_cases h3 : k = 3
      · simp only [h3, if_true]
        constructor <;> intro h <;> split at h <;> first | (rename_i h4; cases h; rw [if_pos h4]) | cases h
      · simp only [h3, if_false, Option.some.injEq]
        exact eq_comm
def Rev (a : AM) : Prop := a.back.length = a.out.length ∧ ∀ q t k S, (⟨k, S, t⟩ : Ed) ∈ a.out.getD q [] ↔ (⟨k, S, q⟩ : Ed) ∈ a.back.getD t []
theorem rev_add {a : AM} (h : Rev a) : Rev a.add := ⟨by simp [AM.add, h.1], fun q t k S => by
  rw [show a.add.out.getD q [] = a.out.getD q [] from getD_new _ _, show a.add.back.getD t [] = a.back.getD t [] from getD_new _ _]
  exact h.2 q t k S⟩
theorem rev_link {a : AM} {f t k : Nat} {S : BS} (h : Rev a) (hf : f < a.out.length) (ht : t < a.out.length) : Rev (a.link f t k S) := by
  refine ⟨by rw [(link_len _ _ _ _ _).1, (link_len _ _ _ _ _).2]; exact h.1, fun q t' k' S' => ?_⟩
  rw [show (a.link f t k S).out.getD q [] = _ from getD_addTo _ _ _ _ hf, show (a.link f t k S).back.getD t' [] = _ from getD_addTo _ _ _ _ (by rw [h.1]; exact ht)]
  have h2 := h.2 q t' k' S'
  have e1 : (⟨k', S', t'⟩ : Ed) ∈ (if q = f then a.out.getD q [] ++ [⟨k, S, t⟩] else a.out.getD q []) ↔ (⟨k', S', t'⟩ : Ed) ∈ a.out.getD q [] ∨ (q = f ∧ k' = k ∧ S' = S ∧ t' = t) := by
    split <;> simp_all
  have e2 : (⟨k', S', q⟩ : Ed) ∈ (if t' = t then a.back.getD t' [] ++ [⟨k, S, f⟩] else a.back.getD t' []) ↔ (⟨k', S', q⟩ : Ed) ∈ a.back.getD t' [] ∨ (t' = t ∧ k' = k ∧ S' = S ∧ q = f) := by
    split <;> simp_all
  rw [e1, e2, h2]
  constructor
  · rintro (h | ⟨h1, h2, h3, h4⟩)
    · exact .inl h
    · exact .inr ⟨h4, h2, h3, h1⟩
  · rintro (h | ⟨h1, h2, h3, h4⟩)
    · exact .inl h
    · exact .inr ⟨h4, h2, h3, h1⟩
theorem Rch.rev {es es' : List (List Ed)} {s : List UInt8} (hrev : ∀ q t k S, (⟨k, S, t⟩ : Ed) ∈ es.getD q [] ↔ (⟨k, S, q⟩ : Ed) ∈ es'.getD t []) {x y : Nat × Nat} : Rch es s true x y ↔ Rch es' s false y x := by
  constructor
  · intro h
    induction h with
    | here => exact .here
    | @step q a b e h1 he hp ih =>
      obtain ⟨k, S, t⟩ := e
      exact Rch.trans (Rch.step (e := ⟨k, S, q⟩) .here ((hrev q t k S).1 he) ((place_rev s k t q S a b).1 hp)) ih
  · intro h
    induction h with
    | here => exact .here
    | @step q a b e h1 he hp ih =>
      obtain ⟨k, S, t⟩ := e
      exact Rch.trans (Rch.step (e := ⟨k, S, q⟩) .here ((hrev t q k S).2 he) ((place_rev s k q t S b a).2 hp)) ih
end Go.Proofs.Ytblpgpgbnlhjlaa
namespace Go.Proofs.Ytblpgpgbnlhjlaa
open Go Go.RowKit Sl
set_option maxRecDepth 100000
set_option maxHeartbeats 8000000
set_option linter.unusedVariables false
set_option linter.unusedSimpArgs false
attribute [local irreducible] ES EL PX wps
structure Inv (P : AM → Prop) : Prop where
  add : ∀ a, P a → P a.add
  link : ∀ a f t k S, P a → f < a.out.length → t < a.out.length → P (a.link f t k S)
def Pres (P : AM → Prop) (f : AM → Nat → AM × Nat) : Prop := ∀ a p, P a → p < a.out.length → P (f a p).1 ∧ (f a p).2 < (f a p).1.out.length ∧ a.out.length ≤ (f a p).1.out.length
theorem Inv.step {P : AM → Prop} (hP : Inv P) {a : AM} {f k : Nat} {S : BS} (h : P a) (hf : f < a.out.length) : P (a.step f k S) :=
  hP.link _ _ _ _ _ (hP.add _ h) (by rw [add_len]; omega) (by rw [add_len]; omega)
theorem times_pres {P : AM → Prop} {f : AM → Nat → AM × Nat} (hf : Pres P f) : ∀ n, Pres P (timesA f n)
  | 0, a, p, h, hp => ⟨h, hp, Nat.le_refl _⟩
  | n + 1, a, p, h, hp => by
    have h1 := hf a p h hp
    have h2 := times_pres hf n _ _ h1.1 h1.2.1
    exact ⟨h2.1, h2.2.1, Nat.le_trans h1.2.2 h2.2.2⟩
theorem opt_pres {P : AM → Prop} (hP : Inv P) {f : AM → Nat → AM × Nat} (hf : Pres P f) (o : Nat) : ∀ n a p, P a → p < a.out.length → o < a.out.length → P (optA f o n a p) ∧ a.out.length ≤ (optA f o n a p).out.length
  | 0, a, p, h, _, _ => ⟨h, Nat.le_refl _⟩
  | n + 1, a, p, h, hp, ho => by
    have h1 := hf a p h hp
    have hl : ((f a p).1.link (f a p).2 o 0 zeroS).out.length = (f a p).1.out.length := (link_len _ _ _ _ _).1
    have h2 := opt_pres hP hf o n _ (f a p).2 (hP.link _ _ _ 0 zeroS h1.1 h1.2.1 (show o < _ by omega)) (by omega) (by omega)
    exact ⟨h2.1, by have := h2.2; rw [optA]; omega⟩
theorem rep_pres {P : AM → Prop} (hP : Inv P) {f : AM → Nat → AM × Nat} (hf : Pres P f) (lo : Nat) (hi : Int) (k : RE) : Pres P (repA lo hi k f) := fun a p h hp => by
  have h1 := times_pres hf (leastM lo k) a p h hp
  unfold repA
  dsimp only
  generalize timesA f (leastM lo k) a p = x at h1
  obtain ⟨a1, p1⟩ := x
  dsimp only at h1 ⊢
  split
  · exact h1
  · have h2 : P (a1.step p1 0 zeroS) := hP.step h1.1 h1.2.1
    have hl2 : (a1.step p1 0 zeroS).out.length = a1.out.length + 1 := step_len _ _ _ _
    split
    · have h3 := hf (a1.step p1 0 zeroS) a1.out.length h2 (by omega)
      dsimp only
      refine ⟨hP.link _ _ _ _ _ h3.1 h3.2.1 (by omega), ?_, ?_⟩ <;> rw [(link_len _ _ _ _ _).1] <;> omega
    · have h3 := opt_pres hP hf a1.out.length (hi.toNat - lo) (a1.step p1 0 zeroS) p1 h2 (by omega) (by omega)
      exact ⟨h3.1, by dsimp only; omega, by dsimp only; omega⟩
mutual
theorem lay_pres {P : AM → Prop} (hP : Inv P) : ∀ r : RE, Pres P (layM r)
  | .byte S, a, p, h, hp => by
    rw [layM]
    exact ⟨hP.step h hp, by dsimp only; rw [step_len]; omega, by dsimp only; rw [step_len]; omega⟩
  | .bol, a, p, h, hp => by
    rw [layM]
    exact ⟨hP.step h hp, by dsimp only; rw [step_len]; omega, by dsimp only; rw [step_len]; omega⟩
  | .eol, a, p, h, hp => by
    rw [layM]
    exact ⟨hP.step h hp, by dsimp only; rw [step_len]; omega, by dsimp only; rw [step_len]; omega⟩
  | .back n, a, p, h, hp => by
    rw [layM]
    refine ⟨hP.link _ _ _ _ _ (hP.step h hp) (by rw [step_len]; omega) (by rw [step_len]; omega), ?_, ?_⟩ <;> dsimp only <;> rw [(link_len _ _ _ _ _).1, step_len] <;> omega
  | .rep lo hi k, a, p, h, hp => by
    rw [layM]
    exact rep_pres hP (lay_pres hP k) lo hi k a p h hp
  | .cat ks, a, p, h, hp => by
    rw [layM]
    exact layL_pres hP ks a p h hp
  | .group n k, a, p, h, hp => by
    rw [layM]
    exact lay_pres hP k a p h hp
theorem layL_pres {P : AM → Prop} (hP : Inv P) : ∀ ks : List RE, Pres P (layL ks)
  | [], a, p, h, hp => by
    rw [layL]
    exact ⟨h, hp, Nat.le_refl _⟩
  | k :: ks, a, p, h, hp => by
    rw [layL]
    have h1 := lay_pres hP k a p h hp
    have h2 := layL_pres hP ks _ _ h1.1 h1.2.1
    exact ⟨h2.1, h2.2.1, Nat.le_trans h1.2.2 h2.2.2⟩
end
theorem make_rev (ks : List RE) : Rev (makeM ks).1 := by
  have h0 : Rev ⟨[], []⟩ := ⟨rfl, fun q t k S => by simp⟩
  exact (layL_pres (P := Rev) ⟨fun _ h => rev_add h, fun _ _ _ _ _ h h1 h2 => rev_link h h1 h2⟩ ks (AM.add ⟨[], []⟩) 0 (rev_add h0) (by decide)).1
theorem starts_iff {ks : List RE} (hc : costL ks + 1 ≤ 131072) (s : List UInt8) {i j : Nat} (st : Nat) (hi : i ≤ s.length) (hj : j ≤ s.length) : (startsM (makeM ks) s j st).marks.getD i false = true ↔ HitL s ks i j := by
  obtain ⟨hr, hlt⟩ := make_room ks hc
  obtain ⟨done, hd⟩ := flood_spec hr.eb s (x0 := ((makeM ks).2, j)) (by rw [hr.same]; exact hlt) hj 0 false st
  refine (hd.marks i hi).trans (Iff.trans ?_ (make_hit s ks i j))
  exact (Rch.rev (make_rev ks).2).symm
theorem startsM_steps {A : AM × Nat} (hr : A.1.Room 0) {s : List UInt8} (hs : s.length ≤ 1024) (j st : Nat) : (startsM A s j st).steps ≤ st + 17609365913600 :=
  floodM_steps (by have := hr.out; have := hr.same; omega) (fun l hl => by have := hr.rb l hl; omega) s hs (A.2, j) 0 false st
end Go.Proofs.Ytblpgpgbnlhjlaa
namespace Go.Proofs.Ytblpgpgbnlhjlaa
open Go Go.RowKit Sl
set_option maxRecDepth 100000
set_option maxHeartbeats 8000000
set_option linter.unusedVariables false
set_option linter.unusedSimpArgs false
attribute [local irreducible] ES EL PX wps
theorem endsM_le {A : AM × Nat} (hr : A.1.Room 0) {s : List UInt8} (hs : s.length ≤ 1024) (i st : Nat) : (endsM A s i st).steps ≤ st + 17609365913600 :=
  floodM_steps (by have := hr.out; omega) (fun l hl => by have := hr.ro l hl; omega) s hs (0, i) A.2 true st
theorem flood_up {es : List (List Ed)} (hes : EdsOk es) (s : List UInt8) {x0 : Nat × Nat} (h1 : x0.1 < es.length) (h2 : x0.2 ≤ s.length) (goal : Nat) (fwd : Bool) (st : Nat) : st ≤ (floodM es s x0 goal fwd st).steps := by
  obtain ⟨done, hd⟩ := flood_spec hes s h1 h2 goal fwd st
  rw [hd.steps]; omega
theorem dn_head (i : Nat) (f : Nat → Bool) {p : Nat} (hf : f p = true) : ∀ n, i ≤ p → p < i + n → (∀ q, p < q → q < i + n → f q = false) → ((dnL i n).filter f).head? = some p ∧ (dnL i n).find? f = some p
  | 0, h1, h2, _ => by omega
  | n + 1, h1, h2, h3 => by
    rw [dnL, List.filter_cons, List.find?_cons]
    by_cases h : p = i + n
    · subst h
      rw [hf]
      exact ⟨rfl, rfl⟩
    · rw [h3 (i + n) (by omega) (by omega)]
      exact dn_head i f hf n h1 (by omega) (fun q hq1 hq2 => h3 q hq1 (by omega))
structure First (s : List UInt8) (hd tl : List RE) (i e j : Nat) : Prop where
  ch : costL hd + 1 ≤ 131072
  ct : costL tl + 1 ≤ 131072
  ie : i ≤ e
  ej : e ≤ j
  hh : HitL s hd i e
  ht : HitL s tl e j
  no : ∀ p, e < p → p ≤ j → ¬ (HitL s hd i p ∧ HitL s tl p j)
abbrev floodC : Nat := 17609365913600
theorem cut_first {s : List UInt8} (hs : s.length ≤ 1024) {hd tl : List RE} {i e j st : Nat} (h : First s hd tl i e j) (hj : j ≤ s.length) (hst : st ≤ 576460752303423488) : ∃ st', cutS s hd tl i j st = some (e, st') ∧ st ≤ st' ∧ st' ≤ st + 2 * floodC := by
  have hie := h.ie
  have hej := h.ej
  obtain ⟨hr1, hl1⟩ := make_room hd h.ch
  obtain ⟨hr2, hl2⟩ := make_room tl h.ct
  have hE := fun p (hp : p ≤ s.length) => ends_iff h.ch s (i := i) (j := p) st (by omega) hp
  have hS := fun p (hp : p ≤ s.length) => starts_iff h.ct s (i := p) (j := j) (splE s hd i st).steps hp hj
  have hhead := (dn_head i (fun p => (splE s hd i st).marks.getD p false && (splS s hd tl i j st).marks.getD p false) (p := e) (by
      rw [Bool.and_eq_true]
      exact ⟨(hE e (by omega)).2 h.hh, (hS e (by omega)).2 h.ht⟩) (j + 1 - i) hie (by omega) (fun q h1 h2 => by
      rw [Bool.eq_false_iff]
      intro hq
      rw [Bool.and_eq_true] at hq
      exact h.no q h1 (by omega) ⟨(hE q (by omega)).1 hq.1, (hS q (by omega)).1 hq.2⟩)).1
  have hup1 := flood_up hr1.eo s (x0 := (0, i)) (by omega) (show i ≤ s.length by omega) (makeM hd).2 true st
  have hup2 := flood_up hr2.eb s (x0 := ((makeM tl).2, j)) (by rw [hr2.same]; exact hl2) hj 0 false (splE s hd i st).steps
  have hup1' : st ≤ (splE s hd i st).steps := hup1
  have hup2' : (splE s hd i st).steps ≤ (splS s hd tl i j st).steps := hup2
  have hb1 : (splE s hd i st).steps ≤ st + 17609365913600 := endsM_le hr1 hs i st
  have hb2 : (splS s hd tl i j st).steps ≤ (splE s hd i st).steps + 17609365913600 := startsM_steps hr2 hs j _
  refine ⟨(splS s hd tl i j st).steps, ?_, by omega, by unfold floodC; omega⟩
  unfold cutS
  rw [if_pos ⟨hst, h.ch, h.ct, by omega, hj⟩]
  have hspl : (splL s hd tl i j st).head? = some e := hhead
  cases hx : splL s hd tl i j st with
  | nil => rw [hx] at hspl; cases hspl
  | cons p l => rw [hx] at hspl; cases hspl; rfl
inductive Wk (s : List UInt8) : WT → Nat → Nat → List Spn → List Spn → Nat → Nat → Prop
  | group {n k i j z z' f c} (hn : n < z.length) (h : Wk s (.one k) i j (z.set n ((i : Int), (j : Int))) z' f c) : Wk s (.one (.group n k)) i j z z' (f + 1) c
  | cat {ks i j z z' f c} (h : Wk s (.cat ks) i j z z' f c) : Wk s (.one (.cat ks)) i j z z' (f + 1) c
  | rep {lo hi k i j z z' f c} (h : Wk s (.rep lo hi k 0) i j z z' f c) : Wk s (.one (.rep lo hi k)) i j z z' (f + 1) c
  | byte {S i j z} : Wk s (.one (.byte S)) i j z z 1 0
  | bol {i j z} : Wk s (.one .bol) i j z z 1 0
  | eol {i j z} : Wk s (.one .eol) i j z z 1 0
  | nil {i j z} : Wk s (.cat []) i j z z 1 0
  | last {k i j z z' f c} (h : Wk s (.one k) i j z z' f c) : Wk s (.cat [k]) i j z z' (f + 1) c
  | cons {k k' ks i e j z z1 z2 f c c2} (hf : First s [k] (k' :: ks) i e j) (h1 : Wk s (.one k) i e z z1 f c) (h2 : Wk s (.cat (k' :: ks)) e j z1 z2 f c2) : Wk s (.cat (k :: k' :: ks)) i j z z2 (f + 1) (c + c2 + 1)
  | end0 {lo hi k t j z z' f c} (ht : t < leastM lo k) (h : Wk s (.one k) j j z z' f c) : Wk s (.rep lo hi k t) j j z z' (f + 1) c
  | end1 {lo hi k t j z} (ht : ¬ t < leastM lo k) : Wk s (.rep lo hi k t) j j z z 1 0
  | turn {lo hi k t i e j z z1 z2 f c c2} (hij : i ≠ j) (ht : t ≤ 1000000) (hf : First s [k] [leftM lo hi k (t + 1)] i e j) (h1 : Wk s (.one k) i e z z1 f c) (h2 : Wk s (.rep lo hi k (t + 1)) e j z1 z2 f c2) : Wk s (.rep lo hi k t) i j z z2 (f + 1) (c + c2 + 1)
  | more {wt i j z z' f c} (h : Wk s wt i j z z' f c) : Wk s wt i j z z' (f + 1) c
theorem Wk.run {s : List UInt8} (hs : s.length ≤ 1024) {wt : WT} {i j f c : Nat} {z z' : List Spn} (h : Wk s wt i j z z' f c) : i ≤ j → j ≤ s.length → ∀ F st, f ≤ F → st + c * (2 * floodC) ≤ 576460752303423488 → ∃ st', walkM s F wt i j ⟨z, st⟩ = some ⟨z', st'⟩ ∧ st ≤ st' ∧ st' ≤ st + c * (2 * floodC) := by
  induction h with
  | group hn h ih =>
    intro h1 h2 F st hF hst
    obtain ⟨F, rfl⟩ : ∃ F', F = F' + 1 := ⟨F - 1, by omega⟩
    rw [walkM, if_pos hn]
    exact ih h1 h2 F st (by omega) hst
  | cat h ih =>
    intro h1 h2 F st hF hst
    obtain ⟨F, rfl⟩ : ∃ F', F = F' + 1 := ⟨F - 1, by omega⟩
    rw [walkM]
    exact ih h1 h2 F st (by omega) hst
  | rep h ih =>
    intro h1 h2 F st hF hst
    obtain ⟨F, rfl⟩ : ∃ F', F = F' + 1 := ⟨F - 1, by omega⟩
    rw [walkM]
    exact ih h1 h2 F st (by omega) hst
  | byte =>
    intro h1 h2 F st hF hst
    obtain ⟨F, rfl⟩ : ∃ F', F = F' + 1 := ⟨F - 1, by omega⟩
    exact ⟨st, by simp [walkM], Nat.le_refl _, by omega⟩
  | bol =>
    intro h1 h2 F st hF hst
    obtain ⟨F, rfl⟩ : ∃ F', F = F' + 1 := ⟨F - 1, by omega⟩
    exact ⟨st, by simp [walkM], Nat.le_refl _, by omega⟩
  | eol =>
    intro h1 h2 F st hF hst
    obtain ⟨F, rfl⟩ : ∃ F', F = F' + 1 := ⟨F - 1, by omega⟩
    exact ⟨st, by simp [walkM], Nat.le_refl _, by omega⟩
  | nil =>
    intro h1 h2 F st hF hst
    obtain ⟨F, rfl⟩ : ∃ F', F = F' + 1 := ⟨F - 1, by omega⟩
    exact ⟨st, by simp [walkM], Nat.le_refl _, by omega⟩
  | last h ih =>
    intro h1 h2 F st hF hst
    obtain ⟨F, rfl⟩ : ∃ F', F = F' + 1 := ⟨F - 1, by omega⟩
    rw [walkM]
    exact ih h1 h2 F st (by omega) hst
  | @cons k k' ks i e j z z1 z2 f c c2 hf _ _ ih1 ih2 =>
    intro h1 h2 F st hF hst
    obtain ⟨F, rfl⟩ : ∃ F', F = F' + 1 := ⟨F - 1, by omega⟩
    have hmul : (c + c2 + 1) * (2 * floodC) = c * (2 * floodC) + c2 * (2 * floodC) + 2 * floodC := by rw [Nat.add_mul, Nat.add_mul, Nat.one_mul]
    rw [hmul] at hst
    have hie := hf.ie
    have hej := hf.ej
    obtain ⟨st1, e1, e2, e3⟩ := cut_first hs hf h2 (st := st) (by omega)
    obtain ⟨st2, e4, e5, e6⟩ := ih1 hie (by omega) F st1 (by omega) (by omega)
    obtain ⟨st3, e7, e8, e9⟩ := ih2 hej h2 F st2 (by omega) (by omega)
    refine ⟨st3, ?_, by omega, by rw [hmul]; omega⟩
    rw [walkM]
    simp only [e1, e4, e7]
  | @end0 lo hi k t j z z' f c ht h ih =>
    intro h1 h2 F st hF hst
    obtain ⟨F, rfl⟩ : ∃ F', F = F' + 1 := ⟨F - 1, by omega⟩
    rw [walkM, if_pos rfl, if_pos ht]
    exact ih h1 h2 F st (by omega) hst
  | @end1 lo hi k t j z ht =>
    intro h1 h2 F st hF hst
    obtain ⟨F, rfl⟩ : ∃ F', F = F' + 1 := ⟨F - 1, by omega⟩
    exact ⟨st, by rw [walkM, if_pos rfl, if_neg ht], Nat.le_refl _, by omega⟩
  | @turn lo hi k t i e j z z1 z2 f c c2 hij ht hf _ _ ih1 ih2 =>
    intro h1 h2 F st hF hst
    obtain ⟨F, rfl⟩ : ∃ F', F = F' + 1 := ⟨F - 1, by omega⟩
    have hmul : (c + c2 + 1) * (2 * floodC) = c * (2 * floodC) + c2 * (2 * floodC) + 2 * floodC := by rw [Nat.add_mul, Nat.add_mul, Nat.one_mul]
    rw [hmul] at hst
    have hie := hf.ie
    have hej := hf.ej
    obtain ⟨st1, e1, e2, e3⟩ := cut_first hs hf h2 (st := st) (by omega)
    obtain ⟨st2, e4, e5, e6⟩ := ih1 hie (by omega) F st1 (by omega) (by omega)
    obtain ⟨st3, e7, e8, e9⟩ := ih2 hej h2 F st2 (by omega) (by omega)
    refine ⟨st3, ?_, by omega, by rw [hmul]; omega⟩
    rw [walkM, if_neg hij, if_neg (by omega)]
    simp only [e1, e4, e7]
  | more h ih =>
    intro h1 h2 F st hF hst
    exact ih h1 h2 F st (by omega) hst
structure Best (s : List UInt8) (r : RE) (i a b : Nat) : Prop where
  ia : i ≤ a
  ab : a ≤ b
  bs : b ≤ s.length
  hit : HitL s [r] a b
  last : ∀ b', b < b' → b' ≤ s.length → ¬ HitL s [r] a b'
  first : ∀ a', i ≤ a' → a' < a → ∀ b', ¬ HitL s [r] a' b'
theorem last_some {s : List UInt8} {r : RE} (hc : costL [r] + 1 ≤ 131072) {i b st : Nat} (hi : i ≤ b) (hb : b ≤ s.length) (hit : HitL s [r] i b) (last : ∀ b', b < b' → b' ≤ s.length → ¬ HitL s [r] i b') : lastT (endsM (makeM [r]) s i st).marks i (s.length + 1 - i) = some b := by
  have hE := fun p (hp : p ≤ s.length) => ends_iff hc s (i := i) (j := p) st (by omega) hp
  exact (dn_head i (fun p => (endsM (makeM [r]) s i st).marks.getD p false) (p := b) ((hE b hb).2 hit) _ hi (by omega) (fun q h1 h2 => by
    rw [Bool.eq_false_iff]
    exact fun hq => last q h1 (by omega) ((hE q (by omega)).1 hq))).2
theorem last_none {s : List UInt8} {r : RE} (hc : costL [r] + 1 ≤ 131072) {i st : Nat} (hi : i ≤ s.length) (no : ∀ b', ¬ HitL s [r] i b') : lastT (endsM (makeM [r]) s i st).marks i (s.length + 1 - i) = none := by
  have hE := fun p (hp : p ≤ s.length) => ends_iff hc s (i := i) (j := p) st hi hp
  refine List.find?_eq_none.2 fun q hq hm => ?_
  have hb := (mem_dnL _).1 hq
  exact no q ((hE q (by omega)).1 hm)
theorem find_best {s : List UInt8} (hs : s.length ≤ 1024) {r : RE} (hc : costL [r] + 1 ≤ 131072) {a b : Nat} : ∀ (n i st : Nat), n + i = s.length + 1 → Best s r i a b → st + n * floodC ≤ 576460752303423488 → ∃ st', findM s (makeM [r]) n i st = some (some (a, b), st') ∧ st ≤ st' ∧ st' ≤ st + n * floodC
  | 0, i, st, hn, h, _ => by have := h.ia; have := h.ab; have := h.bs; omega
  | n + 1, i, st, hn, h, hst => by
    obtain ⟨hr, hlt⟩ := make_room [r] hc
    have hia := h.ia
    have hab := h.ab
    have hbs := h.bs
    have hb : (endsM (makeM [r]) s i st).steps ≤ st + 17609365913600 := endsM_le hr hs i st
    have hup : st ≤ (endsM (makeM [r]) s i st).steps := flood_up hr.eo s (x0 := (0, i)) (by omega) (show i ≤ s.length by omega) (makeM [r]).2 true st
    rw [Nat.succ_mul] at hst ⊢
    unfold floodC at *
    rw [findM, if_pos (by omega)]
    by_cases hi : i = a
    · subst hi
      rw [last_some hc hab hbs h.hit h.last]
      exact ⟨(endsM (makeM [r]) s i st).steps, rfl, hup, Nat.le_trans hb (Nat.add_le_add_left (Nat.le_add_left _ _) _)⟩
    · rw [last_none hc (by omega) (h.first i (Nat.le_refl _) (by omega))]
      obtain ⟨st', e1, e2, e3⟩ := find_best hs hc n (i + 1) (endsM (makeM [r]) s i st).steps (by omega) ⟨by omega, hab, hbs, h.hit, h.last, fun a' h1 h2 => h.first a' (by omega) h2⟩ (by unfold floodC; omega)
      exact ⟨st', e1, by omega, by unfold floodC at e3; omega⟩
theorem find_no {s : List UInt8} (hs : s.length ≤ 1024) {r : RE} (hc : costL [r] + 1 ≤ 131072) : ∀ (n i st : Nat), n + i = s.length + 1 → (∀ a, i ≤ a → a ≤ s.length → ∀ b, ¬ HitL s [r] a b) → st + n * floodC ≤ 576460752303423488 → ∃ st', findM s (makeM [r]) n i st = some (none, st') ∧ st ≤ st' ∧ st' ≤ st + n * floodC
  | 0, i, st, hn, h, _ => ⟨st, rfl, Nat.le_refl _, by omega⟩
  | n + 1, i, st, hn, h, hst => by
    obtain ⟨hr, hlt⟩ := make_room [r] hc
    have hb : (endsM (makeM [r]) s i st).steps ≤ st + 17609365913600 := endsM_le hr hs i st
    have hup : st ≤ (endsM (makeM [r]) s i st).steps := flood_up hr.eo s (x0 := (0, i)) (by omega) (show i ≤ s.length by omega) (makeM [r]).2 true st
    rw [Nat.succ_mul] at hst ⊢
    unfold floodC at *
    rw [findM, if_pos (by omega), last_none hc (by omega) (h i (Nat.le_refl _) (by omega))]
    obtain ⟨st', e1, e2, e3⟩ := find_no hs hc n (i + 1) (endsM (makeM [r]) s i st).steps (by omega) (fun a h1 h2 => h a (by omega) h2) (by unfold floodC; omega)
    exact ⟨st', e1, by omega, by unfold floodC at e3; omega⟩
theorem set_best {t s : List UInt8} (hs : s.length ≤ 1024) {r : RE} {g i a b f c : Nat} {z : List Spn} (he : (parseM t).e = 0) (hb : (measM (parseM t).tree).back = false) (hg : (measM (parseM t).tree).grp = (g : Nat)) (hg9 : g ≤ 9) (ht : (parseM t).tree = r) (hc : costL [r] + 1 ≤ 131072) (hbest : Best s r i a b) (hw : Wk s (.one r) a b ((List.replicate (g + 1) (-1, -1)).set 0 ((a : Int), (b : Int))) z f c) (hcc : c ≤ 4096) :
    ∃ m, setM f t s (i : Nat) = some m ∧ m.ok = true ∧ m.e = 0 ∧ m.spans = z := by
  have hia := hbest.ia
  have hab := hbest.ab
  have hbs := hbest.bs
  unfold setM
  rw [if_neg (fun h => h he), if_neg (by rw [hb]; simp), if_neg (by omega), if_neg (by omega), if_neg (by rw [hg]; omega), hg, ht]
  unfold setGo
  obtain ⟨st1, e1, e2, e3⟩ := find_best hs hc (s.length + 1 - i) i 0 (by omega) hbest (by unfold floodC; omega)
  have hw2 := hw.run hs hab hbs f st1 (Nat.le_refl _) (by unfold floodC at *; omega)
  obtain ⟨st2, e4, _, _⟩ := hw2
  rw [if_pos hc]
  simp only [Int.toNat_natCast, e1, e4]
  exact ⟨_, rfl, rfl, rfl, rfl⟩
theorem set_no {t s : List UInt8} (hs : s.length ≤ 1024) {r : RE} {g i : Nat} (hi : i ≤ s.length) (he : (parseM t).e = 0) (hb : (measM (parseM t).tree).back = false) (hg : (measM (parseM t).tree).grp = (g : Nat)) (hg9 : g ≤ 9) (ht : (parseM t).tree = r) (hc : costL [r] + 1 ≤ 131072) (hno : ∀ a, i ≤ a → a ≤ s.length → ∀ b, ¬ HitL s [r] a b) :
    ∃ m, setM 0 t s (i : Nat) = some m ∧ m.ok = false ∧ m.e = 0 ∧ m.spans = [] := by
  unfold setM
  rw [if_neg (fun h => h he), if_neg (by rw [hb]; simp), if_neg (by omega), if_neg (by omega), if_neg (by rw [hg]; omega), hg, ht]
  unfold setGo
  obtain ⟨st1, e1, e2, e3⟩ := find_no hs hc (s.length + 1 - i) i 0 (by omega) hno (by unfold floodC; omega)
  rw [if_pos hc]
  simp only [Int.toNat_natCast, e1]
  exact ⟨_, rfl, rfl, rfl, rfl⟩
end Go.Proofs.Ytblpgpgbnlhjlaa
namespace Go.Proofs.Ytblpgpgbnlhjlaa
open Go Go.RowKit Sl
set_option maxRecDepth 100000
set_option maxHeartbeats 8000000
set_option linter.unusedVariables false
set_option linter.unusedSimpArgs false
attribute [local irreducible] ES EL PX wps
abbrev At (s : List UInt8) (S : BS) (k : Nat) : Prop := k < s.length ∧ hasS S (s.getD k 0).toNat = true
theorem hit_byte {s : List UInt8} {S : BS} {i j : Nat} : Hit s (.byte S) i j ↔ At s S i ∧ j = i + 1 := by rw [Hit]
theorem hitL_one {s : List UInt8} {r : RE} {i j : Nat} : HitL s [r] i j ↔ Hit s r i j := by
  rw [HitL]
  constructor
  · rintro ⟨m, h1, h2⟩
    rw [HitL] at h2
    subst h2; exact h1
  · exact fun h => ⟨j, h, by rw [HitL]⟩
theorem hit_cat {s : List UInt8} {ks : List RE} {i j : Nat} : Hit s (.cat ks) i j ↔ HitL s ks i j := by rw [Hit]
end Go.Proofs.Ytblpgpgbnlhjlaa
namespace Go.Proofs.Ytblpgpgbnlhjlaa
open Go Go.RowKit Sl
set_option maxRecDepth 100000
set_option maxHeartbeats 8000000
set_option linter.unusedVariables false
set_option linter.unusedSimpArgs false
attribute [local irreducible] ES EL PX wps
def okB (n : Nat) : Bool := (decide (48 ≤ n) && decide (n ≤ 57)) || (decide (65 ≤ n) && decide (n ≤ 90)) || (decide (97 ≤ n) && decide (n ≤ 122)) || decide (128 ≤ n)
def testB (n : Nat) : Bool :=
  match (parseM [UInt8.ofNat n]).tree with
  | .cat [.byte S] => decide ((parseM [UInt8.ofNat n]).e = 0) && (measM (parseM [UInt8.ofNat n]).tree).back == false && decide ((measM (parseM [UInt8.ofNat n]).tree).grp = 0) && (List.range 256).all fun d => hasS S d == decide (d = n)
  | _ => false
theorem testB_all : ∀ n : Fin 256, okB n.val = true → testB n.val = true := by decide +kernel
theorem byte_tree (c : UInt8) (h : okB c.toNat = true) : ∃ S, (parseM [c]).tree = .cat [.byte S] ∧ (parseM [c]).e = 0 ∧ (measM (parseM [c]).tree).back = false ∧ (measM (parseM [c]).tree).grp = 0 ∧ ∀ d : UInt8, hasS S d.toNat = true ↔ d = c := by
  have ht := testB_all ⟨c.toNat, c.toNat_lt⟩ h
  unfold testB at ht
  rw [show UInt8.ofNat c.toNat = c by simp] at ht
  split at ht
  · rename_i S hS
    simp only [Bool.and_eq_true, decide_eq_true_eq, beq_iff_eq, List.all_eq_true, List.mem_range] at ht
    obtain ⟨⟨⟨h1, h2⟩, h3⟩, h4⟩ := ht
    refine ⟨S, hS, h1, h2, h3, fun d => ?_⟩
    have h5 := h4 d.toNat d.toNat_lt
    rw [h5, decide_eq_true_eq]
    exact ⟨fun e => UInt8.toNat_inj.1 e, fun e => by rw [e]⟩
  · cases ht
theorem hit_one {s : List UInt8} {S : BS} {c : UInt8} (hS : ∀ d : UInt8, hasS S d.toNat = true ↔ d = c) {i j : Nat} : HitL s [.cat [.byte S]] i j ↔ (i < s.length ∧ s.getD i 0 = c) ∧ j = i + 1 := by
  rw [hitL_one, hit_cat, hitL_one, hit_byte]
  exact and_congr (and_congr Iff.rfl (hS _)) Iff.rfl
theorem one_some {s : List UInt8} (hs : s.length ≤ 1024) {c : UInt8} (h : okB c.toNat = true) {p q : Nat} (hpq : p ≤ q) (hq : q < s.length) (hc : s.getD q 0 = c) (hno : ∀ k, p ≤ k → k < q → s.getD k 0 ≠ c) :
    ∃ F m, setM F [c] s (p : Nat) = some m ∧ m.ok = true ∧ m.e = 0 ∧ m.spans = [((q : Int), ((q + 1 : Nat) : Int))] := by
  obtain ⟨S, ht, he, hb, hg, hS⟩ := byte_tree c h
  have hbest : Best s (.cat [.byte S]) p q (q + 1) := ⟨hpq, by omega, by omega, (hit_one hS).2 ⟨⟨hq, hc⟩, rfl⟩, fun b' h1 _ h3 => by have := ((hit_one hS).1 h3).2; omega, fun a' h1 h2 b' h3 => hno a' h1 h2 ((hit_one hS).1 h3).1.2⟩
  obtain ⟨m, e1, e2, e3, e4⟩ := set_best (g := 0) (z := [((q : Int), ((q + 1 : Nat) : Int))]) hs he hb (by rw [hg]; rfl) (by omega) ht (by simp [costL, RE.cost]) hbest (.cat (.last .byte)) (by omega)
  exact ⟨_, m, e1, e2, e3, e4⟩
theorem one_none {s : List UInt8} (hs : s.length ≤ 1024) {c : UInt8} (h : okB c.toNat = true) {p : Nat} (hp : p ≤ s.length) (hno : ∀ k, p ≤ k → k < s.length → s.getD k 0 ≠ c) :
    ∃ F m, setM F [c] s (p : Nat) = some m ∧ m.ok = false ∧ m.e = 0 ∧ m.spans = [] := by
  obtain ⟨S, ht, he, hb, hg, hS⟩ := byte_tree c h
  obtain ⟨m, e1, e2, e3, e4⟩ := set_no (g := 0) hs hp he hb (by rw [hg]; rfl) (by omega) ht (by simp [costL, RE.cost]) (fun a h1 h2 b h3 => hno a h1 ((hit_one hS).1 h3).1.1 ((hit_one hS).1 h3).1.2)
  exact ⟨_, m, e1, e2, e3, e4⟩
end Go.Proofs.Ytblpgpgbnlhjlaa
namespace Go.Proofs.Ytblpgpgbnlhjlaa
open Go Go.RowKit Sl
set_option maxRecDepth 100000
set_option maxHeartbeats 8000000
set_option linter.unusedVariables false
set_option linter.unusedSimpArgs false
attribute [local irreducible] ES EL PX wps
theorem choose_mr {n : Nat} {P : Nat → MR → Prop} (H : ∀ p, p ≤ n → ∃ m, P p m) : ∃ mr : Nat → MR, (∀ p, p ≤ n → P p (mr p)) ∧ ∀ p, n < p → mr p = ⟨[], false, 0, 0⟩ := by
  classical
  refine ⟨fun p => if h : p ≤ n then (H p h).choose else ⟨[], false, 0, 0⟩, fun p h => ?_, fun p h => ?_⟩
  · simp only [dif_pos h]; exact (H p h).choose_spec
  · simp only [dif_neg (show ¬ p ≤ n by omega)]
def plc (s : List UInt8) (c : UInt8) (p : Nat) : List Nat := (List.range' p (s.length - p)).filter fun q => s.getD q 0 == c
theorem plc_skip {s : List UInt8} {c : UInt8} : ∀ (d p : Nat), p + d ≤ s.length → (∀ k, p ≤ k → k < p + d → s.getD k 0 ≠ c) → plc s c p = plc s c (p + d)
  | 0, _, _, _ => rfl
  | d + 1, p, h, hno => by
    have h1 := plc_skip d (p + 1) (by omega) (fun k h1 h2 => hno k (by omega) (by omega))
    rw [show p + (d + 1) = p + 1 + d by omega, ← h1]
    unfold plc
    rw [show s.length - p = (s.length - (p + 1)) + 1 by omega, List.range'_succ, List.filter_cons, if_neg (by simpa using hno p (Nat.le_refl _) (by omega))]
theorem plc_hit {s : List UInt8} {c : UInt8} {q : Nat} (hq : q < s.length) (hc : s.getD q 0 = c) : plc s c q = q :: plc s c (q + 1) := by
  unfold plc
  rw [show s.length - q = (s.length - (q + 1)) + 1 by omega, List.range'_succ, List.filter_cons, if_pos (by simpa using hc)]
theorem plc_end (s : List UInt8) (c : UInt8) {p : Nat} (h : s.length ≤ p) : plc s c p = [] := by
  unfold plc
  rw [show s.length - p = 0 by omega]; rfl
theorem occ_letter {mr : Nat → MR} {s : List UInt8} {c : UInt8} (h : ∀ p, p ≤ s.length → (mr p).e = 0 ∧ ((∃ q, p ≤ q ∧ q < s.length ∧ s.getD q 0 = c ∧ (∀ k, p ≤ k → k < q → s.getD k 0 ≠ c) ∧ (mr p).ok = true ∧ (mr p).spans = [((q : Int), ((q + 1 : Nat) : Int))]) ∨ ((∀ k, p ≤ k → k < s.length → s.getD k 0 ≠ c) ∧ (mr p).ok = false))) :
    ∀ (f p : Nat) (last : Int), s.length + 1 ≤ f + p → occGo mr s.length f p last = (plc s c p).map fun q : Nat => ([((q : Int), ((q + 1 : Nat) : Int))], (0 : Int))
  | 0, p, last, h2 => by rw [plc_end s c (by omega)]; rfl
  | f + 1, p, last, h2 => by
    rw [occGo]
    split
    · rw [plc_end s c (by omega)]; rfl
    · rename_i hp
      obtain ⟨e2, hh⟩ := h p (by omega)
      rw [e2, if_neg (by simp)]
      rcases hh with ⟨q, h3, h4, h5, h6, e1, e3⟩ | ⟨h3, e1⟩
      · rw [e1, if_neg (by simp), e3]
        dsimp only [List.headD_cons]
        rw [if_neg (by omega), if_neg (by omega), Int.toNat_natCast, occ_letter h f (q + 1) _ (by omega)]
        have := plc_skip (s := s) (c := c) (q - p) p (by omega) (fun k h7 h8 => h6 k h7 (by omega))
        rw [show p + (q - p) = q by omega] at this
        rw [this, plc_hit h4 h5, List.map_cons]
      · rw [e1, if_pos rfl]
        have := plc_skip (s := s) (c := c) (s.length - p) p (by omega) (fun k h7 h8 => h3 k h7 (by omega))
        rw [this, plc_end s c (by omega)]; rfl
end Go.Proofs.Ytblpgpgbnlhjlaa
namespace Go.Proofs.Ytblpgpgbnlhjlaa
open Go Go.RowKit Sl
set_option maxRecDepth 100000
set_option maxHeartbeats 8000000
set_option linter.unusedVariables false
set_option linter.unusedSimpArgs false
attribute [local irreducible] ES EL PX wps
def finT (s : List UInt8) (done at_ : Nat) (out : List UInt8) : Option (List UInt8 × Nat) := if at_ ≤ s.length ∧ out.length + (s.length - at_) ≤ 1024 then some (out ++ s.drop at_, done) else none
def doGo (s put : List UInt8) (nth : Nat) (all : Bool) : List (Nat × Nat) → Nat → Nat → Nat → List UInt8 → Option (List UInt8 × Nat)
  | [], _, done, at_, out => finT s done at_ out
  | (a, b) :: r, number, done, at_, out =>
    if number + 1 < nth then doGo s put nth all r (number + 1) done at_ out
    else if nth < number + 1 ∧ all = false then finT s done at_ out
    else if at_ ≤ a ∧ a ≤ b ∧ b ≤ s.length ∧ out.length + (a - at_) + put.length ≤ 1024 then
      if all = false then finT s (done + 1) b (out ++ (s.drop at_).take (a - at_) ++ put)
      else doGo s put nth all r (number + 1) (done + 1) b (out ++ (s.drop at_).take (a - at_) ++ put)
    else none
def doM (s put : List UInt8) (nth : Nat) (all : Bool) (pl : List (Nat × Nat)) : Option (List UInt8 × Nat) := doGo s put nth all pl 0 0 0 []
theorem do_awake : doM [97, 98, 120, 99] [45] 1 true [(0, 0), (1, 1), (2, 3), (4, 4)] = some ([45, 97, 45, 98, 45, 99, 45], 4) := by decide
def pls : List UInt8 → Nat → List Nat
  | [], _ => []
  | c :: t, i => if c = 97 then i :: pls t (i + 1) else pls t (i + 1)
theorem pls_plc (s : List UInt8) : ∀ (d i : Nat), s.length - i = d → plc s 97 i = pls (s.drop i) i
  | 0, i, h => by rw [plc_end s 97 (by omega), List.drop_of_length_le (by omega)]; rfl
  | d + 1, i, h => by
    have hlt : i < s.length := by omega
    have ih := pls_plc s d (i + 1) (by omega)
    rw [List.drop_eq_getElem_cons hlt, pls]
    have hg : s.getD i 0 = s[i] := by rw [List.getD_eq_getElem?_getD, List.getElem?_eq_getElem hlt]; rfl
    by_cases hc : s[i] = 97
    · rw [if_pos hc, plc_hit hlt (hg.trans hc), ih]
    · rw [if_neg hc, ← ih]
      have := plc_skip (s := s) (c := 97) 1 i (by omega) (fun k h1 h2 => by rw [show k = i by omega, hg]; exact hc)
      exact this
theorem pls_shift : ∀ (t : List UInt8) (i k : Nat), pls t (i + k) = (pls t i).map (· + k)
  | [], _, _ => rfl
  | c :: t, i, k => by
    rw [pls, pls]
    have ih := pls_shift t (i + 1) k
    rw [show i + 1 + k = i + k + 1 by omega] at ih
    split
    · rw [List.map_cons, ih]
    · exact ih
def cntA (t : List UInt8) : Nat := (pls t 0).length
theorem cntA_cons (c : UInt8) (t : List UInt8) : cntA (c :: t) = (if c = 97 then 1 else 0) + cntA t := by
  unfold cntA
  rw [pls]
  have h := pls_shift t 0 1
  split
  · rw [List.length_cons, h, List.length_map]; omega
  · rw [h, List.length_map]; omega
def repF (p : List UInt8) : Nat → List UInt8 → List UInt8
  | _, [] => []
  | 0, c :: t => if c = 97 then p ++ repF p 0 t else c :: repF p 0 t
  | k + 1, c :: t => if c = 97 then c :: repF p k t else c :: repF p (k + 1) t
def rep1 (p : List UInt8) : Nat → List UInt8 → List UInt8
  | _, [] => []
  | 0, c :: t => if c = 97 then p ++ t else c :: rep1 p 0 t
  | k + 1, c :: t => if c = 97 then c :: rep1 p k t else c :: rep1 p (k + 1) t
theorem repF_nil (p : List UInt8) (k : Nat) : repF p k [] = [] := by cases k <;> rw [repF]
theorem repF_0 (p : List UInt8) {c : UInt8} (h : c = 97) (t : List UInt8) : repF p 0 (c :: t) = p ++ repF p 0 t := by rw [repF, if_pos h]
theorem repF_s (p : List UInt8) (k : Nat) {c : UInt8} (h : c = 97) (t : List UInt8) : repF p (k + 1) (c :: t) = c :: repF p k t := by rw [repF, if_pos h]
theorem repF_n (p : List UInt8) (k : Nat) {c : UInt8} (h : ¬ c = 97) (t : List UInt8) : repF p k (c :: t) = c :: repF p k t := by cases k <;> rw [repF, if_neg h]
theorem rep1_0 (p : List UInt8) {c : UInt8} (h : c = 97) (t : List UInt8) : rep1 p 0 (c :: t) = p ++ t := by rw [rep1, if_pos h]
theorem rep1_s (p : List UInt8) (k : Nat) {c : UInt8} (h : c = 97) (t : List UInt8) : rep1 p (k + 1) (c :: t) = c :: rep1 p k t := by rw [rep1, if_pos h]
theorem rep1_n (p : List UInt8) (k : Nat) {c : UInt8} (h : ¬ c = 97) (t : List UInt8) : rep1 p k (c :: t) = c :: rep1 p k t := by cases k <;> rw [rep1, if_neg h]
theorem repF_all (p : List UInt8) : ∀ (t : List UInt8) (k : Nat), cntA t ≤ k → repF p k t = t
  | [], k, _ => repF_nil p k
  | c :: t, k, h => by
    rw [cntA_cons] at h
    by_cases hc : c = 97
    · rw [if_pos hc] at h
      obtain ⟨k, rfl⟩ : ∃ k', k = k' + 1 := ⟨k - 1, by omega⟩
      rw [repF_s p k hc, repF_all p t k (by omega)]
    · rw [if_neg hc] at h
      rw [repF_n p k hc, repF_all p t k (by omega)]
theorem rep_step (p : List UInt8) : ∀ (t : List UInt8) (k : Nat), k + 1 ≤ cntA t → rep1 p k (repF p (k + 1) t) = repF p k t
  | [], k, h => by simp [cntA, pls] at h
  | c :: t, k, h => by
    rw [cntA_cons] at h
    by_cases hc : c = 97
    · rw [if_pos hc] at h
      rw [repF_s p k hc]
      cases k with
      | zero => rw [rep1_0 p hc, repF_0 p hc]
      | succ k => rw [rep1_s p k hc, repF_s p k hc, rep_step p t k (by omega)]
    · rw [if_neg hc] at h
      rw [repF_n p _ hc, rep1_n p _ hc, repF_n p _ hc, rep_step p t k (by omega)]
theorem repF_len (p : List UInt8) (hp : p.length ≤ 10) : ∀ (t : List UInt8) (k : Nat), (repF p k t).length ≤ 11 * t.length
  | [], k => by rw [repF_nil]; simp
  | c :: t, k => by
    by_cases hc : c = 97
    · cases k with
      | zero =>
        have := repF_len p hp t 0
        rw [repF_0 p hc]
        simp only [List.length_append, List.length_cons]
        omega
      | succ k =>
        have := repF_len p hp t k
        rw [repF_s p k hc]
        simp only [List.length_cons]
        omega
    · have := repF_len p hp t k
      rw [repF_n p k hc]
      simp only [List.length_cons]
      omega
theorem repF_cnt (p : List UInt8) : ∀ (t : List UInt8) (k : Nat), k ≤ cntA t → k ≤ cntA (repF p k t)
  | [], k, h => by rw [repF_nil]; exact h
  | c :: t, k, h => by
    rw [cntA_cons] at h
    by_cases hc : c = 97
    · rw [if_pos hc] at h
      cases k with
      | zero => omega
      | succ k =>
        rw [repF_s p k hc, cntA_cons, if_pos hc]
        have := repF_cnt p t k (by omega)
        omega
    · rw [if_neg hc] at h
      rw [repF_n p k hc, cntA_cons, if_neg hc]
      have := repF_cnt p t k (by omega)
      omega
abbrev prs (l : List Nat) : List (Nat × Nat) := l.map fun q => (q, q + 1)
theorem do_one (s p : List UInt8) (k : Nat) (hl : s.length + p.length ≤ 1024) : ∀ (t pre : List UInt8) (j number : Nat), s = pre ++ t → j + 1 ≤ cntA t → number + j + 1 = k →
    doGo s p k false (prs (pls t pre.length)) number 0 0 [] = some (pre ++ rep1 p j t, 1)
  | [], pre, j, number, hs, h, _ => by simp [cntA, pls] at h
  | c :: t, pre, j, number, hs, h, hk => by
    rw [cntA_cons] at h
    have hs2 : s = (pre ++ [c]) ++ t := by rw [hs]; simp
    have hlp : (pre ++ [c]).length = pre.length + 1 := by simp
    have hsl : s.length = pre.length + 1 + t.length := by rw [hs]; simp; omega
    rw [pls]
    by_cases hc : c = 97
    · rw [if_pos hc] at h ⊢
      rw [show prs (pre.length :: pls t (pre.length + 1)) = (pre.length, pre.length + 1) :: prs (pls t (pre.length + 1)) from rfl, doGo]
      cases j with
      | zero =>
        rw [if_neg (by omega), if_neg (by omega), if_pos ⟨by omega, by omega, by omega, by simp; omega⟩, if_pos rfl]
        unfold finT
        have ht : (s.drop 0).take (pre.length - 0) = pre := by rw [List.drop_zero, Nat.sub_zero, hs, List.take_left]
        have hd : s.drop (pre.length + 1) = t := by rw [hs2, ← hlp, List.drop_left]
        rw [ht, if_pos ⟨by omega, by simp; omega⟩, hd, rep1_0 p hc]
        simp
      | succ j =>
        rw [if_pos (by omega)]
        have ih := do_one s p k hl t (pre ++ [c]) j (number + 1) hs2 (by omega) (by omega)
        rw [hlp] at ih
        rw [ih, rep1_s p j hc]
        simp
    · rw [if_neg hc] at h ⊢
      have ih := do_one s p k hl t (pre ++ [c]) j number hs2 (by omega) (by omega)
      rw [hlp] at ih
      rw [ih, rep1_n p j hc]
      simp
theorem do_all (s p : List UInt8) : ∀ (t mid pre out : List UInt8) (number done : Nat), s = pre ++ (mid ++ t) → (∀ c ∈ mid, c ≠ 97) → out.length + mid.length + (repF p 0 t).length ≤ 1024 →
    doGo s p 1 true (prs (pls t (pre.length + mid.length))) number done pre.length out = some (out ++ mid ++ repF p 0 t, done + cntA t)
  | [], mid, pre, out, number, done, hs, hm, hb => by
    have hsl : s.length = pre.length + mid.length := by rw [hs]; simp
    have hd : s.drop pre.length = mid := by rw [hs, List.drop_left]; simp
    simp only [repF_nil, List.length_nil] at hb
    show finT s done pre.length out = _
    unfold finT
    rw [if_pos ⟨by omega, by omega⟩, hd]
    simp [repF_nil, cntA, pls]
  | c :: t, mid, pre, out, number, done, hs, hm, hb => by
    have hsl : s.length = pre.length + mid.length + 1 + t.length := by rw [hs]; simp; omega
    rw [cntA_cons, pls]
    by_cases hc : c = 97
    · rw [if_pos hc, if_pos hc, show prs ((pre.length + mid.length) :: pls t (pre.length + mid.length + 1)) = (pre.length + mid.length, pre.length + mid.length + 1) :: prs (pls t (pre.length + mid.length + 1)) from rfl, doGo]
      rw [repF_0 p hc] at hb ⊢
      have hr : (p ++ repF p 0 t).length = p.length + (repF p 0 t).length := List.length_append
      rw [if_neg (by omega), if_neg (by simp), if_pos ⟨by omega, by omega, by omega, by omega⟩, if_neg (by simp)]
      have ht : (s.drop pre.length).take (pre.length + mid.length - pre.length) = mid := by
        rw [hs, List.drop_left, Nat.add_sub_cancel_left, List.take_left]
      rw [ht]
      have hs3 : s = (pre ++ mid ++ [c]) ++ ([] ++ t) := by rw [hs]; simp
      have hl3 : (pre ++ mid ++ [c]).length = pre.length + mid.length + 1 := by simp; omega
      have ih := do_all s p t [] (pre ++ mid ++ [c]) (out ++ mid ++ p) (number + 1) (done + 1) hs3 (fun x hx => by simp at hx) (by simp only [List.length_append, List.length_nil]; omega)
      rw [hl3, List.length_nil, Nat.add_zero] at ih
      rw [ih]
      simp only [List.append_nil, List.append_assoc]
      congr 2
      omega
    · rw [if_neg hc, if_neg hc]
      rw [repF_n p 0 hc] at hb ⊢
      simp only [List.length_cons] at hb
      have hs3 : s = pre ++ ((mid ++ [c]) ++ t) := by rw [hs]; simp
      have ih := do_all s p t (mid ++ [c]) pre out number done hs3 (fun x hx => by
        rcases List.mem_append.1 hx with hx | hx
        · exact hm x hx
        · rw [List.mem_singleton] at hx; subst hx; exact hc) (by simp only [List.length_append, List.length_cons, List.length_nil]; omega)
      have e : pre.length + (mid ++ [c]).length = pre.length + mid.length + 1 := by simp; omega
      rw [e] at ih
      rw [ih]
      simp only [List.append_assoc, List.singleton_append, Nat.zero_add]
theorem do_once (s p : List UInt8) (hs : s.length ≤ 60) (hp : p.length ≤ 10) : doM s p 1 true (prs (pls s 0)) = some (repF p 0 s, cntA s) := by
  have hl := repF_len p hp s 0
  have := do_all s p s [] [] [] 0 0 rfl (fun x hx => by simp at hx) (by simp; omega)
  unfold doM
  simpa using this
theorem do_step (s p : List UInt8) (k : Nat) (hs : s.length ≤ 60) (hp : p.length ≤ 10) (hk : k + 1 ≤ cntA s) : doM (repF p (k + 1) s) p (k + 1) false (prs (pls (repF p (k + 1) s) 0)) = some (repF p k s, 1) := by
  have hl := repF_len p hp s (k + 1)
  have := do_one (repF p (k + 1) s) p (k + 1) (by omega) (repF p (k + 1) s) [] k 0 rfl (repF_cnt p s (k + 1) hk) (by omega)
  rw [rep_step p s k hk] at this
  unfold doM
  simpa using this
end Go.Proofs.Ytblpgpgbnlhjlaa
namespace Go.Proofs.Ytblpgpgbnlhjlaa.Sl
open Go Go.RowKit
set_option linter.unusedVariables false
set_option linter.unusedSimpArgs false
theorem Rd.take {w : World} {B : Nat} {ad : Option Addr} {cs : List Value} (h : Rd w B ad cs) (k : Nat) : Rd w B ad (cs.take k) := by
  intro hne
  obtain ⟨g, off, h1, h2, h3⟩ := h (by intro e; subst e; simp at hne)
  refine ⟨g, off, h1, h2, fun j v hj => h3 j v ?_⟩
  rw [List.getElem?_take] at hj
  split at hj
  · exact hj
  · cases hj
section cutabove
variable {C : Cx} {all : Array Oper} {ops : List Oper} {Q : Qt} {E : Env} {H : List HA} {d ty t : Nat} {pos : String} {af : Array Edge} {gd : Option (Nat × Bool)} {x y : Operand}
end cutabove
end Go.Proofs.Ytblpgpgbnlhjlaa.Sl
namespace Go.Proofs.Ytblpgpgbnlhjlaa.Sl
open Go Go.RowKit
set_option linter.unusedVariables false
set_option linter.unusedSimpArgs false
variable {C : Cx} {Q : Qt} {E : Env} {H : List HA}
section appendrd
variable {all : Array Oper} {ops : List Oper} {d ty t : Nat} {pos : String} {af : Array Edge} {gd : Option (Nat × Bool)} {x y : Operand}
end appendrd
end Go.Proofs.Ytblpgpgbnlhjlaa.Sl
namespace Go.Proofs.Ytblpgpgbnlhjlaa.Sl
open Go Go.RowKit Go.Lib
set_option linter.unusedVariables false
set_option linter.unusedSimpArgs false
section buffers
variable {C : Cx} {all : Array Oper} {ops : List Oper} {Q : Qt} {E : Env} {H R : List HA} {d ty t : Nat} {pos : String} {af : Array Edge} {gd : Option (Nat × Bool)} {x y : Operand}
theorem EL.bytesB {ti ts te : TI} {el : TypeId} {ad : Option Addr} {n cap : Nat} {bs : List UInt8} (hg : guardOk all E gd = some true) (hx : E.ev x = some (.slice ad n cap)) (ht : C.T.f t = some ti) (hu : ti.u = .slice el) (hte : C.T.f el = some te) (hue : te.u = .int .u8) {t2 : Nat} (hts : C.T.f t2 = some ts) (hus : ts.u = .string) (hd : Nat.blt d C.n = true)
    (hm : Mem H (HA.buf (.slice ad n cap) el n (bs.map Uv))) (k : EL C all ops Q ((d, Sv bs) :: E) H) : EL C all (⟨some d, .convert t t2 x, ty, pos, af, gd⟩ :: ops) Q E H :=
  EL.val _ hg rfl hd (by simp) (fun a w ha => by
    have hT := (C.T.ok t ti ht).u
    rw [hu] at hT
    have hE := (C.T.ok el te hte).u
    rw [hue] at hE
    have hS := (C.T.ok t2 ts hts).u
    rw [hus] at hS
    have hown : ownsB w el (.slice ad n cap) n (bs.map Uv) := ha.2.all _ hm.mem
    have hf := buf_form hown
    have hln : bs.length = n := by simpa using hf.2.1
    have : (convert t t2 (.slice ad n cap)).run C.P w = .ok (Sv bs) w := by
      rcases hf.2.2 with ⟨h0, rfl, rfl⟩ | ⟨h0, hc, g, cur, fz, rfl, hh, hfz, hnc, hcs, htake⟩
      · subst h0
        obtain rfl : bs = [] := List.eq_nil_of_length_eq_zero hln
        exact run_convert_bytes_nil (P := C.P) w t el hT hE 0 0 t2 hS
      · have hcell : ∀ j z, (bs.map Uv)[j]? = some z → w.cell? ((⟨g, 0, none⟩ : Addr).add j) = some z := hown.1.cells (g := g) rfl
        have hc := run_convert_bytes_arg (P := C.P) w t el hT hE g 0 n cap (bs.map fun b => (b.toNat : Int)) (by simp [hln]) (fun i hi => by
          rw [Nat.zero_add]
          have := hcell i (Uv (bs.getD i 0)) (by simp [List.getElem?_eq_getElem (show i < bs.length by omega), List.getD_eq_getElem?_getD])
          rw [add_n, Nat.zero_add] at this
          rw [this]
          simp [List.getElem?_eq_getElem (show i < bs.length by omega), List.getD_eq_getElem?_getD]) t2 hS
        rw [hc]
        simp only [strOfNums, List.map_map]
        congr 3
        apply congrArg List.toArray
        conv => rhs; rw [← List.map_id bs]
        apply List.map_congr_left
        intro b _
        simp
    simp [execOp, ha.1.ev hx, this, Result.andThen]) k
end buffers
end Go.Proofs.Ytblpgpgbnlhjlaa.Sl
namespace Go.Proofs.Ytblpgpgbnlhjlaa
open Go Go.RowKit Sl
set_option maxRecDepth 100000
set_option maxHeartbeats 8000000
set_option linter.unusedVariables false
set_option linter.unusedSimpArgs false
attribute [local irreducible] ES EL PX wps
section
variable {C : Cx} {E : Env} {H : List HA} {d ty t : Nat} {pos : String} {af : Array Edge} {g : Option (Nat × Bool)} {x : Operand}
theorem RV.sliceS' {l v : List UInt8} {lo hi : Option Operand} {m n : Nat} {ti : TI} (he : (l.drop m).take (n - m) = v) (hx : E.ev x = some (Sv l)) (ht : C.T.f t = some ti) (hu : ti.u = .string) (hlo : bnd E 0 lo m) (hhi : bnd E l.length hi n) (h0 : m ≤ n) (h1 : n ≤ l.length) : RunV C E H ⟨some d, .slice t x lo hi none, ty, pos, af, g⟩ (Sv v) := he ▸ RV.sliceS hx ht hu hlo hhi h0 h1
end
structure DoS where
  num : Nat
  dn : Nat
  at_ : Nat
  out : List UInt8
  ad : Option Addr
  cap : Nat
abbrev plX (pl : List (Nat × Nat)) : List (List Spn × Int) := pl.map fun p => ([((p.1 : Int), (p.2 : Int))], (0 : Int))
theorem do_c (po : Option Addr) (pad : Option Addr) (pcap : Nat) (s put : List UInt8) (hsl : s.length ≤ 1024) (hput : put.length ≤ 1024) (nth : Nat) (hn1 : 1 ≤ nth) (hn2 : nth ≤ 512) (all : Bool) (Hm : HA) (mr : Nat → MR) (hok : McOk mr s.length) (he : ∀ p, (mr p).e = 0) (pl : List (Nat × Nat)) (hpl : occL mr s.length = plX pl) (res : List UInt8) (n : Nat) (hdo : doM s put nth all pl = some (res, n)) (w0 : World) (B : Nat)
    (T : HA) (hrd : ∀ (w : World) (H : List HA), Sat w0 B H w → T ∈ H → Rd w w.heap.size pad [Iv (-1), Sv put]) (hmt : ∀ p : Nat, p ≤ s.length → MutAt Try.prog 22 #[.pointer po, Sv s, Iv (p : Nat)] [Hm] (mrV (mr p)) (fun x => [PRow x.1 x.2 (mr p).spans, Hm]) w0 B) :
    MutAt Try.prog 39 #[.pointer po, .slice pad 1 pcap, Iv (nth : Nat), .bool all, Sv s] [Hm, T] (fun _ : Unit => .tuple #[Sv res, Iv (n : Nat), Iv 0]) (fun _ => [Hm, T]) w0 B := by
  intro R w h
  replace h : Sat w0 B (Hm :: T :: R) w := h
  refine calls_of_ESM TB Try.func39 rfl _ Try.ntmps39 rfl h ?_
  refine .gr ?_; repeat constructor
  (refine EL.box rfl rfl rfl ?_; intro g6)
  (refine EL.box rfl rfl rfl ?_; intro g7)
  (refine EL.box rfl rfl rfl ?_; intro g8)
  (refine EL.box rfl rfl rfl ?_; intro g9)
  (refine EL.alloc rfl rfl rfl ?_; intro g10)
  (refine EL.alloc rfl rfl rfl ?_; intro g11)
  (refine EL.alloc rfl rfl rfl ?_; intro g12)
  refine .gr ?_; repeat constructor
  refine EL.cutX (X := Unit) (fun _ => [(0, .pointer po), (6, Pv g6 0), (7, Pv g7 0), (8, Pv g8 0), (9, Pv g9 0), (10, Pv g10 0), (11, Pv g11 0), (12, Pv g12 0), (26, .bool false)])
    (fun _ => HA.blk g6 (.cells #[.slice pad 1 pcap] 74) :: HA.blk g7 (.cells #[Iv (nth : Nat)] 3) :: HA.blk g8 (.cells #[.bool all] 4) :: HA.blk g9 (.cells #[Sv s] 9) :: HA.blk g10 (.cells #[Sv []] 9) :: HA.blk g11 (.cells #[Iv 0] 3) :: HA.blk g12 (.cells #[Iv 0] 23) :: Hm :: T :: R) ?_ (fun _ => ?_)
  · refine .gr ?_; repeat constructor
    (apply EL.loadB; exact rfl; exact rfl; exact rfl; exact rfl; exact rfl; (case hm => repeat constructor); exact rfl)
    refine EL.lss rfl rfl rfl rfl ?_
    refine EL.move rfl rfl rfl ?_
    refine EL.rew (d := 23) (v' := .bool false) rfl ((by rw [decide_eq_false (by omega)])) ?_
    (apply EL.loadB; exact rfl; exact rfl; exact rfl; exact rfl; exact rfl; (case hm => repeat constructor); exact rfl)
    refine EL.gtr rfl rfl rfl rfl ?_
    refine EL.pickF rfl rfl rfl rfl ?_
    exact EL.endX () ⟨rfl, rfl, rfl, rfl, rfl, rfl, rfl, rfl, getA rfl (congrArg Value.bool (decide_eq_false (by omega))), trivial⟩ (.i (by repeat constructor))
  refine ES.condF rfl ?_
  refine .gr ?_; repeat constructor
  refine EL.buildZ rfl rfl rfl rfl rfl ?_
  (refine EL.box rfl rfl rfl ?_; intro g28)
  (refine EL.alloc rfl rfl rfl ?_; intro g13)
  (refine EL.alloc rfl rfl rfl ?_; intro g14)
  (refine EL.alloc rfl rfl rfl ?_; intro g15)
  (refine EL.alloc rfl rfl rfl ?_; intro g16)
  (apply EL.storeB; exact rfl; exact rfl; exact rfl; exact rfl; exact rfl; exact rfl; (case p => repeat constructor); exact (by first | decide | exact Nat.le_of_ble_eq_true rfl | simp))
  (apply EL.storeB; exact rfl; exact rfl; exact rfl; exact rfl; exact rfl; exact rfl; (case p => repeat constructor); exact (by first | decide | exact Nat.le_of_ble_eq_true rfl | simp))
  (apply EL.storeB; exact rfl; exact rfl; exact rfl; exact rfl; exact rfl; exact rfl; (case p => repeat constructor); exact (by first | decide | exact Nat.le_of_ble_eq_true rfl | simp))
  (apply EL.storeB; exact rfl; exact rfl; exact rfl; exact rfl; exact rfl; exact rfl; (case p => repeat constructor); exact (by first | decide | exact Nat.le_of_ble_eq_true rfl | simp))
  refine .gr ?_; repeat constructor
  refine EL.move rfl rfl rfl ?_
  (apply EL.loadB; exact rfl; exact rfl; exact rfl; exact rfl; exact rfl; (case hm => repeat constructor); exact rfl)
  (refine EL.callX rfl rfl rfl ent48 rfl (occAll_c _ s) ?_; rintro ⟨gs, gm⟩)
  refine .gr ?_; repeat constructor
  refine ES.nilBuf 5 ?_
  have hit := occ1_iter gs gm s (by omega) po Hm mr hok w0 B hmt (fun p hp => absurd (he p) hp)
  rw [hpl] at hit
  have hxl : (plX pl).length ≤ s.length + 2 := by rw [← hpl]; exact occ_len _ _ _
  have hlen : (plX pl).length = pl.length := List.length_map _
  refine ES.rangeFuncX (σ := DoS) (τ := DoS) (fun i z => z.num = i ∧ i ≤ pl.length ∧ doGo s put nth all (pl.drop i) z.num z.dn z.at_ z.out = some (res, n) ∧ z.dn ≤ i)
    (fun z => [HA.blk g15 (.cells #[Iv (z.num : Nat)] 3), HA.blk g16 (.cells #[Iv (z.dn : Nat)] 3), HA.blk g14 (.cells #[Iv (z.at_ : Nat)] 3), HA.blk g6 (.cells #[.slice pad 1 pcap] 74), HA.blk g7 (.cells #[Iv (nth : Nat)] 3), HA.blk g8 (.cells #[.bool all] 4), HA.blk g9 (.cells #[Sv s] 9), HA.blk g13 (.cells #[Pv g28 0] 131), T, HA.blk g28 (.cells #[.slice z.ad z.out.length z.cap, .bool false] 133), HA.buf (.slice z.ad z.out.length z.cap) 5 z.out.length (z.out.map Uv)])
    (fun c _ z => c = .exit 0 ∧ finT s z.dn z.at_ z.out = some (res, n))
    (fun z => [HA.blk g15 (.cells #[Iv (z.num : Nat)] 3), HA.blk g16 (.cells #[Iv (z.dn : Nat)] 3), HA.blk g14 (.cells #[Iv (z.at_ : Nat)] 3), HA.blk g6 (.cells #[.slice pad 1 pcap] 74), HA.blk g7 (.cells #[Iv (nth : Nat)] 3), HA.blk g8 (.cells #[.bool all] 4), HA.blk g9 (.cells #[Sv s] 9), HA.blk g13 (.cells #[Pv g28 0] 131), T, HA.blk g28 (.cells #[.slice z.ad z.out.length z.cap, .bool false] 133), HA.buf (.slice z.ad z.out.length z.cap) 5 z.out.length (z.out.map Uv)])
    ⟨0, 0, 0, [], none, 0⟩ ⟨rfl, Nat.zero_le _, hdo, Nat.le_refl _⟩ rfl rfl ent70 hit (by repeat constructor) (by repeat constructor) (by rintro i x G ⟨l, e, ad, cap, _, rfl, rfl⟩; rfl) rfl ?_ (fun D z hz => ?_) (fun D c i z hz => ?_)
  · rintro l i ⟨num, dn, at_, out, lad, lcap⟩ x G R1 ⟨hnum, hi, hgo, hdn⟩ ⟨sp, e, ad', cap', hx, rfl, rfl⟩
    dsimp only at hnum hi hgo hdn ⊢
    subst hnum
    have hlt : num < pl.length := by have := (List.getElem?_eq_some_iff.1 hx).1; omega
    obtain ⟨⟨a, b⟩, hab⟩ : ∃ p, pl[num]? = some p := ⟨_, List.getElem?_eq_getElem hlt⟩
    rw [List.getElem?_map, hab] at hx
    simp only [Option.map_some, Option.some.injEq, Prod.mk.injEq] at hx
    obtain ⟨rfl, rfl⟩ := hx
    rw [List.drop_eq_getElem_cons hlt, show pl[num] = (a, b) from (List.getElem?_eq_some_iff.1 hab).2, doGo] at hgo
    refine .gr ?_; repeat constructor
    refine EL.assign rfl rfl rfl ?_
    refine .gr ?_; repeat constructor
    refine EL.assign rfl rfl rfl ?_
    refine .gr ?_; repeat constructor
    refine PX.assigned [(17, .slice ad' 1 cap'), (18, Iv 0), (6, Pv g6 0), (7, Pv g7 0), (8, Pv g8 0), (9, Pv g9 0), (10, Pv g10 0), (11, Pv g11 0), (12, Pv g12 0), (13, Pv g13 0), (14, Pv g14 0), (15, Pv g15 0), (16, Pv g16 0)] [HA.blk g15 (.cells #[Iv (num : Nat)] 3), HA.blk g16 (.cells #[Iv (dn : Nat)] 3), HA.blk g14 (.cells #[Iv (at_ : Nat)] 3), HA.blk g6 (.cells #[.slice pad 1 pcap] 74), HA.blk g7 (.cells #[Iv (nth : Nat)] 3), HA.blk g8 (.cells #[.bool all] 4), HA.blk g9 (.cells #[Sv s] 9), HA.blk g13 (.cells #[Pv g28 0] 131), T, HA.blk g28 (.cells #[.slice lad out.length lcap, .bool false] 133), HA.buf (.slice lad out.length lcap) 5 out.length (out.map Uv), PRow ad' cap' [((a : Int), (b : Int))]] ⟨rfl, rfl, rfl, rfl, rfl, rfl, rfl, rfl, rfl, rfl, rfl, rfl, rfl, trivial⟩ (.i (by repeat constructor)) (fun R2 => ?_)
    refine .gr ?_; repeat constructor
    refine EL.move rfl rfl rfl ?_
    refine EL.neqI rfl rfl rfl rfl ?_
    refine .gr ?_; repeat constructor
    refine ES.condF rfl ?_
    refine .gr ?_; repeat constructor
    (apply EL.loadB; exact rfl; exact rfl; exact rfl; exact rfl; exact rfl; (case hm => repeat constructor); exact rfl)
    refine EL.add1 rfl rfl rfl rfl (by omega) ?_
    (apply EL.storeB; exact rfl; exact rfl; exact rfl; exact rfl; exact rfl; exact rfl; (case p => repeat constructor); exact (by first | decide | exact Nat.le_of_ble_eq_true rfl | simp))
    refine .gr ?_; repeat constructor
    (apply EL.loadB; exact rfl; exact rfl; exact rfl; exact rfl; exact rfl; (case hm => repeat constructor); exact rfl)
    (apply EL.loadB; exact rfl; exact rfl; exact rfl; exact rfl; exact rfl; (case hm => repeat constructor); exact rfl)
    refine EL.lss rfl rfl rfl rfl ?_
    refine EL.assign rfl rfl rfl ?_
    refine .gr ?_; repeat constructor
    refine ES.condD rfl (fun hless => ?_) (fun hmore => ?_)
    · rw [if_pos (by omega)] at hgo
      refine .gr ?_; repeat constructor
      exact PX.round ⟨num + 1, dn, at_, out, lad, lcap⟩ ⟨rfl, by omega, hgo, by dsimp only; omega⟩ (.i (by repeat constructor))
    rw [if_neg (by omega)] at hgo
    refine .gr ?_; repeat constructor
    refine EL.cutX (X := Unit) (fun _ => [(17, .slice ad' 1 cap'), (18, Iv 0), (6, Pv g6 0), (7, Pv g7 0), (8, Pv g8 0), (9, Pv g9 0), (10, Pv g10 0), (11, Pv g11 0), (12, Pv g12 0), (13, Pv g13 0), (14, Pv g14 0), (15, Pv g15 0), (16, Pv g16 0), (43, .bool (decide (nth < num + 1 ∧ all = false)))]) (fun _ => HA.blk g15 (.cells #[Iv ((num + 1 : Nat) : Int)] 3) :: HA.blk g16 (.cells #[Iv (dn : Nat)] 3) :: HA.blk g14 (.cells #[Iv (at_ : Nat)] 3) :: HA.blk g6 (.cells #[.slice pad 1 pcap] 74) :: HA.blk g7 (.cells #[Iv (nth : Nat)] 3) :: HA.blk g8 (.cells #[.bool all] 4) :: HA.blk g9 (.cells #[Sv s] 9) :: HA.blk g13 (.cells #[Pv g28 0] 131) :: T :: HA.blk g28 (.cells #[.slice lad out.length lcap, .bool false] 133) :: HA.buf (.slice lad out.length lcap) 5 out.length (out.map Uv) :: PRow ad' cap' [((a : Int), (b : Int))] :: R2) ?_ (fun _ => ?_)
    · refine .gr ?_; repeat constructor
      (apply EL.loadB; exact rfl; exact rfl; exact rfl; exact rfl; exact rfl; (case hm => repeat constructor); exact rfl)
      (apply EL.loadB; exact rfl; exact rfl; exact rfl; exact rfl; exact rfl; (case hm => repeat constructor); exact rfl)
      refine EL.gtr rfl rfl rfl rfl ?_
      refine EL.move rfl rfl rfl ?_
      first | refine EL.splitD (d := 47) rfl (fun hp47 => ?_) (fun hp47 => ?_) | refine EL.splitN (d := 47) rfl (fun hp47 => ?_) (fun hp47 => ?_) | refine EL.splitB (d := 47) rfl (fun hp47 => ?_) (fun hp47 => ?_)
      · (apply EL.loadB; exact rfl; exact rfl; exact rfl; exact rfl; exact rfl; (case hm => repeat constructor); exact rfl)
        refine EL.not rfl rfl rfl ?_
        refine EL.pickT rfl rfl rfl rfl ?_
        refine EL.assign rfl rfl rfl ?_
        exact EL.endX () ⟨rfl, rfl, rfl, rfl, rfl, rfl, rfl, rfl, rfl, rfl, rfl, rfl, rfl, getA rfl (congrArg Value.bool (by rw [Bool.eq_iff_iff]; cases all <;> simp <;> omega)), trivial⟩ (.i (by repeat constructor))
      · refine EL.pass rfl rfl rfl ?_
        refine EL.pass rfl rfl rfl ?_
        refine EL.pickF rfl rfl rfl rfl ?_
        refine EL.assign rfl rfl rfl ?_
        exact EL.endX () ⟨rfl, rfl, rfl, rfl, rfl, rfl, rfl, rfl, rfl, rfl, rfl, rfl, rfl, getA rfl (congrArg Value.bool (by rw [Bool.eq_iff_iff]; cases all <;> simp <;> omega)), trivial⟩ (.i (by repeat constructor))
    refine ES.condD rfl (fun hstop => ?_) (fun hgoon => ?_)
    · rw [if_pos hstop] at hgo
      refine .gr ?_; repeat constructor
      exact PX.roundX ⟨num + 1, dn, at_, out, lad, lcap⟩ ⟨rfl, hgo⟩ (.i (by repeat constructor))
    rw [if_neg hgoon] at hgo
    split at hgo
    rotate_left
    · cases hgo
    rename_i hb
    obtain ⟨h1, h2, h3, h4⟩ := hb
    have hsl1 : ((s.drop at_).take (a - at_)).length = a - at_ := by rw [List.length_take, List.length_drop]; omega
    have hadd1 := add_t g28 lad lcap out ((s.drop at_).take (a - at_)) (by omega)
    refine .gr ?_; repeat constructor
    refine .gr ?_; repeat constructor
    (apply EL.loadB; exact rfl; exact rfl; exact rfl; exact rfl; exact rfl; (case hm => repeat constructor); exact rfl)
    (apply EL.loadB; exact rfl; exact rfl; exact rfl; exact rfl; exact rfl; (case hm => repeat constructor); exact rfl)
    refine EL.move rfl rfl rfl ?_
    refine EL.callPw rfl rfl rfl ent55 rfl (fun w hs => build_c pad pcap put s hput ad' 1 cap' w (hrd w _ hs (Mem.mem (by repeat constructor)))) ?_
    refine EL.move rfl rfl rfl ?_
    refine EL.extract rfl rfl rfl rfl ?_
    refine EL.extract rfl rfl rfl rfl ?_
    refine EL.assign rfl rfl rfl ?_
    refine EL.assign rfl rfl rfl ?_
    refine .gr ?_; repeat constructor
    refine .gr ?_; repeat constructor
    refine EL.move rfl rfl rfl ?_
    refine EL.neqI rfl rfl rfl rfl ?_
    refine .gr ?_; repeat constructor
    refine ES.condF rfl ?_
    refine ES.know (P := ∃ g, ad' = some ⟨g, 0, none⟩) (fun w hs => (row_form (hs.all (PRow ad' cap' [((a : Int), (b : Int))]) (by simp))).2.2.2.2 (Nat.zero_lt_succ _)) ?_
    rintro ⟨xg, rfl⟩
    refine .gs ?_; repeat constructor
    refine ES.draw (X := Option Addr × Nat) (fun _ => [(17, .slice (some ⟨xg, 0, none⟩) 1 cap'), (19, Sv put), (6, Pv g6 0), (7, Pv g7 0), (8, Pv g8 0), (9, Pv g9 0), (10, Pv g10 0), (11, Pv g11 0), (12, Pv g12 0), (13, Pv g13 0), (14, Pv g14 0), (15, Pv g15 0), (16, Pv g16 0)]) (fun x => HA.blk g28 (.cells #[.slice x.1 (out ++ (s.drop at_).take (a - at_)).length x.2, .bool false] 133) :: HA.buf (.slice x.1 (out ++ (s.drop at_).take (a - at_)).length x.2) 5 (out ++ (s.drop at_).take (a - at_)).length ((out ++ (s.drop at_).take (a - at_)).map Uv) :: HA.blk g15 (.cells #[Iv ((num + 1 : Nat) : Int)] 3) :: HA.blk g16 (.cells #[Iv (dn : Nat)] 3) :: HA.blk g14 (.cells #[Iv (at_ : Nat)] 3) :: HA.blk g6 (.cells #[.slice pad 1 pcap] 74) :: HA.blk g7 (.cells #[Iv (nth : Nat)] 3) :: HA.blk g8 (.cells #[.bool all] 4) :: HA.blk g9 (.cells #[Sv s] 9) :: HA.blk g13 (.cells #[Pv g28 0] 131) :: T :: PRow (some ⟨xg, 0, none⟩) cap' [((a : Int), (b : Int))] :: R2)
      (HA.blk g9 (.cells #[Sv s] 9) :: HA.blk g13 (.cells #[Pv g28 0] 131) :: HA.blk g14 (.cells #[Iv (at_ : Nat)] 3) :: PRow (some ⟨xg, 0, none⟩) cap' [((a : Int), (b : Int))] :: []) mixed (.i (by repeat constructor)) ?_ (fun x => ?_)
    · refine ED.take 0 rfl (by decide +kernel) CutX.no_panic (by decide +kernel) rfl rfl rfl (RV.loadB rfl rfl rfl (by repeat constructor) rfl) ?_
      refine ED.take 1 rfl (by decide +kernel) CutX.no_panic (by decide +kernel) rfl rfl rfl (RV.loadB rfl rfl rfl (by repeat constructor) rfl) ?_
      refine ED.take 2 rfl (by decide +kernel) CutX.no_panic (by decide +kernel) rfl rfl rfl (RV.loadB rfl rfl rfl (by repeat constructor) rfl) ?_
      refine ED.take 3 rfl (by decide +kernel) CutX.no_panic (by decide +kernel) rfl rfl rfl (RV.move rfl) ?_
      refine ED.take 4 rfl (by decide +kernel) CutX.no_panic (by decide +kernel) rfl rfl rfl (RV.indexAddrL (i := 0) rfl rfl rfl rfl rfl (Nat.zero_lt_succ _)) ?_
      refine ED.take 5 rfl (by decide +kernel) CutX.no_panic (by decide +kernel) rfl rfl rfl (RV.fieldAddr rfl rfl rfl rfl rfl rfl) ?_
      refine ED.take 6 rfl (by decide +kernel) CutX.no_panic (by decide +kernel) rfl rfl rfl (RV.loadR (v := Iv (a : Nat)) rfl rfl rfl (by repeat constructor) rfl) ?_
      refine ED.take 7 rfl (by decide +kernel) CutX.no_panic (by decide +kernel) rfl rfl rfl (RV.sliceS (m := at_) (n := a) rfl rfl rfl ⟨_, rfl⟩ ⟨_, rfl⟩ h1 (by omega)) ?_
      refine ED.loud 8 rfl (by decide +kernel) ?_
      (refine EL.callM rfl rfl rfl ent56 rfl hadd1 (by repeat constructor) ?_; rintro ⟨xa, xc⟩)
      refine ED.next (.i (by repeat constructor)) ?_
      refine ED.done (by decide +kernel) ?_
      exact PX.cutX (xa, xc) ⟨rfl, rfl, rfl, rfl, rfl, rfl, rfl, rfl, rfl, rfl, rfl, rfl, rfl, trivial⟩ (.i (by repeat constructor))
    obtain ⟨xa, xc⟩ := x
    dsimp only
    have hl1 : (out ++ (s.drop at_).take (a - at_)).length = out.length + (a - at_) := by rw [List.length_append, hsl1]
    have hadd2 := add_t g28 xa xc (out ++ (s.drop at_).take (a - at_)) put (by omega)
    refine .gr ?_; repeat constructor
    (apply EL.loadB; exact rfl; exact rfl; exact rfl; exact rfl; exact rfl; (case hm => repeat constructor); exact rfl)
    refine EL.move rfl rfl rfl ?_
    (refine EL.callM rfl rfl rfl ent56 rfl hadd2 (by repeat constructor) ?_; rintro ⟨ya, yc⟩)
    refine .gr ?_; repeat constructor
    (apply EL.loadB; exact rfl; exact rfl; exact rfl; exact rfl; exact rfl; (case hm => repeat constructor); exact rfl)
    refine EL.nilCheck rfl rfl rfl ?_
    refine EL.fieldAddr rfl rfl rfl rfl rfl rfl rfl rfl ?_
    (apply EL.loadB; exact rfl; exact rfl; exact rfl; exact rfl; exact rfl; (case hm => repeat constructor); exact rfl)
    refine .gr ?_; repeat constructor
    refine ES.condF rfl ?_
    refine .gr ?_; repeat constructor
    refine EL.move rfl rfl rfl ?_
    refine EL.indexAddrL (i := 0) rfl rfl rfl rfl rfl rfl rfl (Nat.zero_lt_succ _) ?_
    refine EL.fieldAddr rfl rfl rfl rfl rfl rfl rfl rfl ?_
    refine EL.loadR (v := Iv (b : Nat)) rfl rfl rfl rfl rfl (by repeat constructor) rfl ?_
    (apply EL.storeB; exact rfl; exact rfl; exact rfl; exact rfl; exact rfl; exact rfl; (case p => repeat constructor); exact (by first | decide | exact Nat.le_of_ble_eq_true rfl | simp))
    refine .gr ?_; repeat constructor
    (apply EL.loadB; exact rfl; exact rfl; exact rfl; exact rfl; exact rfl; (case hm => repeat constructor); exact rfl)
    refine EL.add1 rfl rfl rfl rfl (by omega) ?_
    (apply EL.storeB; exact rfl; exact rfl; exact rfl; exact rfl; exact rfl; exact rfl; (case p => repeat constructor); exact (by first | decide | exact Nat.le_of_ble_eq_true rfl | simp))
    refine .gr ?_; repeat constructor
    (apply EL.loadB; exact rfl; exact rfl; exact rfl; exact rfl; exact rfl; (case hm => repeat constructor); exact rfl)
    refine EL.not rfl rfl rfl ?_
    refine .gr ?_; repeat constructor
    cases all with
    | false =>
      rw [if_pos rfl] at hgo
      refine ES.condT rfl ?_
      refine .gr ?_; repeat constructor
      exact PX.roundX ⟨num + 1, dn + 1, b, out ++ (s.drop at_).take (a - at_) ++ put, ya, yc⟩ ⟨rfl, hgo⟩ (.i (by repeat constructor))
    | true =>
      rw [if_neg (by simp)] at hgo
      refine ES.condF rfl ?_
      refine .gr ?_; repeat constructor
      exact PX.round ⟨num + 1, dn + 1, b, out ++ (s.drop at_).take (a - at_) ++ put, ya, yc⟩ ⟨rfl, by omega, hgo, by dsimp only; omega⟩ (.i (by repeat constructor))
  · have hfin : finT s z.dn z.at_ z.out = some (res, n) := by
      have h3 := hz.2.2.1
      rw [hlen, List.drop_of_length_le (Nat.le_refl _), doGo] at h3
      exact h3
    obtain ⟨num, dn, at_, out, lad, lcap⟩ := z
    dsimp only at hfin ⊢
    unfold finT at hfin
    split at hfin
    rotate_left
    · cases hfin
    rename_i hf
    cases hfin
    have hd : (s.drop at_).take (s.length - at_) = s.drop at_ := List.take_of_length_le (by rw [List.length_drop]; omega)
    have hdl : (s.drop at_).length = s.length - at_ := List.length_drop
    refine .gs ?_; repeat constructor
    refine ES.draw (X := Option Addr × Nat) (fun x => [(9, Pv g9 0), (10, Pv g10 0), (11, Pv g11 0), (12, Pv g12 0), (13, Pv g13 0), (16, Pv g16 0)]) (fun x => markB D :: HA.blk g28 (.cells #[.slice x.1 (out ++ s.drop at_).length x.2, .bool false] 133) :: HA.buf (.slice x.1 (out ++ s.drop at_).length x.2) 5 (out ++ s.drop at_).length ((out ++ s.drop at_).map Uv) :: HA.blk g16 (.cells #[Iv (n : Nat)] 3) :: HA.blk g13 (.cells #[Pv g28 0] 131) :: HA.blk g10 (.cells #[Sv []] 9) :: HA.blk g11 (.cells #[Iv 0] 3) :: HA.blk g12 (.cells #[Iv 0] 23) :: Hm :: T :: R)
      (HA.blk g9 (.cells #[Sv s] 9) :: HA.blk g13 (.cells #[Pv g28 0] 131) :: HA.blk g14 (.cells #[Iv (at_ : Nat)] 3) :: []) mixed (.i (by repeat constructor)) ?_ (fun x => ?_)
    · refine ED.take 0 rfl (by decide +kernel) CutX.no_panic (by decide +kernel) rfl rfl rfl (RV.loadB rfl rfl rfl (by repeat constructor) rfl) ?_
      refine ED.take 1 rfl (by decide +kernel) CutX.no_panic (by decide +kernel) rfl rfl rfl (RV.loadB rfl rfl rfl (by repeat constructor) rfl) ?_
      refine ED.take 2 rfl (by decide +kernel) CutX.no_panic (by decide +kernel) rfl rfl rfl (RV.loadB rfl rfl rfl (by repeat constructor) rfl) ?_
      refine ED.take 3 rfl (by decide +kernel) CutX.no_panic (by decide +kernel) rfl rfl rfl (RV.sliceS' (m := at_) (n := s.length) hd rfl rfl rfl ⟨_, rfl⟩ rfl (by omega) (by omega)) ?_
      refine ED.loud 4 rfl (by decide +kernel) ?_
      (refine EL.callM rfl rfl rfl ent56 rfl (add_t g28 lad lcap out (s.drop at_) (by omega)) (by repeat constructor) ?_; rintro ⟨xa, xc⟩)
      refine ED.next (.i (by repeat constructor)) ?_
      refine ED.done (by decide +kernel) ?_
      exact PX.cutX (xa, xc) ⟨rfl, rfl, rfl, rfl, rfl, rfl, trivial⟩ (.i (by repeat constructor))
    obtain ⟨xa, xc⟩ := x
    dsimp only
    refine .gr ?_; repeat constructor
    (apply EL.loadB; exact rfl; exact rfl; exact rfl; exact rfl; exact rfl; (case hm => repeat constructor); exact rfl)
    refine EL.nilCheck rfl rfl rfl ?_
    refine EL.fieldAddr rfl rfl rfl rfl rfl rfl rfl rfl ?_
    (apply EL.loadB; exact rfl; exact rfl; exact rfl; exact rfl; exact rfl; (case hm => repeat constructor); exact rfl)
    refine .gr ?_; repeat constructor
    refine ES.condF rfl ?_
    refine .gs ?_; repeat constructor
    refine ES.draw (X := Unit) (fun _ => [(10, Pv g10 0), (11, Pv g11 0), (12, Pv g12 0)]) (fun _ => markB D :: HA.blk g10 (.cells #[Sv (out ++ s.drop at_)] 9) :: HA.blk g11 (.cells #[Iv (n : Nat)] 3) :: HA.blk g12 (.cells #[Iv 0] 23) :: Hm :: T :: R)
      (HA.blk g28 (.cells #[.slice xa (out ++ s.drop at_).length xc, .bool false] 133) :: HA.buf (.slice xa (out ++ s.drop at_).length xc) 5 (out ++ s.drop at_).length ((out ++ s.drop at_).map Uv) :: HA.blk g16 (.cells #[Iv (n : Nat)] 3) :: HA.blk g13 (.cells #[Pv g28 0] 131) :: []) mixed (.i (by repeat constructor)) ?_ (fun _ => ?_)
    · refine ED.take 0 rfl (by decide +kernel) CutX.no_panic (by decide +kernel) rfl rfl rfl (RV.loadB rfl rfl rfl (by repeat constructor) rfl) ?_
      refine ED.take 1 rfl (by decide +kernel) CutX.no_panic (by decide +kernel) rfl rfl rfl (RV.nilCheck rfl) ?_
      refine ED.take 2 rfl (by decide +kernel) CutX.no_panic (by decide +kernel) rfl rfl rfl (RV.fieldAddr rfl rfl rfl rfl rfl rfl) ?_
      refine ED.take 3 rfl (by decide +kernel) CutX.no_panic (by decide +kernel) rfl rfl rfl (RV.loadB rfl rfl rfl (by repeat constructor) rfl) ?_
      refine ED.take 5 rfl (by decide +kernel) CutX.no_panic (by decide +kernel) rfl rfl rfl (RV.loadB rfl rfl rfl (by repeat constructor) rfl) ?_
      refine ED.loud 4 rfl (by decide +kernel) ?_
      refine EL.bytesB rfl rfl rfl rfl rfl rfl rfl rfl rfl (by repeat constructor) ?_
      refine ED.next (.i (by repeat constructor)) ?_
      refine ED.loud 6 rfl (by decide +kernel) ?_
      (apply EL.storeB; exact rfl; exact rfl; exact rfl; exact rfl; exact rfl; exact rfl; (case p => repeat constructor); exact (by first | decide | exact Nat.le_of_ble_eq_true rfl | simp))
      refine ED.next (.i (by repeat constructor)) ?_
      refine ED.loud 7 rfl (by decide +kernel) ?_
      (apply EL.storeB; exact rfl; exact rfl; exact rfl; exact rfl; exact rfl; exact rfl; (case p => repeat constructor); exact (by first | decide | exact Nat.le_of_ble_eq_true rfl | simp))
      refine ED.next (.i (by repeat constructor)) ?_
      refine ED.last 8 rfl (by decide +kernel) (by decide +kernel) (by decide +kernel) ?_
      (apply EL.storeB; exact rfl; exact rfl; exact rfl; exact rfl; exact rfl; exact rfl; (case p => repeat constructor); exact (by first | decide | exact Nat.le_of_ble_eq_true rfl | simp))
      refine EL.endQ ?_
      exact PX.cutX () ⟨rfl, rfl, rfl, trivial⟩ (.i (by repeat constructor))
    refine .gr ?_; repeat constructor
    exact PX.retM [D] rfl (by repeat constructor) Try.results39 (.cons (.blk1 rfl rfl rfl (by repeat constructor) rfl) (.cons (.blk1 rfl rfl rfl (by repeat constructor) rfl) (.cons (.blk1 rfl rfl rfl (by repeat constructor) rfl) .nil))) (fun w hs => ⟨(), rfl, hs.ent (.i (by repeat constructor))⟩)
  · obtain ⟨rfl, hfin⟩ := hz
    refine .gr ?_; repeat constructor
    obtain ⟨num, dn, at_, out, lad, lcap⟩ := z
    dsimp only at hfin ⊢
    unfold finT at hfin
    split at hfin
    rotate_left
    · cases hfin
    rename_i hf
    cases hfin
    have hd : (s.drop at_).take (s.length - at_) = s.drop at_ := List.take_of_length_le (by rw [List.length_drop]; omega)
    have hdl : (s.drop at_).length = s.length - at_ := List.length_drop
    refine .gs ?_; repeat constructor
    refine ES.draw (X := Option Addr × Nat) (fun x => [(9, Pv g9 0), (10, Pv g10 0), (11, Pv g11 0), (12, Pv g12 0), (13, Pv g13 0), (16, Pv g16 0)]) (fun x => markB D :: HA.blk g28 (.cells #[.slice x.1 (out ++ s.drop at_).length x.2, .bool false] 133) :: HA.buf (.slice x.1 (out ++ s.drop at_).length x.2) 5 (out ++ s.drop at_).length ((out ++ s.drop at_).map Uv) :: HA.blk g16 (.cells #[Iv (n : Nat)] 3) :: HA.blk g13 (.cells #[Pv g28 0] 131) :: HA.blk g10 (.cells #[Sv []] 9) :: HA.blk g11 (.cells #[Iv 0] 3) :: HA.blk g12 (.cells #[Iv 0] 23) :: Hm :: T :: R)
      (HA.blk g9 (.cells #[Sv s] 9) :: HA.blk g13 (.cells #[Pv g28 0] 131) :: HA.blk g14 (.cells #[Iv (at_ : Nat)] 3) :: []) mixed (.i (by repeat constructor)) ?_ (fun x => ?_)
    · refine ED.take 0 rfl (by decide +kernel) CutX.no_panic (by decide +kernel) rfl rfl rfl (RV.loadB rfl rfl rfl (by repeat constructor) rfl) ?_
      refine ED.take 1 rfl (by decide +kernel) CutX.no_panic (by decide +kernel) rfl rfl rfl (RV.loadB rfl rfl rfl (by repeat constructor) rfl) ?_
      refine ED.take 2 rfl (by decide +kernel) CutX.no_panic (by decide +kernel) rfl rfl rfl (RV.loadB rfl rfl rfl (by repeat constructor) rfl) ?_
      refine ED.take 3 rfl (by decide +kernel) CutX.no_panic (by decide +kernel) rfl rfl rfl (RV.sliceS' (m := at_) (n := s.length) hd rfl rfl rfl ⟨_, rfl⟩ rfl (by omega) (by omega)) ?_
      refine ED.loud 4 rfl (by decide +kernel) ?_
      (refine EL.callM rfl rfl rfl ent56 rfl (add_t g28 lad lcap out (s.drop at_) (by omega)) (by repeat constructor) ?_; rintro ⟨xa, xc⟩)
      refine ED.next (.i (by repeat constructor)) ?_
      refine ED.done (by decide +kernel) ?_
      exact PX.cutX (xa, xc) ⟨rfl, rfl, rfl, rfl, rfl, rfl, trivial⟩ (.i (by repeat constructor))
    obtain ⟨xa, xc⟩ := x
    dsimp only
    refine .gr ?_; repeat constructor
    (apply EL.loadB; exact rfl; exact rfl; exact rfl; exact rfl; exact rfl; (case hm => repeat constructor); exact rfl)
    refine EL.nilCheck rfl rfl rfl ?_
    refine EL.fieldAddr rfl rfl rfl rfl rfl rfl rfl rfl ?_
    (apply EL.loadB; exact rfl; exact rfl; exact rfl; exact rfl; exact rfl; (case hm => repeat constructor); exact rfl)
    refine .gr ?_; repeat constructor
    refine ES.condF rfl ?_
    refine .gs ?_; repeat constructor
    refine ES.draw (X := Unit) (fun _ => [(10, Pv g10 0), (11, Pv g11 0), (12, Pv g12 0)]) (fun _ => markB D :: HA.blk g10 (.cells #[Sv (out ++ s.drop at_)] 9) :: HA.blk g11 (.cells #[Iv (n : Nat)] 3) :: HA.blk g12 (.cells #[Iv 0] 23) :: Hm :: T :: R)
      (HA.blk g28 (.cells #[.slice xa (out ++ s.drop at_).length xc, .bool false] 133) :: HA.buf (.slice xa (out ++ s.drop at_).length xc) 5 (out ++ s.drop at_).length ((out ++ s.drop at_).map Uv) :: HA.blk g16 (.cells #[Iv (n : Nat)] 3) :: HA.blk g13 (.cells #[Pv g28 0] 131) :: []) mixed (.i (by repeat constructor)) ?_ (fun _ => ?_)
    · refine ED.take 0 rfl (by decide +kernel) CutX.no_panic (by decide +kernel) rfl rfl rfl (RV.loadB rfl rfl rfl (by repeat constructor) rfl) ?_
      refine ED.take 1 rfl (by decide +kernel) CutX.no_panic (by decide +kernel) rfl rfl rfl (RV.nilCheck rfl) ?_
      refine ED.take 2 rfl (by decide +kernel) CutX.no_panic (by decide +kernel) rfl rfl rfl (RV.fieldAddr rfl rfl rfl rfl rfl rfl) ?_
      refine ED.take 3 rfl (by decide +kernel) CutX.no_panic (by decide +kernel) rfl rfl rfl (RV.loadB rfl rfl rfl (by repeat constructor) rfl) ?_
      refine ED.take 5 rfl (by decide +kernel) CutX.no_panic (by decide +kernel) rfl rfl rfl (RV.loadB rfl rfl rfl (by repeat constructor) rfl) ?_
      refine ED.loud 4 rfl (by decide +kernel) ?_
      refine EL.bytesB rfl rfl rfl rfl rfl rfl rfl rfl rfl (by repeat constructor) ?_
      refine ED.next (.i (by repeat constructor)) ?_
      refine ED.loud 6 rfl (by decide +kernel) ?_
      (apply EL.storeB; exact rfl; exact rfl; exact rfl; exact rfl; exact rfl; exact rfl; (case p => repeat constructor); exact (by first | decide | exact Nat.le_of_ble_eq_true rfl | simp))
      refine ED.next (.i (by repeat constructor)) ?_
      refine ED.loud 7 rfl (by decide +kernel) ?_
      (apply EL.storeB; exact rfl; exact rfl; exact rfl; exact rfl; exact rfl; exact rfl; (case p => repeat constructor); exact (by first | decide | exact Nat.le_of_ble_eq_true rfl | simp))
      refine ED.next (.i (by repeat constructor)) ?_
      refine ED.last 8 rfl (by decide +kernel) (by decide +kernel) (by decide +kernel) ?_
      (apply EL.storeB; exact rfl; exact rfl; exact rfl; exact rfl; exact rfl; exact rfl; (case p => repeat constructor); exact (by first | decide | exact Nat.le_of_ble_eq_true rfl | simp))
      refine EL.endQ ?_
      exact PX.cutX () ⟨rfl, rfl, rfl, trivial⟩ (.i (by repeat constructor))
    refine .gr ?_; repeat constructor
    exact PX.retM [D] rfl (by repeat constructor) Try.results39 (.cons (.blk1 rfl rfl rfl (by repeat constructor) rfl) (.cons (.blk1 rfl rfl rfl (by repeat constructor) rfl) (.cons (.blk1 rfl rfl rfl (by repeat constructor) rfl) .nil))) (fun w hs => ⟨(), rfl, hs.ent (.i (by repeat constructor))⟩)
end Go.Proofs.Ytblpgpgbnlhjlaa
namespace Go.Proofs.Ytblpgpgbnlhjlaa
open Go Go.RowKit Sl
set_option maxRecDepth 100000
set_option maxHeartbeats 8000000
set_option linter.unusedVariables false
set_option linter.unusedSimpArgs false
attribute [local irreducible] ES EL PX wps
theorem letters14 (s : List UInt8) (hs : s.length ≤ 1000) (c : UInt8) (h : okB c.toNat = true) : ∃ mr : Nat → MR, (∀ p : Nat, p ≤ s.length → ∃ F, setM F [c] s (p : Nat) = some (mr p)) ∧ McOk mr s.length ∧ (∀ p, (mr p).e = 0) ∧ occL mr s.length = (plc s c 0).map fun q : Nat => ([((q : Int), ((q + 1 : Nat) : Int))], (0 : Int)) := by
  have hst : ∀ p, p ≤ s.length → ∃ m : MR, (∃ F, setM F [c] s (p : Nat) = some m) ∧ m.e = 0 ∧ ((∃ q, p ≤ q ∧ q < s.length ∧ s.getD q 0 = c ∧ (∀ k, p ≤ k → k < q → s.getD k 0 ≠ c) ∧ m.ok = true ∧ m.spans = [((q : Int), ((q + 1 : Nat) : Int))]) ∨ ((∀ k, p ≤ k → k < s.length → s.getD k 0 ≠ c) ∧ m.ok = false)) := fun p hp => by
    by_cases hq : ∃ q, p ≤ q ∧ q < s.length ∧ s.getD q 0 = c
    · have hmin : ∃ q, p ≤ q ∧ q < s.length ∧ s.getD q 0 = c ∧ ∀ k, p ≤ k → k < q → s.getD k 0 ≠ c := by
        have hP : ∀ n q, q - p ≤ n → p ≤ q → q < s.length → s.getD q 0 = c → ∃ q, p ≤ q ∧ q < s.length ∧ s.getD q 0 = c ∧ ∀ k, p ≤ k → k < q → s.getD k 0 ≠ c := by
          intro n
          induction n with
          | zero => intro q h1 h2 h3 h4; exact ⟨q, h2, h3, h4, fun k h5 h6 => by omega⟩
          | succ n ih =>
            intro q h1 h2 h3 h4
            by_cases hk : ∃ k, p ≤ k ∧ k < q ∧ s.getD k 0 = c
            · obtain ⟨k, h5, h6, h7⟩ := hk
              exact ih k (by omega) h5 (by omega) h7
            · exact ⟨q, h2, h3, h4, fun k h5 h6 h7 => hk ⟨k, h5, h6, h7⟩⟩
        obtain ⟨q, h1, h2, h3⟩ := hq
        exact hP _ q (Nat.le_refl _) h1 h2 h3
      obtain ⟨q, h1, h2, h3, h4⟩ := hmin
      obtain ⟨F, m, e1, e2, e3, e4⟩ := one_some (by omega) h h1 h2 h3 h4
      exact ⟨m, ⟨F, e1⟩, e3, .inl ⟨q, h1, h2, h3, h4, e2, e4⟩⟩
    · have hno : ∀ k, p ≤ k → k < s.length → s.getD k 0 ≠ c := fun k h1 h2 h3 => hq ⟨k, h1, h2, h3⟩
      obtain ⟨F, m, e1, e2, e3, e4⟩ := one_none (by omega) h hp hno
      exact ⟨m, ⟨F, e1⟩, e3, .inr ⟨hno, e2⟩⟩
  obtain ⟨mr, h1, h2⟩ := choose_mr hst
  refine ⟨mr, fun p hp => (h1 p hp).1, ⟨fun p hp he hok => ?_⟩, fun p => ?_, ?_⟩
  · rcases (h1 p hp).2.2 with ⟨q, a1, a2, a3, a4, a5, a6⟩ | ⟨_, a2⟩
    · exact ⟨q, q + 1, [], a6, a1, by omega, by omega⟩
    · rw [a2] at hok; cases hok
  · by_cases hp : p ≤ s.length
    · exact (h1 p hp).2.1
    · rw [h2 p (by omega)]
  · exact occ_letter (fun p hp => ⟨(h1 p hp).2.1, (h1 p hp).2.2⟩) _ 0 _ (by omega)
theorem plX_prs (l : List Nat) : plX (prs l) = l.map fun q : Nat => ([((q : Int), ((q + 1 : Nat) : Int))], (0 : Int)) := by
  unfold plX prs
  rw [List.map_map]
  rfl
abbrev PartR (b : Nat) (put : List UInt8) : HA := HA.row (.slice (some ⟨b, 0, none⟩) 1 1) 73 2 1 [Iv (-1), Sv put]
theorem part_rd (b : Nat) (put : List UInt8) (w0 : World) (B : Nat) : ∀ (w : World) (H : List HA), Sat w0 B H w → PartR b put ∈ H → Rd w w.heap.size (some ⟨b, 0, none⟩) [Iv (-1), Sv put] := fun w H hs hm => rd_mem hs hm (by decide)
theorem me97 : (parseM [97]).e = 0 ∧ (meOf [97]).back = false := by decide +kernel
theorem do_letter (gm b : Nat) (s put : List UInt8) (hs : s.length ≤ 1000) (hput : put.length ≤ 10) (nth : Nat) (hn1 : 1 ≤ nth) (hn2 : nth ≤ 512) (all : Bool) (res : List UInt8) (n : Nat) (hdo : doM s put nth all (prs (pls s 0)) = some (res, n)) (w0 : World) (B : Nat) (hG : GR w0 B) :
    MutAt Try.prog 39 #[Pv gm 0, .slice (some ⟨b, 0, none⟩) 1 1, Iv (nth : Nat), .bool all, Sv s] [HA.mats [(gm, [97])], PartR b put] (fun _ : Unit => .tuple #[Sv res, Iv (n : Nat), Iv 0]) (fun _ => [HA.mats [(gm, [97])], PartR b put]) w0 B := by
  obtain ⟨mr, a1, a2, a3, a4⟩ := letters14 s hs 97 (by decide)
  have hp : plc s 97 0 = pls s 0 := by have := pls_plc s _ 0 rfl; rwa [List.drop_zero] at this
  rw [hp, ← plX_prs] at a4
  exact do_c (some ⟨gm, 0, none⟩) (some ⟨b, 0, none⟩) 1 s put (by omega) (by omega) nth hn1 hn2 all (HA.mats [(gm, [97])]) mr a2 a3 (prs (pls s 0)) a4 res n hdo w0 B (PartR b put) (part_rd b put w0 B) (fun p hp => by
    obtain ⟨F, hF⟩ := a1 p hp
    exact matchMats_c F [(gm, [97])] (gm, [97]) (by simp) (by simp) me97.2 s _ _ hF w0 B hG)
def mrX (p : Nat) : MR := if p ≤ 4 then (setM 60 [120, 42] [97, 98, 120, 99] (p : Nat)).getD ⟨[], false, 0, 0⟩ else ⟨[], false, 0, 0⟩
theorem mrX_some (p : Nat) (hp : p ≤ 4) : setM 60 [120, 42] [97, 98, 120, 99] (p : Nat) = some (mrX p) := by
  have h : ∀ p, p ≤ 4 → (setM 60 [120, 42] [97, 98, 120, 99] (p : Nat)).isSome = true := by decide +kernel
  obtain ⟨m, hm⟩ := Option.isSome_iff_exists.1 (h p hp)
  unfold mrX
  rw [if_pos hp, hm]; rfl
theorem mrX_e (p : Nat) : (mrX p).e = 0 := by
  have h : ∀ p, p ≤ 4 → (mrX p).e = 0 := by decide +kernel
  by_cases hp : p ≤ 4
  · exact h p hp
  · unfold mrX; rw [if_neg hp]
theorem mrX_ok : McOk mrX 4 := ⟨fun p hp _ _ => by
  match p, hp with
  | 0, _ => exact ⟨0, 0, [], by decide +kernel, by omega, by omega, by omega⟩
  | 1, _ => exact ⟨1, 1, [], by decide +kernel, by omega, by omega, by omega⟩
  | 2, _ => exact ⟨2, 3, [], by decide +kernel, by omega, by omega, by omega⟩
  | 3, _ => exact ⟨3, 3, [], by decide +kernel, by omega, by omega, by omega⟩
  | 4, _ => exact ⟨4, 4, [], by decide +kernel, by omega, by omega, by omega⟩⟩
theorem mrX_l : occL mrX 4 = plX [(0, 0), (1, 1), (2, 3), (4, 4)] := by decide +kernel
theorem meX : (parseM [120, 42]).e = 0 ∧ (meOf [120, 42]).back = false := by decide +kernel
theorem awake14_c (w : World) (hG : GR w w.heap.size) : Pure Try.prog 38 #[] (fun _ : Unit => .bool true) (fun _ => []) w := by
  have n1 := fun w hG => newOk_c [120, 42] meX.1 (by decide) w hG
  have hdo := fun gm b => do_c (some ⟨gm, 0, none⟩) (some ⟨b, 0, none⟩) 1 [97, 98, 120, 99] [45] (by decide) (by decide) 1 (by decide) (by decide) true (HA.mats [(gm, [120, 42])]) mrX mrX_ok mrX_e [(0, 0), (1, 1), (2, 3), (4, 4)] mrX_l _ _ do_awake w w.heap.size (PartR b [45]) (part_rd b [45] w w.heap.size) (fun p hp =>
    matchMats_c 60 [(gm, [120, 42])] (gm, [120, 42]) (by simp) (by simp) meX.2 [97, 98, 120, 99] _ _ (mrX_some p hp) w w.heap.size hG)
  refine calls_of_ES TB Try.func38 rfl _ Try.ntmps38 rfl (Sat.start w) ?_
  refine .go ?_; repeat constructor
  refine EL.assign rfl rfl rfl ?_
  refine .go ?_; repeat constructor
  (refine EL.callXw rfl rfl rfl ent36 rfl (fun w hs => n1 w (GR.sat hG hs)) ?_; intro gm)
  refine EL.move rfl rfl rfl ?_
  refine EL.extract rfl rfl rfl rfl ?_
  refine EL.extract rfl rfl rfl rfl ?_
  (refine EL.alloc rfl rfl rfl ?_; intro g2)
  refine EL.assign rfl rfl rfl ?_
  (apply EL.storeAll; exact rfl; exact rfl; exact rfl; exact rfl; exact rfl; (case p => repeat constructor); exact rfl; (case h1 => exact (by first | rfl | exact all1 rfl | (intro u hu; simp only [List.mem_cons, List.not_mem_nil, or_false] at hu; rcases hu with rfl | rfl | rfl | rfl <;> rfl) | (intro u hu; simp at hu; rcases hu with rfl | rfl | rfl | rfl <;> rfl) | (intro u hu; simp at hu; rcases hu with rfl | rfl | rfl <;> rfl) | (intro u hu; simp at hu; rcases hu with rfl | rfl <;> rfl) | (intro u hu; simp at hu; obtain ⟨_, _, rfl⟩ := hu; rfl))))
  repeat (first | apply EL.nil | apply ES.seq | apply ES.skip)
  refine ES.imp (H' := HA.mats [(gm, [120, 42])] :: HA.blk g2 (.cells #[Iv 0, Iv 0] 67) :: []) (fun w hs => mats_one (st := 0) (hs.ent (.i (by repeat constructor)))) ?_
  refine .go ?_; repeat constructor
  refine EL.move rfl rfl rfl ?_
  (apply EL.build2; exact rfl; exact rfl; exact rfl; exact rfl; exact rfl; exact rfl; exact rfl; exact rfl; exact rfl; exact rfl)
  (refine EL.buildSlice1 rfl rfl rfl rfl rfl rfl rfl rfl rfl rfl ?_; intro b13)
  (refine EL.callMw rfl rfl rfl ent39 rfl (hdo gm b13) (by repeat constructor) ?_; intro u)
  refine EL.move rfl rfl rfl ?_
  refine EL.extract rfl rfl rfl rfl ?_
  refine EL.extract rfl rfl rfl rfl ?_
  refine EL.extract rfl rfl rfl rfl ?_
  refine EL.assign rfl rfl rfl ?_
  refine EL.assign rfl rfl rfl ?_
  refine EL.assign rfl rfl rfl ?_
  refine .go ?_; repeat constructor
  refine .go ?_; repeat constructor
  refine EL.fieldAddr rfl rfl rfl rfl rfl rfl rfl rfl ?_
  (apply EL.loadB; exact rfl; exact rfl; exact rfl; exact rfl; exact rfl; (case hm => repeat constructor); exact rfl)
  refine EL.eqlI rfl rfl rfl rfl ?_
  refine EL.move rfl rfl rfl ?_
  refine EL.rew (d := 21) (v' := .bool true) rfl (by first | rfl | (decide) | (simp)) ?_
  refine EL.move rfl rfl rfl ?_
  refine EL.eqlI rfl rfl rfl rfl ?_
  refine EL.pickT rfl rfl rfl rfl ?_
  refine EL.move rfl rfl rfl ?_
  refine EL.rew (d := 25) (v' := .bool true) rfl (by first | rfl | (decide) | (simp)) ?_
  refine EL.move rfl rfl rfl ?_
  refine EL.eqlS rfl rfl rfl rfl ?_
  refine EL.pickT rfl rfl rfl rfl ?_
  refine EL.move rfl rfl rfl ?_
  refine EL.rew (d := 29) (v' := .bool true) rfl (by first | rfl | (decide) | (simp)) ?_
  refine EL.move rfl rfl rfl ?_
  refine EL.eqlI rfl rfl rfl rfl ?_
  refine EL.pickT rfl rfl rfl rfl ?_
  refine EL.assign rfl rfl rfl ?_
  refine .go ?_; repeat constructor
  exact PX.ret rfl Try.results38 (.cons (.tmp rfl) .nil) (fun w hs => ⟨(), rfl, hs.ent (.nil _)⟩)
end Go.Proofs.Ytblpgpgbnlhjlaa
namespace Go.Proofs.Ytblpgpgbnlhjlaa.Sl
open Go Go.RowKit Go.ChangeShapes Go.WideShapes Go.ChangeAt
set_option linter.unusedVariables false
set_option linter.unusedSimpArgs false
def rowedB (P : Program) (ts : List TypeId) : Bool := ts.all fun t => P.readableRec t && decide (t < P.types.size)
theorem trodAll_below {H : Type} {enc : TypeId × Value → H} {P : Program} (hl : laidOutB P = true) {W W' : World} (hb : Below W.heap.size W W') :
    ∀ {ts : List TypeId} {vs : List Value} {ds : List (DataW H)} {ps : List MemPlace}, rowedB P ts = true → (∀ x ∈ ps, x.block < W.heap.size) → DataW.TrodAll enc P W 0 (fun _ => true) true ts vs ds ps → DataW.TrodAll enc P W' 0 (fun b => decide (b < W.heap.size)) true ts vs ds ps
  | [], [], [], _, _, _, h => h
  | t :: ts, v :: vs, d :: ds, ps, hr, hlt, h => by
    obtain ⟨p, q, h1, h2, rfl⟩ := h
    simp only [rowedB, List.all_cons, Bool.and_eq_true, decide_eq_true_eq] at hr
    exact ⟨p, q, Below.trod hl hr.1.1 hr.1.2 h1 hb (fun x hx => hlt x (by simp [hx])), trodAll_below hl hb (by simpa [rowedB] using hr.2) (fun x hx => hlt x (by simp [hx])) h2, rfl⟩
theorem law_true {H : Type} {enc : TypeId × Value → H} {P : Program} (hl : laidOutB P = true) {f : Func} {tb : TypeId} {s : ChangeSpec} {W W' : World} {args : Array Value} {ds gs : List (DataW H)} {before : List MemPlace}
    (hres : f.resultTypes = #[tb]) (hu : P.underlying tb = some .bool) (hts : rowedB P f.params.toList = true) (hv : varsRowed P s.vars = true) (apart : Bool)
    (hR : (s.fn H (ds ++ gs)).results = [.lit (.bool true)]) (hA : (s.fn H (ds ++ gs)).args = ds) (hV : (s.fn H (ds ++ gs)).vars = gs)
    (hW : DataW.Whole enc P f.params.toList s.vars apart W args.toList ds gs before) (hb : Below W.heap.size W W') : s.post enc P f apart true false false W args (.bool true) W' := by
  have hlt := hW.lt
  have hW' := hW
  obtain ⟨p, q, h1, h2, rfl, h4, h5⟩ := hW
  refine ⟨ds, gs, p ++ q, [], p, q, hW', ?_, ?_, ?_, hb.frame _, fun h => by cases h⟩
  · rw [hres, hR]
    exact trodAll_mk1 (shut_bool hu true)
  · rw [hA]
    exact trodAll_below hl hb hts (fun x hx => hlt x (by simp [hx])) h1
  · rw [hV]
    exact Below.trodVars hl hb hv h2
theorem open_sv {H : Type} {enc : TypeId × Value → H} {P : Program} {w : World} {base : Nat} {sp : Nat → Bool} {held : Bool} {r : Reach} {b0 : Nat} {t : TypeId} {v : Value} {d : DataW H} {ps : List MemPlace} (ht : P.underlying t = some .string) (hval : Value.okWide P w r b0 t v) (hd : DataW.Trod enc P w base sp held t v d ps) :
    ∃ l : List UInt8, v = Sv l ∧ d = .lit (.string l) := by
  obtain ⟨s, rfl, rfl, _, _⟩ := ChangeMaps.open_string ht hval hd
  exact ⟨s.data.toList, Sv_eta s, rfl⟩
theorem w_str {H : Type} {P : Program} {t : TypeId} {l : List UInt8} : DataW.weights (H := H) P t (.lit (.string l)) = [l.length] := by simp [DataW.weights]
theorem w_int {H : Type} {P : Program} {t : TypeId} {k : IntKind} {n : Int} : DataW.weights (H := H) P t (.lit (.int k n)) = [] := by simp [DataW.weights]
end Go.Proofs.Ytblpgpgbnlhjlaa.Sl
namespace Go.Proofs.Ytblpgpgbnlhjlaa
theorem own : Go.ownKnob Try.prog.godebug = none := by kernel_rfl
theorem laidOut : Go.laidOutB Try.prog = true := by kernel_rfl
end Go.Proofs.Ytblpgpgbnlhjlaa
