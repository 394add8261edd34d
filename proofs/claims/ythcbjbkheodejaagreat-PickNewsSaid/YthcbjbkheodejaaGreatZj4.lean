/- Texts of this claim, bundled. -/
import Derived.Test.YthcbjbkheodejaaGreatZj3
set_option linter.unusedVariables false
set_option linter.unusedSimpArgs false
namespace Go.Proofs.YthcbjbkheodejaaGreat
open Go Go.RowKit Sl
set_option maxRecDepth 100000
set_option maxHeartbeats 8000000
attribute [local irreducible] ES EL PX wps
def dPart (t : List UInt8) (n : Nat) (r : DR) (first : Bool) : RE × DR :=
  if see2 t r.at_ 92 40 = true then
    (if r.groups = 9 then (.cat [], r.fail 4 r.at_)
    else (.group (r.groups + 1) (dRow t n true r.at_ [] { r with groups := r.groups + 1, at_ := r.at_ + 2 }).1, { (dRow t n true r.at_ [] { r with groups := r.groups + 1, at_ := r.at_ + 2 }).2 with closed := (dRow t n true r.at_ [] { r with groups := r.groups + 1, at_ := r.at_ + 2 }).2.closed.set (r.groups + 1) true }))
  else dLeaf t r first
def dFull (t : List UInt8) (x : RE × DR) : RE × DR := if isAnch x.1 = true then x else dReps t t.length x.1 x.2
theorem dRow_step (t : List UInt8) (n : Nat) (in_ : Bool) (op : Nat) (ks : List RE) (r : DR) : dRow t (n + 1) in_ op ks r =
    if r.e ≠ 0 then (.cat ks, r)
    else if r.at_ = t.length then (.cat ks, if in_ = true then r.fail 10 op else r)
    else if see2 t r.at_ 92 41 = true then (.cat ks, (if in_ = true then r else r.fail 10 r.at_).to (r.at_ + 2))
    else dRow t n in_ op (ks ++ [(dFull t (dPart t n r (decide (ks = [])))).1]) (dFull t (dPart t n r (decide (ks = [])))).2 := by
  rw [dRow]
  rfl
theorem full_bad {t : List UInt8} {x : RE × DR} (h : x.2.e ≠ 0) : (dFull t x).2 = x.2 := by
  unfold dFull
  split
  · rfl
  · rw [reps_bad _ _ _ h]
abbrev RowIH (t : List UInt8) (n : Nat) : Prop := ∀ (in_ : Bool) (op : Nat) (ks : List RE) (r : DR) (P : PS) (m : Nat) (b : Bool), DRel ks r P → r.at_ ≤ t.length → t.length ≤ m + r.at_ → t.length < n + r.at_ → (b = false → NoRep t r.at_) →
  (in_ = true → P.rest ≠ [] ∧ P.top.at_ = op) → (in_ = false → P.rest = []) → RowD t m r.at_ (decide (ks = [])) b in_ P (dRow t n in_ op ks r)
theorem group_aft {t : List UInt8} {n m : Nat} {b : Bool} {ks : List RE} {r : DR} {P : PS} (ih : RowIH t n) (h : DRel ks r P) (hlt : r.at_ < t.length) (hm : t.length ≤ m + r.at_) (hn : t.length < n + 1 + r.at_) (hop : see2 t r.at_ 92 40 = true) : Aft t m r.at_ (decide (ks = [])) b P ks (dPart t n r (decide (ks = []))) := by
  obtain ⟨h1, h2, h3⟩ := (see2_iff ..).1 hop
  have h2' : (t.getD r.at_ 0).toNat = 92 := by rw [h2]; rfl
  have h3' : (t.getD (r.at_ + 1) 0).toNat = 40 := by rw [h3]; rfl
  have hk : readT t r.at_ (decide (ks = [])) b = (⟨3, r.at_, zeroS, 0, 0, 0⟩, r.at_ + 2) := by unfold readT; rw [if_pos h2', escT, if_neg (by omega)]; dsimp only; rw [if_pos h3']
  obtain ⟨m, rfl⟩ : ∃ n, m = n + 1 := ⟨m - 1, by omega⟩
  have hst := pg_tok (m := m) hlt hk (show (3 : Nat) ≠ 7 by decide) P
  rw [takeM_3 rfl] at hst
  unfold dPart
  rw [if_pos hop]
  by_cases h9 : r.groups = 9
  · rw [if_pos h9, fail_ok h.e]
    rw [if_pos (h.groups.trans h9), if_pos (by simp)] at hst
    exact .inl ⟨by simp, hst⟩
  rw [if_neg h9]
  rw [if_neg (fun e => h9 (h.groups.symm.trans e)), if_neg (by simp)] at hst
  have hrel : DRel [] { r with groups := r.groups + 1, at_ := r.at_ + 2 } { P with top := ⟨[], [], P.groups + 1, r.at_⟩, rest := P.top :: P.rest, groups := P.groups + 1 } := by
    refine ⟨rfl, rfl, ?_, h.shut, h.size, ?_, h.e⟩
    · show P.groups + 1 = r.groups + 1
      rw [h.groups]
    · show ([] : List Nat).sum + ((P.top :: P.rest).map Frame.tot).sum ≤ P.size
      have := h.tot
      rw [List.map_cons, List.sum_cons, List.sum_nil, Nat.zero_add]
      exact this
  have hrow := ih true r.at_ [] { r with groups := r.groups + 1, at_ := r.at_ + 2 } _ m true hrel h1 (by show t.length ≤ m + (r.at_ + 2); omega) (by show t.length < n + (r.at_ + 2); omega) (fun e => by cases e) (fun _ => ⟨by simp, rfl⟩) (fun e => by cases e)
  generalize dRow t n true r.at_ [] { r with groups := r.groups + 1, at_ := r.at_ + 2 } = y at hrow ⊢
  have hst' : pg t (m + 1) r.at_ (decide (ks = [])) b P = pg t m (r.at_ + 2) true true { P with top := ⟨[], [], P.groups + 1, r.at_⟩, rest := P.top :: P.rest, groups := P.groups + 1 } := hst
  have hrow' : RowD t m (r.at_ + 2) true true true { P with top := ⟨[], [], P.groups + 1, r.at_⟩, rest := P.top :: P.rest, groups := P.groups + 1 } y := hrow
  rcases hrow' with ⟨e1, e2⟩ | ⟨_, e2, _⟩ | ⟨e1, _, ks', m', P', e3, e4, e5, e6, e7, e8, e9, e10⟩
  · exact .inl ⟨e1, hst'.trans e2⟩
  · cases e2
  · have hg : P'.top.group = r.groups + 1 := e6.trans (by show P.groups + 1 = _; rw [h.groups])
    have hc := close_rel (a := 0) h e4 (r.groups + 1) hg e5
    rw [← e3] at hc
    refine .inr ⟨e1, m', closeS P' P.top P.rest, hc, rfl, rfl, rfl, e7, by show r.at_ < y.2.at_; omega, e9, ?_⟩
    exact hst'.trans (e10 P.top P.rest rfl)
theorem part_aft {t : List UInt8} {n m : Nat} {b : Bool} {ks : List RE} {r : DR} {P : PS} (ih : RowIH t n) (h : DRel ks r P) (hlt : r.at_ < t.length) (hm : t.length ≤ m + r.at_) (hn : t.length < n + 1 + r.at_) (hsh : see2 t r.at_ 92 41 = false) (hnr : b = false → NoRep t r.at_) :
    Aft t m r.at_ (decide (ks = [])) b P ks (dPart t n r (decide (ks = []))) ∧ ((dPart t n r (decide (ks = []))).1 = .eol → (dPart t n r (decide (ks = []))).2.at_ = t.length ∨ see2 t (dPart t n r (decide (ks = []))).2.at_ 92 41 = true) := by
  by_cases hop : see2 t r.at_ 92 40 = true
  · refine ⟨group_aft ih h hlt hm hn hop, fun he => ?_⟩
    unfold dPart at he
    rw [if_pos hop] at he
    split at he <;> cases he
  · have hd : dPart t n r (decide (ks = [])) = dLeaf t r (decide (ks = [])) := by unfold dPart; rw [if_neg hop]
    rw [hd]
    exact ⟨leaf_aft h rfl hlt hm hsh (by simpa using hop) (fun e => ⟨(hnr e).star hlt, (hnr e).iv⟩), leaf_eol t r _⟩
theorem norep_eol {t : List UInt8} {a : Nat} (h : a = t.length ∨ see2 t a 92 41 = true) : NoRep t a := by
  rcases h with h | h
  · refine ⟨fun hl => by omega, ?_⟩
    cases hx : see2 t a 92 123 with
    | false => rfl
    | true => have := ((see2_iff ..).1 hx).1; omega
  · obtain ⟨h1, h2, h3⟩ := (see2_iff ..).1 h
    refine ⟨fun _ => by rw [h2]; decide, ?_⟩
    cases hx : see2 t a 92 123 with
    | false => rfl
    | true =>
      have := ((see2_iff ..).1 hx).2.2
      rw [h3] at this
      exact absurd this (by decide)
theorem row_aft {t : List UInt8} : ∀ n, RowIH t n
  | 0 => fun in_ op ks r P m b h hat hm hn => by omega
  | n + 1 => fun in_ op ks r P m b h hat hm hn hnr hin hout => by
    have ih := row_aft (t := t) n
    rw [dRow_step, if_neg (by rw [h.e]; simp)]
    by_cases hend : r.at_ = t.length
    · rw [if_pos hend]
      have hp := pg_end (show t.length ≤ r.at_ by omega) m (decide (ks = [])) b P
      cases in_ with
      | false =>
        refine .inr (.inl ⟨h.e, rfl, hp.trans ?_⟩)
        unfold endM
        rw [hout rfl, h.kids]
      | true =>
        obtain ⟨h1, h2⟩ := hin rfl
        rw [if_pos rfl, fail_ok h.e]
        refine .inl ⟨by simp, hp.trans ?_⟩
        unfold endM
        cases hr : P.rest with
        | nil => exact absurd hr h1
        | cons f fs => dsimp only; rw [h2]
    rw [if_neg hend]
    have hlt : r.at_ < t.length := by omega
    by_cases hsh : see2 t r.at_ 92 41 = true
    · rw [if_pos hsh]
      obtain ⟨h1, h2, h3⟩ := (see2_iff ..).1 hsh
      have h2' : (t.getD r.at_ 0).toNat = 92 := by rw [h2]; rfl
      have h3' : (t.getD (r.at_ + 1) 0).toNat = 41 := by rw [h3]; rfl
      have hk : readT t r.at_ (decide (ks = [])) b = (⟨4, r.at_, zeroS, 0, 0, 0⟩, r.at_ + 2) := by unfold readT; rw [if_pos h2', escT, if_neg (by omega)]; dsimp only; rw [if_neg (by omega), if_pos h3']
      obtain ⟨m, rfl⟩ : ∃ n, m = n + 1 := ⟨m - 1, by omega⟩
      have hst := pg_tok (m := m) hlt hk (show (4 : Nat) ≠ 7 by decide) P
      rw [takeM_4 rfl] at hst
      cases in_ with
      | false =>
        rw [hout rfl] at hst
        dsimp only at hst
        rw [if_pos (by simp)] at hst
        rw [if_neg (by simp), fail_ok h.e]
        exact .inl ⟨by show (10 : Int) ≠ 0; decide, hst⟩
      | true =>
        rw [if_pos rfl]
        refine .inr (.inr ⟨h.e, rfl, ks, m, P, rfl, ⟨h.kids, h.sizes, h.groups, h.shut, h.size, h.tot, h.e⟩, rfl, rfl, by show t.length ≤ m + (r.at_ + 2); omega, Nat.le_refl _, h1, fun fr rest hr => ?_⟩)
        rw [hr] at hst
        dsimp only at hst
        rw [if_neg (by simp)] at hst
        exact hst
    rw [if_neg hsh]
    have hsh' : see2 t r.at_ 92 41 = false := by simpa using hsh
    obtain ⟨hA, hE⟩ := part_aft (b := b) ih h hlt hm (by omega) hsh' hnr
    generalize dPart t n r (decide (ks = [])) = x at hA hE ⊢
    rcases hA with ⟨e1, e2⟩ | ⟨e1, m', P', e2, e3, e4, e5, e6, e7, e8, e9⟩
    · rw [full_bad e1, row_bad _ _ _ _ _ e1]
      exact .inl ⟨e1, e2⟩
    · have hd : decide (ks ++ [x.1] = []) = false := by simp
      have hinn : in_ = true → P'.rest ≠ [] ∧ P'.top.at_ = op := fun e => ⟨by rw [e3]; exact (hin e).1, e5.trans (hin e).2⟩
      have hon : in_ = false → P'.rest = [] := fun e => e3.trans (hout e)
      cases ha : isAnch x.1 with
      | true =>
        have hf : dFull t x = x := by unfold dFull; rw [if_pos ha]
        rw [hf]
        have := ih in_ op (ks ++ [x.1]) x.2 P' m' (isBol x.1) e2 e8 e6 (by omega) (fun hb => by
          rcases anch_is ha with e | e
          · rw [e] at hb; cases hb
          · exact norep_eol (hE e)) hinn hon
        rw [hd] at this
        exact this.trans e9 (by omega) e3 e4
      | false =>
        have hf : dFull t x = dReps t t.length x.1 x.2 := by unfold dFull; rw [if_neg (by rw [ha]; simp)]
        rw [hf]
        rw [bol_no ha] at e9
        rcases reps_aft t.length x.1 x.2 P' m' e2 e8 e6 (by omega) with ⟨f1, f2⟩ | ⟨f1, m2, P2, f2, f3, f4, f5, f6, f7, f8, f9, f10⟩
        · rw [row_bad _ _ _ _ _ f1]
          exact .inl ⟨f1, e9.trans f2⟩
        · have := ih in_ op _ _ P2 m2 false f2 f8 f6 (by omega) (fun _ => f9) (fun e => ⟨by rw [f3]; exact (hinn e).1, f5.trans (hinn e).2⟩) (fun e => f3.trans (hon e))
          have hd2 : decide (ks ++ [(dReps t t.length x.1 x.2).1] = []) = false := by simp
          rw [hd2] at this
          exact this.trans (e9.trans f10) (by omega) (f3.trans e3) (f4.trans e4)
theorem doc_is (t : List UInt8) : docM t = parseM t := by
  unfold docM parseM
  by_cases h : 512 < t.length
  · rw [if_pos h, if_pos h]
  rw [if_neg h, if_neg h]
  have h0 : DRel [] dr0 ps0 := ⟨rfl, rfl, rfl, rfl, rfl, by decide, rfl⟩
  have hr := row_aft (t := t) (t.length + 1) false 0 [] dr0 ps0 t.length true h0 (Nat.zero_le _) (by show t.length ≤ t.length + 0; omega) (by show t.length < t.length + 1 + 0; omega) (fun e => by cases e) (fun e => by cases e) (fun _ => rfl)
  have hpg : parseGo (toksM t) ps0 = pg t t.length 0 true true ps0 := rfl
  dsimp only
  rw [hpg]
  rcases hr with ⟨e1, e2⟩ | ⟨e1, _, e2⟩ | ⟨_, e2, _⟩
  · rw [if_pos e1]
    exact e2.symm
  · rw [if_neg (by rw [e1]; simp)]
    exact e2.symm
  · cases e2
abbrev rdC (t : List UInt8) (a : Nat) (e : Int) (pl gr : Nat) (tl : List Value) : List Value := Sv t :: Iv (a : Nat) :: Iv e :: Iv (pl : Nat) :: Iv (gr : Nat) :: tl
abbrev RB (g : Nat) (t : List UInt8) (a : Nat) (e : Int) (pl gr : Nat) (tl : List Value) : HA := HA.blk g (.cells (rdC t a e pl gr tl).toArray 127)
abbrev CT (sh : List Bool) (sz : Int) : List Value := sh.map Value.bool ++ [Iv sz]
abbrev DRB (g : Nat) (t : List UInt8) (r : DR) : HA := RB g t r.at_ r.e r.place r.groups (CT r.closed r.size)
theorem rd_set1 (t : List UInt8) (a : Nat) (e : Int) (pl gr : Nat) (tl : List Value) (u : Value) : (rdC t a e pl gr tl).toArray.setIfInBounds 1 u = (Sv t :: u :: Iv e :: Iv (pl : Nat) :: Iv (gr : Nat) :: tl).toArray := by rw [setIf_list]; rfl
theorem rd_set2 (t : List UInt8) (a : Nat) (e : Int) (pl gr : Nat) (tl : List Value) (u : Value) : (rdC t a e pl gr tl).toArray.setIfInBounds 2 u = (Sv t :: Iv (a : Nat) :: u :: Iv (pl : Nat) :: Iv (gr : Nat) :: tl).toArray := by rw [setIf_list]; rfl
theorem rd_set3 (t : List UInt8) (a : Nat) (e : Int) (pl gr : Nat) (tl : List Value) (u : Value) : (rdC t a e pl gr tl).toArray.setIfInBounds 3 u = (Sv t :: Iv (a : Nat) :: Iv e :: u :: Iv (gr : Nat) :: tl).toArray := by rw [setIf_list]; rfl
theorem rd_set4 (t : List UInt8) (a : Nat) (e : Int) (pl gr : Nat) (tl : List Value) (u : Value) : (rdC t a e pl gr tl).toArray.setIfInBounds 4 u = (Sv t :: Iv (a : Nat) :: Iv e :: Iv (pl : Nat) :: u :: tl).toArray := by rw [setIf_list]; rfl
theorem rd_size_get (t : List UInt8) (a : Nat) (e : Int) (pl gr : Nat) (sh : List Bool) (sz : Int) (h : sh.length = 10) : (rdC t a e pl gr (CT sh sz)).toArray[15]? = some (Iv sz) := by
  simp only [List.getElem?_toArray, rdC, CT, List.getElem?_cons_succ]
  rw [List.getElem?_append_right (by simp; omega)]
  simp [h]
theorem rd_size_set (t : List UInt8) (a : Nat) (e : Int) (pl gr : Nat) (sh : List Bool) (sz s2 : Int) (h : sh.length = 10) : (rdC t a e pl gr (CT sh sz)).toArray.setIfInBounds 15 (Iv s2) = (rdC t a e pl gr (CT sh s2)).toArray := by
  rw [setIf_list]
  simp only [rdC, CT, List.set_cons_succ]
  rw [List.set_append_right _ _ (by simp; omega)]
  simp [h]
theorem rd_len (t : List UInt8) (a : Nat) (e : Int) (pl gr : Nat) (sh : List Bool) (sz : Int) (h : sh.length = 10) : (rdC t a e pl gr (CT sh sz)).toArray.size = 16 := by simp [h]
theorem rd_shut_get (t : List UInt8) (a : Nat) (e : Int) (pl gr i n : Nat) (sh : List Bool) (sz : Int) (hi : i < sh.length) (hn : n = 5 + i) : (rdC t a e pl gr (CT sh sz)).toArray[n]? = some (.bool (sh.getD i false)) := by
  subst hn
  rw [List.getElem?_toArray, show 5 + i = i + 1 + 1 + 1 + 1 + 1 by omega]
  simp only [rdC, CT, List.getElem?_cons_succ]
  rw [List.getElem?_append_left (by simpa using hi), List.getElem?_map, List.getElem?_eq_getElem hi]
  simp [List.getD_eq_getElem?_getD, List.getElem?_eq_getElem hi]
theorem rd_shut_set (t : List UInt8) (a : Nat) (e : Int) (pl gr i n : Nat) (sh : List Bool) (sz : Int) (b : Bool) (hi : i < sh.length) (hn : n = 5 + i) : (rdC t a e pl gr (CT sh sz)).toArray.setIfInBounds n (.bool b) = (rdC t a e pl gr (CT (sh.set i b) sz)).toArray := by
  subst hn
  rw [setIf_list, show 5 + i = i + 1 + 1 + 1 + 1 + 1 by omega]
  simp only [rdC, CT, List.set_cons_succ]
  rw [List.set_append_left _ _ (by simpa using hi), List.map_set]
theorem dfail_c (g : Nat) (t : List UInt8) (at_ : Nat) (e0 : Int) (pl gr : Nat) (tl : List Value) (e : Int) (a : Nat) : Mut Tryz.prog 75 #[Pv g 0, Iv e, Iv (a : Nat)] [RB g t at_ e0 pl gr tl] (fun _ : Unit => .tuple #[]) (fun _ => [RB g t at_ (if e0 = 0 then e else e0) (if e0 = 0 then a else pl) gr tl]) := by
  intro w0 B R w h
  replace h : Sat w0 B (RB g t at_ e0 pl gr tl :: R) w := h
  refine calls_of_ES TB Tryz.func75 rfl _ Tryz.ntmps75 rfl h ?_; refine .go ?_; (repeat constructor); refine .mv ?_; refine .nc ?_; refine .fa ?_; refine .lb ?_; refine .ei ?_; refine .go ?_; repeat constructor
  refine ES.condD rfl (fun h0 => ?_) (fun h0 => ?_)
  · rw [if_pos h0, if_pos h0]
    refine .go ?_; (repeat constructor); refine .mv ?_; refine .mv ?_; refine .nc ?_; refine .fa ?_
    (refine EL.storeB rfl rfl rfl rfl rfl rfl (by repeat constructor) (by simp) ?_; refine EL.blkEq (g := g) (by repeat constructor) (congrArg (fun a => Obj.cells a 127 (0, 0)) (rd_set2 _ _ _ _ _ _ _)) ?_)
    refine .go ?_; (repeat constructor); refine .mv ?_; refine .mv ?_; refine .nc ?_; refine .fa ?_
    (refine EL.storeB rfl rfl rfl rfl rfl rfl (by repeat constructor) (by simp) ?_; refine EL.blkEq (g := g) (by repeat constructor) (congrArg (fun a => Obj.cells a 127 (0, 0)) (rd_set3 _ _ _ _ _ _ _)) ?_)
    refine .go ?_; repeat constructor
    exact PX.end rfl Tryz.results75 .nil (fun w hs => ⟨(), rfl, hs.ent (.i (by repeat constructor))⟩)
  · rw [if_neg h0, if_neg h0]
    refine .go ?_; repeat constructor
    exact PX.end rfl Tryz.results75 .nil (fun w hs => ⟨(), rfl, hs.ent (.i (by repeat constructor))⟩)
def seeM (t : List UInt8) (a : Nat) (l : List UInt8) : Bool := decide (a + l.length ≤ t.length) && decide ((t.drop a).take l.length = l)
theorem see2_is (t : List UInt8) (a : Nat) (x y : UInt8) : seeM t a [x, y] = see2 t a x y := rfl
theorem dsee_c (g : Nat) (t : List UInt8) (a : Nat) (e0 : Int) (pl gr : Nat) (tl : List Value) (l : List UInt8) (ht : t.length ≤ 1073741824) (ha : a ≤ 2147483648) (hl : l.length ≤ 4) : Mut Tryz.prog 76 #[Pv g 0, Sv l] [RB g t a e0 pl gr tl] (fun _ : Unit => .bool (seeM t a l)) (fun _ => [RB g t a e0 pl gr tl]) := by
  intro w0 B R w h
  replace h : Sat w0 B (RB g t a e0 pl gr tl :: R) w := h
  refine calls_of_ES TB Tryz.func76 rfl _ Tryz.ntmps76 rfl h ?_; refine .go ?_; (repeat constructor); refine .as_ ?_; refine .go ?_; repeat constructor
  refine ES.draw (X := Unit) (fun _ => [(4, .bool (seeM t a l))]) (fun _ => RB g t a e0 pl gr tl :: R) (RB g t a e0 pl gr tl :: R) mixed (.i (by repeat constructor)) ?_ (fun _ => ?_)
  · refine .tk 0 rfl (RV.move rfl) ?_; refine .tk 1 rfl (RV.nilCheck rfl) ?_; refine .tk 2 rfl (RV.fieldAddr rfl rfl rfl rfl rfl rfl) ?_; refine .tk 3 rfl (RV.loadB rfl rfl rfl (by repeat constructor) rfl) ?_; refine .tk 4 rfl (RV.move rfl) ?_; refine .tk 5 rfl (RV.lenS rfl rfl rfl) ?_; refine .tk 6 rfl (RV.addN rfl rfl rfl (by omega)) ?_; refine .tk 7 rfl (RV.move rfl) ?_; refine .tk 8 rfl (RV.nilCheck rfl) ?_; refine .tk 9 rfl (RV.fieldAddr rfl rfl rfl rfl rfl rfl) ?_; refine .tk 10 rfl (RV.loadB rfl rfl rfl (by repeat constructor) rfl) ?_; refine .tk 11 rfl (RV.lenS rfl rfl rfl) ?_; refine .tk 12 rfl (RV.leq rfl rfl) ?_; refine .tk 13 rfl (RV.move rfl) ?_
    first | refine ED.part (d := 18) rfl (fun hp18 => ?_) (fun hp18 => ?_) | refine ED.partN (d := 18) rfl (fun hp18 => ?_) (fun hp18 => ?_) | refine ED.partB (d := 18) rfl (fun hp18 => ?_) (fun hp18 => ?_)
    · refine .tk 14 rfl (RV.move rfl) ?_; refine .tk 15 rfl (RV.nilCheck rfl) ?_; refine .tk 16 rfl (RV.fieldAddr rfl rfl rfl rfl rfl rfl) ?_; refine .tk 17 rfl (RV.loadB rfl rfl rfl (by repeat constructor) rfl) ?_; refine .tk 18 rfl (RV.move rfl) ?_; refine .tk 19 rfl (RV.nilCheck rfl) ?_; refine .tk 20 rfl (RV.fieldAddr rfl rfl rfl rfl rfl rfl) ?_; refine .tk 21 rfl (RV.loadB rfl rfl rfl (by repeat constructor) rfl) ?_; refine .tk 22 rfl (RV.move rfl) ?_; refine .tk 23 rfl (RV.nilCheck rfl) ?_; refine .tk 24 rfl (RV.fieldAddr rfl rfl rfl rfl rfl rfl) ?_; refine .tk 25 rfl (RV.loadB rfl rfl rfl (by repeat constructor) rfl) ?_; refine .tk 26 rfl (RV.move rfl) ?_; refine .tk 27 rfl (RV.lenS rfl rfl rfl) ?_; refine .tk 28 rfl (RV.addN rfl rfl rfl (by omega)) ?_; refine .tk 29 rfl (RV.sliceS (m := a) (n := a + l.length) rfl rfl rfl ⟨_, rfl⟩ ⟨_, rfl⟩ (by omega) (by omega)) ?_; refine .tk 30 rfl (RV.move rfl) ?_; refine .tk 31 rfl (RV.eqlS rfl rfl) ?_; refine .tk 32 rfl (RV.pickT rfl rfl) ?_; refine .tk 33 rfl (RV.assign rfl) ?_; refine .dn ?_
      exact .cx () ⟨getA rfl (congrArg Value.bool (by unfold seeM; (try simp only [Nat.add_sub_cancel_left]); rw [Bool.eq_iff_iff]; simp_all <;> omega)), trivial⟩
    · refine .pa 14 rfl ?_; refine .pa 15 rfl ?_; refine .pa 16 rfl ?_; refine .pa 17 rfl ?_; refine .pa 18 rfl ?_; refine .pa 19 rfl ?_; refine .pa 20 rfl ?_; refine .pa 21 rfl ?_; refine .pa 22 rfl ?_; refine .pa 23 rfl ?_; refine .pa 24 rfl ?_; refine .pa 25 rfl ?_; refine .pa 26 rfl ?_; refine .pa 27 rfl ?_; refine .pa 28 rfl ?_; refine .pa 29 rfl ?_; refine .pa 30 rfl ?_; refine .pa 31 rfl ?_; refine .tk 32 rfl (RV.pickF rfl rfl) ?_; refine .tk 33 rfl (RV.assign rfl) ?_; refine .dn ?_
      exact .cx () ⟨getA rfl (congrArg Value.bool (by unfold seeM; (try simp only [Nat.add_sub_cancel_left]); rw [Bool.eq_iff_iff]; simp_all <;> omega)), trivial⟩
  refine .go ?_; repeat constructor
  exact PX.ret rfl Tryz.results76 (.cons (.tmp rfl) .nil) (fun w hs => ⟨(), rfl, hs.ent (.i (by repeat constructor))⟩)
theorem ddig_c (g : Nat) (t : List UInt8) (a : Nat) (e0 : Int) (pl gr : Nat) (tl : List Value) (ht : t.length ≤ 1073741824) (ha : a ≤ t.length) : Mut Tryz.prog 113 #[Pv g 0] [RB g t a e0 pl gr tl] (fun _ : Unit => Iv (numM t a).1) (fun _ => [RB g t (numM t a).2 e0 pl gr tl]) := by
  intro w0 B R w h
  replace h : Sat w0 B (RB g t a e0 pl gr tl :: R) w := h
  obtain ⟨res, hres⟩ : ∃ res, res = numGo t (t.length - a) 0 a := ⟨_, rfl⟩
  have hm : numM t a = (if res.2 = a then -1 else (res.1 : Int), res.2) := by rw [hres]; rfl
  rw [hm]
  refine calls_of_ES TB Tryz.func113 rfl _ Tryz.ntmps113 rfl h ?_; refine .go ?_; (repeat constructor); refine .as_ ?_; refine .go ?_; (repeat constructor); refine .as_ ?_; refine .go ?_; (repeat constructor); refine ES.loop (σ := Nat × Nat) (fun (n, c) => n ≤ 256 ∧ a ≤ c ∧ c ≤ t.length ∧ (c = a → n = 0) ∧ numGo t (t.length - c) n c = res) (fun (n, c) => [(0, Pv g 0), (3, Iv (if c = a then -1 else (n : Int)))]) (fun (n, c) => RB g t c e0 pl gr tl :: R) (fun (n, c) => t.length - c) (0, a) ⟨by omega, Nat.le_refl _, ha, fun _ => rfl, hres.symm⟩ ⟨rfl, getA rfl (congrArg Iv (by rw [if_pos rfl])), trivial⟩ (.i (by repeat constructor)) ?_
  rintro ⟨n, c⟩ ⟨hn, hac, hc, hca, hgo⟩
  dsimp only at hn hac hc hca hgo ⊢
  refine .g0 ?_; repeat constructor
  refine ES.draw (X := Unit) (fun _ => [(0, Pv g 0), (3, Iv (if c = a then -1 else (n : Int))), (37, .bool (decide ((c : Int) < (t.length : Int)) && isDig (t.getD c 0)))]) (fun _ => RB g t c e0 pl gr tl :: R) (RB g t c e0 pl gr tl :: R) mixed (.i (by repeat constructor)) ?_ (fun _ => ?_)
  · refine .tk 0 rfl (RV.move rfl) ?_; refine .tk 1 rfl (RV.nilCheck rfl) ?_; refine .tk 2 rfl (RV.fieldAddr rfl rfl rfl rfl rfl rfl) ?_; refine .tk 3 rfl (RV.loadB rfl rfl rfl (by repeat constructor) rfl) ?_; refine .tk 4 rfl (RV.move rfl) ?_; refine .tk 5 rfl (RV.nilCheck rfl) ?_; refine .tk 6 rfl (RV.fieldAddr rfl rfl rfl rfl rfl rfl) ?_; refine .tk 7 rfl (RV.loadB rfl rfl rfl (by repeat constructor) rfl) ?_; refine .tk 8 rfl (RV.lenS rfl rfl rfl) ?_; refine .tk 9 rfl (RV.lss rfl rfl) ?_; refine .tk 10 rfl (RV.move rfl) ?_
    first | refine ED.part (d := 14) rfl (fun hp14 => ?_) (fun hp14 => ?_) | refine ED.partN (d := 14) rfl (fun hp14 => ?_) (fun hp14 => ?_) | refine ED.partB (d := 14) rfl (fun hp14 => ?_) (fun hp14 => ?_)
    · refine .tk 11 rfl (RV.move rfl) ?_; refine .tk 12 rfl (RV.nilCheck rfl) ?_; refine .tk 13 rfl (RV.fieldAddr rfl rfl rfl rfl rfl rfl) ?_; refine .tk 14 rfl (RV.loadB rfl rfl rfl (by repeat constructor) rfl) ?_; refine .tk 15 rfl (RV.move rfl) ?_; refine .tk 16 rfl (RV.nilCheck rfl) ?_; refine .tk 17 rfl (RV.fieldAddr rfl rfl rfl rfl rfl rfl) ?_; refine .tk 18 rfl (RV.loadB rfl rfl rfl (by repeat constructor) rfl) ?_; refine .tk 19 rfl (RV.indexSN rfl rfl rfl rfl (by omega)) ?_; refine .tk 20 rfl (RV.geq rfl rfl) ?_; refine .tk 21 rfl (RV.pickT rfl rfl) ?_; refine .tk 22 rfl (RV.move rfl) ?_
      first | refine ED.part (d := 26) rfl (fun hp26 => ?_) (fun hp26 => ?_) | refine ED.partN (d := 26) rfl (fun hp26 => ?_) (fun hp26 => ?_) | refine ED.partB (d := 26) rfl (fun hp26 => ?_) (fun hp26 => ?_)
      · refine .tk 23 rfl (RV.move rfl) ?_; refine .tk 24 rfl (RV.nilCheck rfl) ?_; refine .tk 25 rfl (RV.fieldAddr rfl rfl rfl rfl rfl rfl) ?_; refine .tk 26 rfl (RV.loadB rfl rfl rfl (by repeat constructor) rfl) ?_; refine .tk 27 rfl (RV.move rfl) ?_; refine .tk 28 rfl (RV.nilCheck rfl) ?_; refine .tk 29 rfl (RV.fieldAddr rfl rfl rfl rfl rfl rfl) ?_; refine .tk 30 rfl (RV.loadB rfl rfl rfl (by repeat constructor) rfl) ?_; refine .tk 31 rfl (RV.indexSN rfl rfl rfl rfl (by omega)) ?_; refine .tk 32 rfl (RV.leq rfl rfl) ?_; refine .tk 33 rfl (RV.pickT rfl rfl) ?_; refine .dn ?_
        exact .cx () ⟨rfl, rfl, getA rfl (congrArg Value.bool (by rw [isDig_int]; simp_all <;> omega)), trivial⟩
      · refine .pa 23 rfl ?_; refine .pa 24 rfl ?_; refine .pa 25 rfl ?_; refine .pa 26 rfl ?_; refine .pa 27 rfl ?_; refine .pa 28 rfl ?_; refine .pa 29 rfl ?_; refine .pa 30 rfl ?_; refine .pa 31 rfl ?_; refine .pa 32 rfl ?_; refine .tk 33 rfl (RV.pickF rfl rfl) ?_; refine .dn ?_
        exact .cx () ⟨rfl, rfl, getA rfl (congrArg Value.bool (by rw [isDig_int]; simp_all <;> omega)), trivial⟩
    · refine .pa 11 rfl ?_; refine .pa 12 rfl ?_; refine .pa 13 rfl ?_; refine .pa 14 rfl ?_; refine .pa 15 rfl ?_; refine .pa 16 rfl ?_; refine .pa 17 rfl ?_; refine .pa 18 rfl ?_; refine .pa 19 rfl ?_; refine .pa 20 rfl ?_; refine .tk 21 rfl (RV.pickF rfl rfl) ?_; refine .tk 22 rfl (RV.move rfl) ?_; refine .pa 23 rfl ?_; refine .pa 24 rfl ?_; refine .pa 25 rfl ?_; refine .pa 26 rfl ?_; refine .pa 27 rfl ?_; refine .pa 28 rfl ?_; refine .pa 29 rfl ?_; refine .pa 30 rfl ?_; refine .pa 31 rfl ?_; refine .pa 32 rfl ?_; refine .tk 33 rfl (RV.pickF rfl rfl) ?_; refine .dn ?_
      exact .cx () ⟨rfl, rfl, getA rfl (congrArg Value.bool (by rw [isDig_int]; simp_all <;> omega)), trivial⟩
  refine .go ?_; repeat constructor
  refine ES.cond rfl (fun hd => ?_) (fun hd => ?_)
  · rw [Bool.and_eq_true, decide_eq_true_eq] at hd
    have hlt : c < t.length := by omega
    have hdig := hd.2
    have hb : 48 ≤ (t.getD c 0).toNat ∧ (t.getD c 0).toNat ≤ 57 := by unfold isDig at hdig; exact of_decide_eq_true hdig
    obtain ⟨k, hk⟩ : ∃ k, t.length - c = k + 1 := ⟨t.length - c - 1, by omega⟩
    rw [hk, numGo, if_pos ⟨hlt, hd.2⟩] at hgo
    refine .go ?_; (repeat constructor); refine .mv ?_; refine .ls ?_; refine .go ?_; repeat constructor
    refine ES.cutC (X := Unit) (fun _ => [(0, Pv g 0), (3, Iv (n : Nat))]) (fun _ => RB g t c e0 pl gr tl :: R) ?_ (fun _ => ?_)
    · refine ES.condD rfl (fun hneg => ?_) (fun hpos => ?_)
      · have : n = 0 := hca (Decidable.byContradiction fun h => by rw [if_neg h] at hneg; omega)
        subst this
        refine .go ?_; (repeat constructor); refine .as_ ?_; refine .go ?_; repeat constructor
        exact .cy ()
      · refine .go ?_; repeat constructor
        exact .cx () ⟨rfl, getA rfl (congrArg Iv (if_neg fun h => by rw [if_pos h] at hpos; omega)), trivial⟩
    refine .g0 ?_; repeat constructor
    refine ES.draw (X := Unit) (fun _ => [(0, Pv g 0), (3, Iv ((10 * n + ((t.getD c 0).toNat - 48) : Nat) : Int))]) (fun _ => RB g t c e0 pl gr tl :: R) (RB g t c e0 pl gr tl :: R) mixed (.i (by repeat constructor)) ?_ (fun _ => ?_)
    · refine .tk 0 rfl (RV.move rfl) ?_
      refine .tk 1 rfl (RV.mul ((10 * n : Nat) : Int) rfl rfl (by rw [wrap_i64 _ (by omega) (by omega)]; omega)) ?_
      refine .tk 2 rfl (RV.move rfl) ?_; refine .tk 3 rfl (RV.nilCheck rfl) ?_; refine .tk 4 rfl (RV.fieldAddr rfl rfl rfl rfl rfl rfl) ?_; refine .tk 5 rfl (RV.loadB rfl rfl rfl (by repeat constructor) rfl) ?_; refine .tk 6 rfl (RV.move rfl) ?_; refine .tk 7 rfl (RV.nilCheck rfl) ?_; refine .tk 8 rfl (RV.fieldAddr rfl rfl rfl rfl rfl rfl) ?_; refine .tk 9 rfl (RV.loadB rfl rfl rfl (by repeat constructor) rfl) ?_; refine .tk 10 rfl (RV.indexSN rfl rfl rfl rfl (by omega)) ?_
      refine .tk 11 rfl (RV.subK (n := 48) rfl rfl (by omega) (by simp only [kmax]; omega)) ?_
      refine .tk 12 rfl (RV.convN rfl rfl rfl rfl (by simp only [kmax]; omega)) ?_
      refine .tk 13 rfl (RV.addN rfl rfl rfl (by omega)) ?_; refine .tk 14 rfl (RV.assign rfl) ?_; refine .dn ?_
      exact .cy ()
    refine .go ?_; (repeat constructor); refine .mv ?_; refine .gt_ ?_; refine .go ?_; repeat constructor
    refine ES.cutC (X := Unit) (fun _ => [(0, Pv g 0), (3, Iv ((min (10 * n + ((t.getD c 0).toNat - 48)) 256 : Nat) : Int))]) (fun _ => RB g t c e0 pl gr tl :: R) ?_ (fun _ => ?_)
    · refine ES.condD rfl (fun hbig => ?_) (fun hsm => ?_)
      · refine .go ?_; (repeat constructor); refine .as_ ?_; refine .go ?_; repeat constructor
        exact .cx () ⟨rfl, getA rfl (congrArg Iv (by omega)), trivial⟩
      · refine .go ?_; repeat constructor
        exact .cx () ⟨rfl, getA rfl (congrArg Iv (by omega)), trivial⟩
    refine .go ?_; (repeat constructor); refine .mv ?_; refine .nc ?_; refine .fa ?_; refine .lb ?_; refine .a1 ?_; refine .nc ?_; refine .fa ?_
    (refine EL.storeB rfl rfl rfl rfl rfl rfl (by repeat constructor) (by simp) ?_; refine EL.blkEq (g := g) (by repeat constructor) (congrArg (fun a => Obj.cells a 127 (0, 0)) (rd_set1 _ _ _ _ _ _ _)) ?_)
    refine .go ?_; repeat constructor
    refine .lx (min (10 * n + ((t.getD c 0).toNat - 48)) 256, c + 1) ⟨by simp only; omega, by simp only; omega, by simp only; omega, by simp only; omega, by simp only; rw [show t.length - (c + 1) = k by omega]; exact hgo⟩ (by simp only; omega) ⟨rfl, getA rfl (congrArg Iv (by rw [if_neg (by omega)])), trivial⟩
  · have hr : res = (n, c) := by
      rw [← hgo]
      cases hk : t.length - c with
      | zero => rfl
      | succ k =>
        rw [numGo, if_neg]
        rintro ⟨h1, h2⟩
        rw [h2, decide_eq_true (by omega)] at hd
        cases hd
    rw [hr]
    refine .go ?_; (repeat constructor); refine .mv ?_; refine .as_ ?_; refine .go ?_; repeat constructor
    exact PX.ret rfl Tryz.results113 (.cons (.tmp rfl) .nil) (fun w hs => ⟨(), rfl, hs.ent (.i (by repeat constructor))⟩)
def ivV3 (o : Option (Nat × Int × Nat)) : Value := match o with
  | none => .tuple #[Iv 0, Iv 0, .bool false]
  | some (lo, hi, _) => .tuple #[Iv (lo : Nat), Iv hi, .bool true]
def ivE (t : List UInt8) (a : Nat) : Nat := match ivM t a with
  | none => ivA t a
  | some (_, _, n) => n
theorem see_one (t : List UInt8) (a : Nat) (x : UInt8) : seeM t a [x] = decide (a < t.length ∧ t.getD a 0 = x) := by
  unfold seeM
  by_cases h : a < t.length
  · rw [List.drop_eq_getElem_cons h, List.getD_eq_getElem?_getD, List.getElem?_eq_getElem h, Bool.eq_iff_iff]
    simp only [Bool.and_eq_true, decide_eq_true_eq, List.length_cons, List.length_nil, List.take_succ_cons, List.take_zero, List.cons.injEq, and_true, Option.getD_some]
    constructor
    · rintro ⟨_, e⟩; exact ⟨h, e⟩
    · rintro ⟨_, e⟩; exact ⟨by omega, e⟩
  · rw [decide_eq_false (show ¬ a + [x].length ≤ t.length by simp; omega), decide_eq_false (p := a < t.length ∧ t.getD a 0 = x) (fun e => h e.1)]
    rfl
theorem diva_c (g : Nat) (t : List UInt8) (a : Nat) (e0 : Int) (pl gr : Nat) (tl : List Value) (ht : t.length ≤ 1073741824) (ha : a ≤ t.length) : Mut Tryz.prog 97 #[Pv g 0] [RB g t a e0 pl gr tl] (fun _ : Unit => ivV3 (ivM t a)) (fun _ => [RB g t (ivE t a) e0 pl gr tl]) := by
  intro w0 B R w h
  replace h : Sat w0 B (RB g t a e0 pl gr tl :: R) w := h
  have hl := numM_le t a ha
  have hnc := ddig_c g t a e0 pl gr tl ht ha
  have hiv : ivM t a = (let l := numM t a
    let h := if l.2 < t.length ∧ t.getD l.2 0 = 44 then numM t (l.2 + 1) else l
    if l.1 < 0 ∨ 255 < l.1 ∨ 255 < h.1 ∨ (0 ≤ h.1 ∧ h.1 < l.1) then none
    else if t.length < h.2 + 2 ∨ (t.drop h.2).take 2 ≠ [92, 125] then none
    else some (l.1.toNat, h.1, h.2 + 2)) := rfl
  have hia : ivA t a = (if (numM t a).2 < t.length ∧ t.getD (numM t a).2 0 = 44 then numM t ((numM t a).2 + 1) else numM t a).2 := rfl
  have hie : ivE t a = match ivM t a with
    | none => ivA t a
    | some (_, _, n) => n := rfl
  rw [hie]
  dsimp only at hiv
  generalize numM t a = l at hl hnc hiv hia
  obtain ⟨l1, l2⟩ := l
  dsimp only at hl hnc hiv hia
  have hsc := dsee_c g t l2 e0 pl gr tl [44] ht (by omega) (by simp)
  rw [see_one] at hsc
  have hd2 := fun (hx : l2 + 1 ≤ t.length) => ddig_c g t (l2 + 1) e0 pl gr tl ht hx
  have hl2 := fun (hx : l2 + 1 ≤ t.length) => numM_le t (l2 + 1) hx
  refine calls_of_ES TB Tryz.func97 rfl _ Tryz.ntmps97 rfl h ?_; refine .go ?_; (repeat constructor); refine .as_ ?_; refine .as_ ?_; refine .as_ ?_; refine .go ?_; (repeat constructor); refine .mv ?_; refine EL.callM1 rfl rfl rfl ent113 rfl hnc (by repeat constructor) ?_; refine .as_ ?_; refine .go ?_; (repeat constructor); refine .mv ?_; refine .as_ ?_; refine .go ?_; (repeat constructor); refine .mv ?_; refine EL.callM1 rfl rfl rfl ent76 rfl hsc (by repeat constructor) ?_; refine .go ?_; repeat constructor
  obtain ⟨hh, hhe⟩ : ∃ hh, hh = (if l2 < t.length ∧ t.getD l2 0 = 44 then numM t (l2 + 1) else (l1, l2)) := ⟨_, rfl⟩
  rw [← hhe] at hiv hia
  have hhl : -1 ≤ hh.1 ∧ hh.1 ≤ 256 ∧ hh.2 ≤ t.length := by
    rw [hhe]
    split
    · rename_i hx; have := hl2 (by omega); omega
    · omega
  refine ES.cutC (X := Unit) (fun _ => [(0, Pv g 0), (2, Iv 0), (3, Iv 0), (4, .bool false), (5, Iv l1), (6, Iv hh.1)]) (fun _ => RB g t hh.2 e0 pl gr tl :: R) ?_ (fun _ => ?_)
  · refine ES.condD rfl (fun hc => ?_) (fun hc => ?_)
    · rw [if_pos hc] at hhe
      rw [hhe]
      refine .go ?_; (repeat constructor); refine .mv ?_; refine .nc ?_; refine .fa ?_; refine .lb ?_; refine .a1 ?_; refine .nc ?_; refine .fa ?_
      (refine EL.storeB rfl rfl rfl rfl rfl rfl (by repeat constructor) (by simp) ?_; refine EL.blkEq (g := g) (by repeat constructor) (congrArg (fun a => Obj.cells a 127 (0, 0)) (rd_set1 _ _ _ _ _ _ _)) ?_)
      refine .go ?_; (repeat constructor); refine .mv ?_; refine EL.callM1 rfl rfl rfl ent113 rfl (hd2 (by omega)) (by repeat constructor) ?_; refine .as_ ?_; refine .go ?_; repeat constructor
      exact .cy ()
    · rw [if_neg hc] at hhe
      rw [hhe]
      refine .go ?_; repeat constructor
      exact .cy ()
  obtain ⟨h1, h2⟩ := hh
  dsimp only at hiv hia hhl ⊢
  rw [hia]
  have hs2 := dsee_c g t h2 e0 pl gr tl [92, 125] ht (by omega) (by simp)
  refine .go ?_; repeat constructor
  refine EL.cutX (X := Unit) (fun _ => [(0, Pv g 0), (5, Iv l1), (6, Iv h1), (44, .bool (decide (l1 < 0 ∨ 255 < l1 ∨ 255 < h1 ∨ (0 ≤ h1 ∧ h1 < l1)) || !seeM t h2 [92, 125]))]) (fun _ => RB g t h2 e0 pl gr tl :: R) ?_ (fun _ => ?_)
  · refine .go ?_; (repeat constructor); refine .mv ?_; refine .ls ?_; refine .mv ?_
    first | refine EL.splitD (d := 23) rfl (fun hp23 => ?_) (fun hp23 => ?_) | refine EL.splitN (d := 23) rfl (fun hp23 => ?_) (fun hp23 => ?_) | refine EL.splitB (d := 23) rfl (fun hp23 => ?_) (fun hp23 => ?_)
    · refine .ps ?_; refine .ps ?_; refine .pt ?_; refine .mv ?_; refine .ps ?_; refine .ps ?_; refine .pt ?_; refine .mv ?_; refine .ps ?_; refine .ps ?_; refine .ps ?_; refine .ps ?_; refine .ps ?_; refine .ps ?_; refine .ps ?_; refine .pt ?_; refine .mv ?_; refine .ps ?_; refine .ps ?_; refine .ps ?_; refine .pt ?_
      exact .dx () ⟨rfl, rfl, rfl, getA rfl (congrArg Value.bool (by first | (rw [decide_eq_true (by omega)]; rfl) | (rw [decide_eq_false (by omega)]; rfl))), trivial⟩
    · refine .mv ?_; refine .gt_ ?_; refine .pf ?_; refine .mv ?_
      first | refine EL.splitD (d := 27) rfl (fun hp27 => ?_) (fun hp27 => ?_) | refine EL.splitN (d := 27) rfl (fun hp27 => ?_) (fun hp27 => ?_) | refine EL.splitB (d := 27) rfl (fun hp27 => ?_) (fun hp27 => ?_)
      · refine .ps ?_; refine .ps ?_; refine .pt ?_; refine .mv ?_; refine .ps ?_; refine .ps ?_; refine .ps ?_; refine .ps ?_; refine .ps ?_; refine .ps ?_; refine .ps ?_; refine .pt ?_; refine .mv ?_; refine .ps ?_; refine .ps ?_; refine .ps ?_; refine .pt ?_
        exact .dx () ⟨rfl, rfl, rfl, getA rfl (congrArg Value.bool (by first | (rw [decide_eq_true (by omega)]; rfl) | (rw [decide_eq_false (by omega)]; rfl))), trivial⟩
      · refine .mv ?_; refine .gt_ ?_; refine .pf ?_; refine .mv ?_
        first | refine EL.splitD (d := 31) rfl (fun hp31 => ?_) (fun hp31 => ?_) | refine EL.splitN (d := 31) rfl (fun hp31 => ?_) (fun hp31 => ?_) | refine EL.splitB (d := 31) rfl (fun hp31 => ?_) (fun hp31 => ?_)
        · refine .ps ?_; refine .ps ?_; refine .ps ?_; refine .ps ?_; refine .ps ?_; refine .ps ?_; refine .ps ?_; refine .pt ?_; refine .mv ?_; refine .ps ?_; refine .ps ?_; refine .ps ?_; refine .pt ?_
          exact .dx () ⟨rfl, rfl, rfl, getA rfl (congrArg Value.bool (by first | (rw [decide_eq_true (by omega)]; rfl) | (rw [decide_eq_false (by omega)]; rfl))), trivial⟩
        · refine .mv ?_; refine .ni ?_; refine .mv ?_
          first | refine EL.splitD (d := 34) rfl (fun hp34 => ?_) (fun hp34 => ?_) | refine EL.splitN (d := 34) rfl (fun hp34 => ?_) (fun hp34 => ?_) | refine EL.splitB (d := 34) rfl (fun hp34 => ?_) (fun hp34 => ?_)
          · refine .mv ?_; refine .mv ?_; refine .ls ?_; refine .pt ?_; refine .pf ?_; refine .mv ?_
            first | refine EL.splitD (d := 40) rfl (fun hp40 => ?_) (fun hp40 => ?_) | refine EL.splitN (d := 40) rfl (fun hp40 => ?_) (fun hp40 => ?_) | refine EL.splitB (d := 40) rfl (fun hp40 => ?_) (fun hp40 => ?_)
            · refine .ps ?_; refine .ps ?_; refine .ps ?_; refine .pt ?_
              exact .dx () ⟨rfl, rfl, rfl, getA rfl (congrArg Value.bool (by first | (rw [decide_eq_true (by omega)]; rfl) | (rw [decide_eq_false (by omega)]; rfl))), trivial⟩
            · refine .mv ?_; refine EL.callM1 rfl rfl rfl ent76 rfl hs2 (by repeat constructor) ?_; refine .nt ?_; refine .pf ?_
              exact .dx () ⟨rfl, rfl, rfl, getA rfl (congrArg Value.bool (by first | (rw [decide_eq_true (by omega)]; rfl) | (rw [decide_eq_false (by omega)]; rfl))), trivial⟩
          · refine .ps ?_; refine .ps ?_; refine .ps ?_; refine .pf ?_; refine .pf ?_; refine .mv ?_; refine .mv ?_; refine EL.callM1 rfl rfl rfl ent76 rfl hs2 (by repeat constructor) ?_; refine .nt ?_; refine .pf ?_
            exact .dx () ⟨rfl, rfl, rfl, getA rfl (congrArg Value.bool (by first | (rw [decide_eq_true (by omega)]; rfl) | (rw [decide_eq_false (by omega)]; rfl))), trivial⟩
  refine ES.cond rfl (fun hb => ?_) (fun hb => ?_)
  · have hno : ivM t a = none := by
      rw [hiv]
      rcases Bool.or_eq_true_iff.1 hb with hx | hx
      · rw [if_pos (of_decide_eq_true hx)]
      · split
        · rfl
        · rw [Bool.not_eq_true'] at hx
          unfold seeM at hx
          rw [if_pos]
          by_cases hq : t.length < h2 + 2
          · exact .inl hq
          · right
            intro e
            rw [decide_eq_true (show h2 + ([92, 125] : List UInt8).length ≤ t.length by simp; omega), decide_eq_true (show List.take ([92, 125] : List UInt8).length (List.drop h2 t) = [92, 125] from e)] at hx
            cases hx
    rw [hno]
    refine .go ?_; (repeat constructor); refine .as_ ?_; refine .as_ ?_; refine .as_ ?_; refine .go ?_; repeat constructor
    exact PX.ret rfl Tryz.results97 (.cons (.tmp rfl) (.cons (.tmp rfl) (.cons (.tmp rfl) .nil))) (fun w hs => ⟨(), rfl, hs.ent (.i (by repeat constructor))⟩)
  · rw [Bool.or_eq_false_iff, decide_eq_false_iff_not, Bool.not_eq_false'] at hb
    have hs := hb.2
    unfold seeM at hs
    rw [Bool.and_eq_true, decide_eq_true_eq, decide_eq_true_eq] at hs
    have hle : h2 + 2 ≤ t.length := hs.1
    have hyes : ivM t a = some (l1.toNat, h1, h2 + 2) := by
      rw [hiv, if_neg hb.1, if_neg]
      rintro (hx | hx)
      · omega
      · exact hx hs.2
    rw [hyes]
    dsimp only
    have hl1 : ((l1.toNat : Nat) : Int) = l1 := by omega
    refine .go ?_; (repeat constructor); refine .mv ?_; refine .nc ?_; refine .fa ?_; refine .lb ?_; refine EL.addN (n := 2) rfl rfl rfl rfl rfl (by omega) ?_; refine .nc ?_; refine .fa ?_
    (refine EL.storeB rfl rfl rfl rfl rfl rfl (by repeat constructor) (by simp) ?_; refine EL.blkEq (g := g) (by repeat constructor) (congrArg (fun a => Obj.cells a 127 (0, 0)) (rd_set1 _ _ _ _ _ _ _)) ?_)
    refine .go ?_; (repeat constructor); refine .mv ?_; refine .mv ?_; refine .as_ ?_; refine .as_ ?_; refine .as_ ?_; refine .go ?_; repeat constructor
    exact PX.ret rfl Tryz.results97 (.cons (.tmp rfl) (.cons (.tmp rfl) (.cons (.tmp rfl) .nil))) (fun w hs => ⟨(), by unfold ivV3; dsimp only; rw [hl1]; rfl, hs.ent (.i (by repeat constructor))⟩)
theorem dbytes_c (b : UInt8) (w : World) : Pure Tryz.prog 96 #[Uv b] (fun _ : Unit => .agg (reCells (.byte (ofS [b])) (.slice none 0 0)).toArray) (fun _ => []) w := by
  refine calls_of_ES TB Tryz.func96 rfl _ Tryz.ntmps96 rfl (Sat.start w) ?_; refine .go ?_; (repeat constructor); (refine .al ?_; intro g2); refine .go ?_; (repeat constructor); refine .mv ?_; (refine .b1 ?_; intro b4); refine EL.bytesS (bs := [b]) rfl rfl rfl rfl rfl rfl rfl rfl rfl (by repeat constructor) ?_
  refine EL.callP rfl rfl rfl ent112 rfl (rof_c [b] (by show 1 ≤ 140737488351232; omega)) ?_
  refine EL.buildS (reCells (.byte (ofS [b])) (.slice none 0 0)).toArray rfl rfl rfl rfl rfl (by kernel_rfl) rfl ?_; refine .sa ?_; refine .go ?_; repeat constructor
  exact PX.ret rfl Tryz.results96 (.cons (.blkA rfl rfl rfl (by repeat constructor) rfl) .nil) (fun w hs => ⟨(), rfl, hs.ent (.nil _)⟩)
theorem dgrown_c (g : Nat) (t : List UInt8) (r : DR) (n : Int) (a : Nat) (hsh : r.closed.length = 10) (h1 : -1073741824 ≤ r.size + n) (h2 : r.size + n ≤ 1073741824) : Mut Tryz.prog 94 #[Pv g 0, Iv n, Iv (a : Nat)] [DRB g t r] (fun _ : Unit => .tuple #[]) (fun _ => [DRB g t (r.grown n a)]) := by
  intro w0 B R w h
  obtain ⟨at_, e0, pl, gr, sh, sz⟩ := r
  dsimp only at hsh h1 h2
  replace h : Sat w0 B (RB g t at_ e0 pl gr (CT sh sz) :: R) w := h
  have hfc := dfail_c g t at_ e0 pl gr (CT sh (sz + n)) 13 a
  refine calls_of_ES TB Tryz.func94 rfl _ Tryz.ntmps94 rfl h ?_; refine .go ?_; (repeat constructor); refine .mv ?_; refine .nc ?_; refine .fa ?_; refine EL.loadB rfl rfl rfl rfl rfl (by repeat constructor) (rd_size_get t at_ e0 pl gr sh sz hsh) ?_; refine .mv ?_; refine EL.add (sz + n) rfl rfl rfl rfl (wrap_i64 _ (by omega) (by omega)) ?_; refine .nc ?_; refine .fa ?_
  (refine EL.storeB rfl rfl rfl rfl rfl rfl (by repeat constructor) (by rw [rd_len _ _ _ _ _ _ _ hsh]; decide) ?_; refine EL.blkEq (g := g) (by repeat constructor) (congrArg (fun a => Obj.cells a 127 (0, 0)) (rd_size_set t at_ e0 pl gr sh sz (sz + n) hsh)) ?_)
  refine .go ?_; (repeat constructor); refine .mv ?_; refine .nc ?_; refine .fa ?_; refine EL.loadB rfl rfl rfl rfl rfl (by repeat constructor) (rd_size_get t at_ e0 pl gr sh (sz + n) hsh) ?_; refine .gt_ ?_; refine .go ?_; repeat constructor
  refine ES.condD rfl (fun hgt => ?_) (fun hle => ?_)
  · have hg : DR.grown ⟨at_, e0, pl, gr, sh, sz⟩ n a = ⟨at_, if e0 = 0 then 13 else e0, if e0 = 0 then a else pl, gr, sh, sz + n⟩ := by
      unfold DR.grown
      rw [if_pos (by simp only; omega)]
      unfold DR.fail
      dsimp only
      split <;> rfl
    rw [hg]
    refine .go ?_; (repeat constructor); refine .mv ?_; refine .mv ?_; refine EL.callM1 rfl rfl rfl ent75 rfl hfc (by repeat constructor) ?_; refine .go ?_; repeat constructor
    exact PX.end rfl Tryz.results94 .nil (fun w hs => ⟨(), rfl, hs.ent (.i (by repeat constructor))⟩)
  · have hg : DR.grown ⟨at_, e0, pl, gr, sh, sz⟩ n a = ⟨at_, e0, pl, gr, sh, sz + n⟩ := by
      unfold DR.grown
      rw [if_neg (by simp only; omega)]
    rw [hg]
    refine .go ?_; repeat constructor
    exact PX.end rfl Tryz.results94 .nil (fun w hs => ⟨(), rfl, hs.ent (.i (by repeat constructor))⟩)
theorem dfail_r (g : Nat) (t : List UInt8) (r : DR) (e : Int) (a : Nat) : Mut Tryz.prog 75 #[Pv g 0, Iv e, Iv (a : Nat)] [DRB g t r] (fun _ : Unit => .tuple #[]) (fun _ => [DRB g t (r.fail e a)]) := by
  obtain ⟨at_, e0, pl, gr, sh, sz⟩ := r
  have hg : DR.fail ⟨at_, e0, pl, gr, sh, sz⟩ e a = ⟨at_, if e0 = 0 then e else e0, if e0 = 0 then a else pl, gr, sh, sz⟩ := by
    unfold DR.fail
    dsimp only
    split <;> rfl
  rw [hg]
  exact dfail_c g t at_ e0 pl gr (CT sh sz) e a
end Go.Proofs.YthcbjbkheodejaaGreat
namespace Go.Proofs.YthcbjbkheodejaaGreat
open Go Go.RowKit Sl
set_option maxRecDepth 100000
set_option maxHeartbeats 8000000
attribute [local irreducible] ES EL PX wps
inductive LeafC (t : List UInt8) (r : DR) (first : Bool) : RE × DR → Prop
  | byte (s : BS) (a : Nat) (hs : r.size + 1 ≤ 256) (h1 : r.at_ < a) (h2 : a ≤ t.length) : LeafC t r first (.byte s, { r.to a with size := r.size + 1 })
  | back (k a : Nat) (hk : 1 ≤ k ∧ k ≤ 9) (hc : r.closed.getD k false = true) (hs : r.size + 1 ≤ 256) (h1 : r.at_ < a) (h2 : a ≤ t.length) : LeafC t r first (.back k, { r.to a with size := r.size + 1 })
  | bol (a : Nat) (hf : first = true) (h1 : r.at_ < a) (h2 : a ≤ t.length) : LeafC t r first (.bol, r.to a)
  | eol (a : Nat) (h1 : r.at_ < a) (h2 : a ≤ t.length) (h3 : a = t.length ∨ see2 t a 92 41 = true) : LeafC t r first (.eol, r.to a)
theorem grown_ok {r : DR} (h : r.e = 0) {n : Int} {a : Nat} (hg : (r.grown n a).e = 0) : r.size + n ≤ 256 ∧ r.grown n a = { r with size := r.size + n } := by
  unfold DR.grown at hg ⊢
  by_cases hb : 256 < r.size + n
  · rw [if_pos hb, fail_ok (r := { r with size := r.size + n }) h] at hg
    exact absurd hg (by show ¬ (13 : Int) = 0; decide)
  · rw [if_neg hb]
    exact ⟨by omega, rfl⟩
theorem fail_no {r : DR} (h : r.e = 0) {e : Int} (he : e ≠ 0) (a : Nat) : (r.fail e a).e ≠ 0 := by rw [fail_ok h]; exact he
theorem grown_keeps {r : DR} (h : r.e ≠ 0) (n : Int) (a : Nat) : (r.grown n a).e ≠ 0 := by rw [grown_bad h]; exact h
theorem lone_c {t : List UInt8} {r : DR} {first : Bool} (h : r.e = 0) (s : BS) {a b : Nat} (hg : ((r.to a).grown 1 b).e = 0) (h1 : r.at_ < a) (h2 : a ≤ t.length) : LeafC t r first (.byte s, (r.to a).grown 1 b) := by
  obtain ⟨g1, g2⟩ := grown_ok (r := r.to a) h hg
  rw [g2]
  exact .byte s a g1 h1 h2
theorem esc_cases (t : List UInt8) (r : DR) (first : Bool) (h : r.e = 0) (hlt : r.at_ < t.length) (he : (dEsc t r).2.e = 0) : LeafC t r first (dEsc t r) := by
  unfold dEsc at he ⊢
  by_cases c0 : r.at_ + 1 = t.length
  · rw [if_pos c0] at he
    exact absurd he (fail_no h (by decide) _)
  rw [if_neg c0] at he ⊢
  dsimp only at he ⊢
  by_cases c1 : (t.getD (r.at_ + 1) 0).toNat = 110
  · rw [if_pos c1] at he ⊢
    exact lone_c h _ he (by omega) (by omega)
  rw [if_neg c1] at he ⊢
  by_cases c2 : 49 ≤ (t.getD (r.at_ + 1) 0).toNat ∧ (t.getD (r.at_ + 1) 0).toNat ≤ 57
  · rw [if_pos c2] at he ⊢
    by_cases c3 : (r.to (r.at_ + 2)).closed.getD ((t.getD (r.at_ + 1) 0).toNat - 48) false = true
    · rw [if_pos c3] at he ⊢
      obtain ⟨g1, g2⟩ := grown_ok (r := r.to (r.at_ + 2)) h he
      rw [g2]
      exact .back _ _ (by omega) c3 g1 (by omega) (by omega)
    · rw [if_neg c3] at he
      exact absurd he (grown_keeps (fail_no (r := r.to (r.at_ + 2)) h (by decide) _) _ _)
  rw [if_neg c2] at he ⊢
  by_cases c3 : isAln (t.getD (r.at_ + 1) 0) = true
  · rw [if_pos c3] at he
    exact absurd he (grown_keeps (fail_no (r := r.to (r.at_ + 2)) h (by decide) _) _ _)
  rw [if_neg c3] at he ⊢
  exact lone_c h _ he (by omega) (by omega)
theorem leaf_cases (t : List UInt8) (r : DR) (first : Bool) (h : r.e = 0) (hlt : r.at_ < t.length) (he : (dLeaf t r first).2.e = 0) : LeafC t r first (dLeaf t r first) := by
  unfold dLeaf at he ⊢
  dsimp only at he ⊢
  by_cases c0 : see2 t r.at_ 92 123 = true ∨ see2 t r.at_ 92 125 = true
  · rw [if_pos c0] at he
    exact absurd he (fail_no h (by decide) _)
  rw [if_neg c0] at he ⊢
  by_cases c1 : (t.getD r.at_ 0).toNat = 92
  · rw [if_pos c1] at he ⊢
    exact esc_cases t r first h hlt he
  rw [if_neg c1] at he ⊢
  by_cases c2 : (t.getD r.at_ 0).toNat = 91
  · rw [if_pos c2] at he ⊢
    by_cases c3 : (brackM t r.at_).e ≠ 0
    · rw [if_pos c3] at he
      exact absurd he (fail_no h c3 _)
    rw [if_neg c3] at he ⊢
    have := brack_next t r.at_ (by simpa using c3)
    exact lone_c h _ he (by omega) this.2
  rw [if_neg c2] at he ⊢
  by_cases c3 : (t.getD r.at_ 0).toNat = 94 ∧ first = true
  · rw [if_pos c3]
    exact .bol _ c3.2 (by omega) (by omega)
  rw [if_neg c3] at he ⊢
  by_cases c4 : (t.getD r.at_ 0).toNat = 36 ∧ (r.at_ + 1 = t.length ∨ see2 t (r.at_ + 1) 92 41 = true)
  · rw [if_pos c4]
    exact .eol _ (by omega) (by omega) c4.2
  rw [if_neg c4] at he ⊢
  by_cases c5 : (t.getD r.at_ 0).toNat = 46
  · rw [if_pos c5] at he ⊢
    exact lone_c h _ he (by omega) (by omega)
  rw [if_neg c5] at he ⊢
  exact lone_c h _ he (by omega) (by omega)
mutual
/-- Trees whose positions can be counted. -/
def RE.pok : RE → Prop
  | .cat ks => ks.length ≤ 1048576 ∧ posL ks ≤ 131072 ∧ pokL ks
  | .group _ k => k.pok
  | .rep lo hi k => posR k * timesM lo hi ≤ 131072 ∧ k.pok
  | _ => True
def pokL : List RE → Prop
  | [] => True
  | k :: ks => k.pok ∧ pokL ks
end
structure DOk (t : List UInt8) (r : DR) : Prop where
  shut : r.closed.length = 10
  lo : 0 ≤ r.size
  hi : r.size ≤ 256
  at_ : r.at_ ≤ t.length
structure DOk9 (t : List UInt8) (r : DR) : Prop extends DOk t r where
  groups : r.groups ≤ 9
structure PartOk (t : List UInt8) (r : DR) (y : RE × DR) : Prop where
  ok : DOk9 t y.2
  pok : y.1.pok
  size : y.2.size = r.size + posR y.1
  at_ : r.at_ < y.2.at_
theorem leaf_ok {t : List UInt8} {r : DR} {first : Bool} {y : RE × DR} (hr : DOk9 t r) (h : LeafC t r first y) : PartOk t r y := by
  obtain ⟨⟨q1, q2, q3, q4⟩, q5⟩ := hr
  cases h with
  | byte s a hs h1 h2 => exact ⟨⟨⟨q1, by show 0 ≤ r.size + 1; omega, hs, h2⟩, q5⟩, by simp [RE.pok], by simp [posR], h1⟩
  | back k a hk hc hs h1 h2 => exact ⟨⟨⟨q1, by show 0 ≤ r.size + 1; omega, hs, h2⟩, q5⟩, by simp [RE.pok], by simp [posR], h1⟩
  | bol a hf h1 h2 => exact ⟨⟨⟨q1, q2, q3, h2⟩, q5⟩, by simp [RE.pok], by simp [posR, DR.to], h1⟩
  | eol a h1 h2 h3 => exact ⟨⟨⟨q1, q2, q3, h2⟩, q5⟩, by simp [RE.pok], by simp [posR, DR.to], h1⟩
theorem times_le {lo : Nat} {hi : Int} (h1 : lo ≤ 255) (h2 : hi ≤ 255) : timesM lo hi ≤ 255 := by
  unfold timesM; split <;> omega
theorem rep_pok {p : RE} {lo : Nat} {hi : Int} (hp : p.pok) (h : posR p ≤ 256) (h1 : lo ≤ 255) (h2 : hi ≤ 255) : (RE.rep lo hi p).pok ∧ posR (.rep lo hi p) ≤ 65536 := by
  have hm : posR p * timesM lo hi ≤ 256 * 255 := Nat.mul_le_mul h (times_le h1 h2)
  rw [RE.pok, posR]
  exact ⟨⟨by omega, hp⟩, by omega⟩
theorem reps_ok {t : List UInt8} : ∀ (n : Nat) (p : RE) (r : DR), r.e = 0 → DOk9 t r → p.pok → (posR p : Int) ≤ r.size → (dReps t n p r).2.e = 0 →
    DOk9 t (dReps t n p r).2 ∧ (dReps t n p r).1.pok ∧ (dReps t n p r).2.size - posR (dReps t n p r).1 = r.size - posR p ∧ r.at_ ≤ (dReps t n p r).2.at_
  | 0, p, r, _, hr, hp, _, _ => by rw [dReps]; exact ⟨hr, hp, rfl, Nat.le_refl _⟩
  | n + 1, p, r, h, hr, hp, hs, he => by
    have stop : dReps t (n + 1) p r = (p, r) → DOk9 t (dReps t (n + 1) p r).2 ∧ (dReps t (n + 1) p r).1.pok ∧ (dReps t (n + 1) p r).2.size - posR (dReps t (n + 1) p r).1 = r.size - posR p ∧ r.at_ ≤ (dReps t (n + 1) p r).2.at_ := fun e => by rw [e]; exact ⟨hr, hp, rfl, Nat.le_refl _⟩
    have go : ∀ (lo : Nat) (hi : Int) (a b : Nat), lo ≤ 255 → hi ≤ 255 → r.at_ ≤ a → a ≤ t.length → dReps t (n + 1) p r = dReps t n (.rep lo hi p) ((r.to a).grown ((posR (.rep lo hi p) : Int) - posR p) b) →
      DOk9 t (dReps t (n + 1) p r).2 ∧ (dReps t (n + 1) p r).1.pok ∧ (dReps t (n + 1) p r).2.size - posR (dReps t (n + 1) p r).1 = r.size - posR p ∧ r.at_ ≤ (dReps t (n + 1) p r).2.at_ := by
      intro lo hi a b l1 l2 ha1 ha2 e
      have hg : ((r.to a).grown ((posR (.rep lo hi p) : Int) - posR p) b).e = 0 := by
        by_cases hx : ((r.to a).grown ((posR (.rep lo hi p) : Int) - posR p) b).e = 0
        · exact hx
        · rw [e, reps_bad _ _ _ hx] at he
          exact absurd he hx
      obtain ⟨g1, g2⟩ := grown_ok (r := r.to a) h hg
      have g1 : r.size + ((posR (.rep lo hi p) : Int) - posR p) ≤ 256 := g1
      have hhi := hr.hi
      obtain ⟨p1, p2⟩ := rep_pok hp (by omega) l1 l2
      rw [g2] at e
      rw [e] at he ⊢
      obtain ⟨i1, i2, i3, i4⟩ := reps_ok n (.rep lo hi p) { r.to a with size := r.size + ((posR (.rep lo hi p) : Int) - posR p) } h ⟨⟨hr.shut, by show 0 ≤ r.size + ((posR (.rep lo hi p) : Int) - posR p); omega, g1, ha2⟩, hr.groups⟩ p1 (by show ((posR (.rep lo hi p) : Nat) : Int) ≤ r.size + ((posR (.rep lo hi p) : Int) - posR p); omega) he
      refine ⟨i1, i2, i3.trans ?_, Nat.le_trans ha1 i4⟩
      show r.size + ((posR (.rep lo hi p) : Int) - posR p) - posR (.rep lo hi p) = r.size - posR p
      omega
    have hat := hr.at_
    by_cases c1 : (decide (r.at_ < t.length) && decide ((t.getD r.at_ 0).toNat = 42)) = true
    · have hlt : r.at_ < t.length := by rw [Bool.and_eq_true, decide_eq_true_eq] at c1; exact c1.1
      exact go 0 (-1) (r.at_ + 1) r.at_ (by omega) (by omega) (by omega) (by omega) (by rw [dReps, if_neg (by simp [h]), if_pos c1])
    by_cases c2 : see2 t r.at_ 92 123 = true
    · cases hv : ivM t (r.at_ + 2) with
      | none =>
        exfalso
        rw [dReps, if_neg (by simp [h]), if_neg c1, if_pos c2, hv] at he
        have he : ((r.to (ivA t (r.at_ + 2))).fail 9 r.at_).e = 0 := he
        exact fail_no (r := r.to (ivA t (r.at_ + 2))) h (by decide) _ he
      | some y =>
        obtain ⟨lo, hi, a⟩ := y
        have hl := iv_le hv
        exact go lo hi a r.at_ hl.1 hl.2.2.1 (by omega) (by omega) (by rw [dReps, if_neg (by simp [h]), if_neg c1, if_pos c2, hv])
    · exact stop (by rw [dReps, if_neg (by simp [h]), if_neg c1, if_neg c2])
theorem full_ok {t : List UInt8} {r : DR} {y : RE × DR} (h0 : 0 ≤ r.size) (he : y.2.e = 0) (h : PartOk t r y) (hf : (dFull t y).2.e = 0) : PartOk t r (dFull t y) := by
  unfold dFull at hf ⊢
  split
  · exact h
  · rename_i hx
    rw [if_neg hx] at hf
    obtain ⟨i1, i2, i3, i4⟩ := reps_ok t.length y.1 y.2 he h.ok h.pok (by have := h.size; omega) hf
    exact ⟨i1, i2, by have := h.size; omega, Nat.lt_of_lt_of_le h.at_ i4⟩
structure RowOk (t : List UInt8) (ks : List RE) (r : DR) (x : RE × DR) : Prop where
  ok : DOk9 t x.2
  at_ : r.at_ ≤ x.2.at_
  tree : ∃ ks2, x.1 = .cat (ks ++ ks2) ∧ pokL ks2 ∧ ks2.length + r.at_ ≤ x.2.at_ ∧ x.2.size = r.size + posL ks2
theorem part_ok {t : List UInt8} {n : Nat} (ih : ∀ (in_ : Bool) (op : Nat) (ks : List RE) (r : DR), r.e = 0 → DOk9 t r → t.length < n + r.at_ → (dRow t n in_ op ks r).2.e = 0 → RowOk t ks r (dRow t n in_ op ks r))
    {r : DR} (first : Bool) (h : r.e = 0) (hr : DOk9 t r) (hlt : r.at_ < t.length) (hn : t.length < n + 1 + r.at_) (hl : t.length ≤ 65536) (he : (dPart t n r first).2.e = 0) : PartOk t r (dPart t n r first) := by
  unfold dPart at he ⊢
  by_cases c0 : see2 t r.at_ 92 40 = true
  · rw [if_pos c0] at he ⊢
    have h2 := ((see2_iff ..).1 c0).1
    by_cases c1 : r.groups = 9
    · rw [if_pos c1] at he
      exact absurd he (fail_no h (by decide) _)
    rw [if_neg c1] at he ⊢
    have hg := hr.groups
    obtain ⟨k1, k2, ks2, k3, k4, k5, k6⟩ := ih true r.at_ [] { r with groups := r.groups + 1, at_ := r.at_ + 2 } h ⟨⟨hr.shut, hr.lo, hr.hi, h2⟩, by show r.groups + 1 ≤ 9; omega⟩ (by show t.length < n + (r.at_ + 2); omega) he
    generalize dRow t n true r.at_ [] { r with groups := r.groups + 1, at_ := r.at_ + 2 } = x at *
    obtain ⟨x1, x2⟩ := x
    dsimp only at *
    rw [List.nil_append] at k3
    subst k3
    have hlo := hr.lo
    have hk1 := k1.hi
    have hka := k1.at_
    refine ⟨⟨⟨by simp [k1.shut], k1.lo, k1.hi, k1.at_⟩, k1.groups⟩, ?_, ?_, by show r.at_ < x2.at_; omega⟩
    · show (RE.group _ (.cat ks2)).pok
      rw [RE.pok, RE.pok]
      exact ⟨by omega, by omega, k4⟩
    · show x2.size = r.size + ((posR (.group (r.groups + 1) (.cat ks2)) : Nat) : Int)
      rw [posR, posR]
      exact k6
  · rw [if_neg c0] at he ⊢
    exact leaf_ok hr (leaf_cases t r first h hlt he)
theorem row_ok {t : List UInt8} (hl : t.length ≤ 65536) : ∀ (n : Nat) (in_ : Bool) (op : Nat) (ks : List RE) (r : DR), r.e = 0 → DOk9 t r → t.length < n + r.at_ → (dRow t n in_ op ks r).2.e = 0 → RowOk t ks r (dRow t n in_ op ks r)
  | 0, in_, op, ks, r, h, hr, hn, he => by have := hr.at_; omega
  | n + 1, in_, op, ks, r, h, hr, hn, he => by
    have hat := hr.at_
    rw [dRow_step, if_neg (by simp [h])] at he ⊢
    by_cases c0 : r.at_ = t.length
    · rw [if_pos c0] at he ⊢
      cases in_ with
      | true => exact absurd he (fail_no h (by decide) _)
      | false => exact ⟨hr, Nat.le_refl _, [], by rw [List.append_nil], trivial, by simp, by simp [posL]⟩
    rw [if_neg c0] at he ⊢
    by_cases c1 : see2 t r.at_ 92 41 = true
    · rw [if_pos c1] at he ⊢
      have h2 := ((see2_iff ..).1 c1).1
      cases in_ with
      | false => exact absurd he (show (r.fail 10 r.at_).e ≠ 0 from fail_no h (by decide) _)
      | true => exact ⟨⟨⟨hr.shut, hr.lo, hr.hi, h2⟩, hr.groups⟩, by show r.at_ ≤ r.at_ + 2; omega, [], by rw [List.append_nil], trivial, by show 0 + r.at_ ≤ r.at_ + 2; omega, by simp [posL, DR.to]⟩
    rw [if_neg c1] at he ⊢
    have e1 : (dFull t (dPart t n r (decide (ks = [])))).2.e = 0 := by
      by_cases hx : (dFull t (dPart t n r (decide (ks = [])))).2.e = 0
      · exact hx
      · rw [row_bad _ _ _ _ _ hx] at he; exact absurd he hx
    have e0 : (dPart t n r (decide (ks = []))).2.e = 0 := by
      by_cases hx : (dPart t n r (decide (ks = []))).2.e = 0
      · exact hx
      · rw [full_bad hx] at e1; exact absurd e1 hx
    have hp := full_ok hr.lo e0 (part_ok (row_ok hl n) (decide (ks = [])) h hr (by omega) hn hl e0) e1
    generalize dFull t (dPart t n r (decide (ks = []))) = z at *
    have hat2 := hp.at_
    obtain ⟨k1, k2, ks2, k3, k4, k5, k6⟩ := row_ok hl n in_ op (ks ++ [z.1]) z.2 e1 hp.ok (by omega) he
    have hsz := hp.size
    refine ⟨k1, by omega, z.1 :: ks2, by rw [k3, List.append_assoc]; rfl, ⟨hp.pok, k4⟩, by rw [List.length_cons]; omega, by rw [posL]; omega⟩
end Go.Proofs.YthcbjbkheodejaaGreat
namespace Go.Proofs.YthcbjbkheodejaaGreat
open Go Go.RowKit Sl
set_option maxRecDepth 100000
set_option maxHeartbeats 8000000
attribute [local irreducible] ES EL PX wps
abbrev PP (g fg fcap : Nat) (p : PS) (tv : FV) (rv : List (Frame × FV)) : HA := HA.pack (PH g fg fcap p tv rv)
theorem Sat.packL {w0 w : World} {B : Nat} {T R : List HA} (h : Sat w0 B (T ++ R) w) : Sat w0 B (HA.pack T :: R) w := Sl.Sat.pack h
theorem Sat.unpackL {w0 w : World} {B : Nat} {T R : List HA} (h : Sat w0 B (HA.pack T :: R) w) : Sat w0 B (T ++ R) w := Sl.Sat.unpack h
def tkH1 (g : Nat) (r : PS × Int) (x : TXs r.1) : List HA := if r.2 = 0 then [PP g x.1.fg x.1.fcap r.1 x.1.tv x.1.rv] else []
theorem take1_c (g fg fcap : Nat) (p : PS) (tv : FV) (rv : List (Frame × FV)) (hrv : rv.map Prod.fst = p.rest) (N : Nat) (hN : N ≤ 60000) (hp : POk p N) (k : Tok) (hk : TokOk p k) :
    Mut Tryz.prog 37 #[Pv g 0, tokV k] [PP g fg fcap p tv rv] (fun _ : TXs (takeM p k).1 => Iv (takeM p k).2) (fun x => tkH1 g (takeM p k) x) := by
  intro w0 B R w h
  refine (take_c g fg fcap p tv rv hrv N hN hp k hk w0 B R w (Sat.unpackL h)).mono ?_
  rintro e w' ⟨x, he, hs⟩
  refine ⟨x, he, ?_⟩
  unfold tkH at hs
  show Sat w0 B (tkH1 g (takeM p k) x ++ R) w'
  unfold tkH1
  by_cases h0 : (takeM p k).2 = 0
  · rw [if_pos h0]
    simp only [if_pos h0] at hs
    exact Sat.packL hs
  · rw [if_neg h0]
    simp only [if_neg h0] at hs
    exact hs
structure PX0 where
  ad : Option Addr
  cap : Nat
  fp : List Nat
abbrev zeroRe : Array Value := (reCells (.cat []) (.slice none 0 0)).toArray
structure PSt where
  p : PS
  fg : Nat
  fcap : Nat
  tv : FV
  rv : List (Frame × FV)
theorem parse_c (t : List UInt8) (ht0 : t.length ≤ 4611686018427387904) (w : World) (hG : GR w w.heap.size) :
    Pure Tryz.prog 20 #[Sv t] (fun x : PX0 => .tuple #[.agg (reCells (parseM t).tree (.slice x.ad (parseM t).tree.kids.length x.cap)).toArray, .agg #[Iv (parseM t).e, Iv ((parseM t).at_ : Nat)]])
      (fun x => [HA.forest x.fp [(parseM t).tree] (reCells (parseM t).tree (.slice x.ad (parseM t).tree.kids.length x.cap))]) w := by
  have hpm : parseM t = if 512 < t.length then ⟨.cat [], 2, 0⟩ else parseGo (toksM t) ps0 := rfl
  have hfin : ∀ {w0 w' : World} {B : Nat} {R : List HA}, Sat w0 B R w' → Sat w0 B [HA.forest [] [RE.cat []] (reCells (.cat []) (.slice none 0 0))] w' := fun {w0 w' B R} h => by
    have h0 : Sat w0 B [] w' := Sat.tailL (A := R) (by rw [List.append_nil]; exact h)
    exact Sat.forest0 h0 _ _ (fun _ _ => Forest.leaf (.cat []) rfl)
  refine calls_of_ESM TB Tryz.func20 rfl _ Tryz.ntmps20 rfl (Sat.start w) ?_; refine .gr ?_; (repeat constructor); (refine .al ?_; intro g2); (refine .al ?_; intro g3); refine .gr ?_; (repeat constructor); refine .mv ?_; refine .lS ?_; refine .gt_ ?_; refine .gr ?_; repeat constructor
  refine ES.condD rfl (fun hlong => ?_) (fun hshort => ?_)
  · rw [if_pos (by omega)] at hpm
    rw [hpm]
    refine .gr ?_; (repeat constructor); refine EL.buildZ rfl rfl rfl rfl rfl ?_; refine EL.buildS #[_, .int .i64 0] rfl rfl rfl rfl rfl rfl rfl ?_; refine .sa ?_; refine .sa ?_; refine .gr ?_; repeat constructor
    exact PX.retM [] rfl (.nil _) Tryz.results20 (.cons (.blkA rfl rfl rfl (by repeat constructor) rfl) (.cons (.blkA rfl rfl rfl (by repeat constructor) rfl) .nil)) (fun w hs => ⟨⟨none, 0, []⟩, rfl, hfin hs⟩)
  rw [if_neg (by omega)] at hpm
  have hlen : t.length ≤ 512 := by omega
  have ht : t.length ≤ 1073741824 := by omega
  have htl : (toksM t).length ≤ 512 := Nat.le_trans (toks_len t t.length 0 true true) hlen
  have hall := parse_toks_ok t
  refine .gr ?_; (repeat constructor); refine EL.buildZ rfl rfl rfl rfl rfl ?_; (refine .b1 ?_; intro b13); refine EL.buildS #[_, .int .i64 0, .bool false, .bool false, .bool false, .bool false, .bool false, .bool false, .bool false, .bool false, .bool false, .bool false, .int .i64 0] rfl rfl rfl rfl rfl rfl rfl ?_; (refine .bx ?_; intro g15); (refine .al ?_; intro g4); refine .sb ?_; refine .gr ?_; (repeat constructor); refine .mv ?_; (refine EL.callX rfl rfl rfl ent36 rfl (tokens_c t) ?_; intro gs); refine .gr ?_; (repeat constructor); refine ES.imp (H' := HA.blk gs (.cells #[Sv t] 9) :: HA.blk g4 (.cells #[Pv g15 0] 100) :: PP g15 b13 1 ps0 ⟨none, 0, none, 0, [], []⟩ [] :: HA.blk g2 (.cells zeroRe 46) :: HA.blk g3 (.cells #[Iv 0, Iv 0] 33) :: []) (fun w hs => ?_) ?_
  · have h1 := Sat.forest0 ((hs.nilRow 3 1).nilRow 46 9) [] [] (fun _ _ => .nil)
    have h2 := h1.ent (H' := PB g15 b13 1 1 (PR 0 (List.replicate 10 false) 0) :: FB b13 1 1 (frC none 0 0 none 0 0 0 0) :: KR none 0 0 [] :: ZR none 0 [] :: HA.forest [] [] [] :: HA.blk gs (.cells #[Sv t] 9) :: HA.blk g4 (.cells #[Pv g15 0] 100) :: HA.blk g2 (.cells zeroRe 46) :: HA.blk g3 (.cells #[Iv 0, Iv 0] 33) :: []) (.i (by repeat constructor))
    exact (Sat.packL (T := PH g15 b13 1 ps0 ⟨none, 0, none, 0, [], []⟩ []) h2).ent (.i (by repeat constructor))
  refine ES.rangeFunc (σ := PSt) (τ := Int × Nat) (fun i s => i ≤ (toksM t).length ∧ s.rv.map Prod.fst = s.p.rest ∧ POk s.p i ∧ TksOk ((toksM t).drop i) s.p ∧ parseGo ((toksM t).drop i) s.p = parseM t)
    (fun s => [HA.blk g4 (.cells #[Pv g15 0] 100), PP g15 s.fg s.fcap s.p s.tv s.rv, HA.blk g2 (.cells zeroRe 46), HA.blk g3 (.cells #[Iv 0, Iv 0] 33)])
    (fun c _ r => c = .ret ∧ parseM t = ⟨.cat [], r.1, r.2⟩) (fun r => [HA.blk g2 (.cells zeroRe 46), HA.blk g3 (.cells #[Iv r.1, Iv (r.2 : Nat)] 33)]) ⟨ps0, b13, 1, ⟨none, 0, none, 0, [], []⟩, []⟩ ⟨Nat.zero_le _, rfl, ps0_pok, hall, hpm.symm⟩
    rfl rfl ent53 (tok1_iter gs t ht _ _ hG) (by repeat constructor) (by repeat constructor) (by intro x hx; obtain ⟨_, _, rfl⟩ := List.mem_map.1 hx; rfl) rfl ?_ (fun D s hs => ?_) (fun D c i r hc => ?_)
  · rintro l i ⟨p, fg, fcap, tv, rv⟩ x R1 ⟨hi, hrv, hpo, htk, hgo⟩ hx
    dsimp only at hi hrv hpo htk hgo hx ⊢
    obtain ⟨k, hk, rfl⟩ : ∃ k, (toksM t)[i]? = some k ∧ x = [tokV k] := by
      rw [List.getElem?_map] at hx
      obtain ⟨k, h1, h2⟩ := Option.map_eq_some_iff.1 hx
      exact ⟨k, h1, h2.symm⟩
    have hlt : i < (toksM t).length := (List.getElem?_eq_some_iff.1 hk).1
    have hdrop : (toksM t).drop i = k :: (toksM t).drop (i + 1) := by
      rw [List.drop_eq_getElem_cons hlt, (List.getElem?_eq_some_iff.1 hk).2]
    rw [hdrop] at htk hgo
    obtain ⟨hk1, hk2, hk3, hk4⟩ := htk
    rw [parseGo] at hgo
    refine .gr ?_; (repeat constructor); (refine .al ?_; intro g5); refine .sa ?_; refine .gr ?_; repeat constructor
    refine PX.assigned [(2, Pv g2 0), (3, Pv g3 0), (4, Pv g4 0), (5, Pv g5 0)] [HA.blk g5 (.cells (tokCells k) 112), HA.blk g4 (.cells #[Pv g15 0] 100), PP g15 fg fcap p tv rv, HA.blk g2 (.cells zeroRe 46), HA.blk g3 (.cells #[Iv 0, Iv 0] 33)] ⟨rfl, rfl, rfl, rfl, trivial⟩ (.i (by repeat constructor)) (fun R2 => ?_)
    refine .gr ?_; (repeat constructor); refine .lb ?_; refine .lg ?_; (refine EL.callM rfl rfl rfl ent37 rfl (take1_c g15 fg fcap p tv rv hrv i (by omega) hpo k hk1) (by repeat constructor) ?_; intro x); refine .as_ ?_; refine .gr ?_; (repeat constructor); refine .mv ?_; refine .ni ?_; refine .gr ?_; repeat constructor
    refine ES.condN rfl (fun hne => ?_) (fun he => ?_)
    · rw [if_pos hne] at hgo
      have hx0 : tkH1 g15 (takeM p k) x = [] := if_neg hne
      rw [hx0]
      refine .gs ?_; repeat constructor
      refine ES.draw (X := Unit) (fun _ => [(2, Pv g2 0), (3, Pv g3 0), (4, Pv g4 0)]) (fun _ => HA.blk g2 (.cells zeroRe 46) :: HA.blk g3 (.cells #[Iv (takeM p k).2, Iv (k.at_ : Nat)] 33) :: R2) (HA.blk g5 (.cells (tokCells k) 112) :: R2) mixed (.i (by repeat constructor)) ?_ (fun _ => ?_)
      · refine .tk 1 rfl (RV.move rfl) ?_; refine .tk 2 rfl (RV.fieldAddr rfl rfl rfl rfl rfl rfl) ?_; refine .tk 3 rfl (RV.loadB rfl rfl rfl (by repeat constructor) rfl) ?_
        refine ED.fork 0 [4] (by decide +kernel) ⟨⟨_, rfl, ?_⟩, ⟨_, rfl, ?_⟩, trivial⟩
        · refine EL.buildZ rfl rfl rfl rfl rfl ?_; refine .nx ?_
          refine ED.fork 4 [5] (by decide +kernel) ⟨⟨_, rfl, ?_⟩, ⟨_, rfl, ?_⟩, trivial⟩
          · (apply EL.build2; exact rfl; exact rfl; exact rfl; exact rfl; exact rfl; exact rfl; exact rfl; exact rfl; exact rfl; exact rfl)
            refine .nx ?_; refine .ld 5 ?_; refine .sa ?_; refine .nx ?_; refine ED.last 6 rfl (by decide +kernel) (by decide +kernel) (by decide +kernel) ?_; refine .sa ?_; refine EL.endQ ?_
            exact .cy ()
          · refine .sa ?_; refine .nx ?_; refine .ld 4 ?_
            (apply EL.build2; exact rfl; exact rfl; exact rfl; exact rfl; exact rfl; exact rfl; exact rfl; exact rfl; exact rfl; exact rfl)
            refine .nx ?_; refine ED.last 6 rfl (by decide +kernel) (by decide +kernel) (by decide +kernel) ?_; refine .sa ?_; refine EL.endQ ?_
            exact .cy ()
        · (apply EL.build2; exact rfl; exact rfl; exact rfl; exact rfl; exact rfl; exact rfl; exact rfl; exact rfl; exact rfl; exact rfl)
          refine .nx ?_; refine .ld 0 ?_; refine EL.buildZ rfl rfl rfl rfl rfl ?_; refine .nx ?_; refine .ld 5 ?_; refine .sa ?_; refine .nx ?_; refine ED.last 6 rfl (by decide +kernel) (by decide +kernel) (by decide +kernel) ?_; refine .sa ?_; refine EL.endQ ?_
          exact .cy ()
      refine .gr ?_; repeat constructor
      exact PX.roundR ((takeM p k).2, k.at_) ⟨rfl, hgo.symm⟩ (.i (by repeat constructor))
    · rw [if_neg (fun h => h he)] at hgo
      have h6 : k.kind ≤ 6 := by
        rcases Nat.lt_or_ge k.kind 7 with h | h
        · omega
        · rw [takeM_7 h] at he; exact absurd he (hk3 (by omega))
      have hx1 : tkH1 g15 (takeM p k) x = [PP g15 x.1.fg x.1.fcap (takeM p k).1 x.1.tv x.1.rv] := if_pos he
      rw [hx1]
      refine .gr ?_; repeat constructor
      exact PX.round ⟨(takeM p k).1, x.1.fg, x.1.fcap, x.1.tv, x.1.rv⟩ ⟨hlt, x.2, takeM_ok hpo hk1 he h6, hk4 he, hgo⟩ (.i (by repeat constructor))
  · obtain ⟨p, fg, fcap, tv, rv⟩ := s
    obtain ⟨_, hrv, hpo, _, hgo⟩ := hs
    rw [List.length_map, List.drop_length] at hgo
    rw [List.length_map] at hpo
    dsimp only at hrv hpo hgo ⊢
    rw [parseGo] at hgo
    have hrl : rv.length = p.rest.length := by rw [← hrv, List.length_map]
    have hr9 : rv.length ≤ 9 := by have := hpo.deep; have := hpo.ok.groups; omega
    have htop := top_c g15 fg rv.length fcap (PR p.groups p.shut p.size) (preC rv ++ tv.cells p.top) (by omega)
    refine ES.imp (H' := markB D :: HA.blk g4 (.cells #[Pv g15 0] 100) :: HA.blk g2 (.cells zeroRe 46) :: HA.blk g3 (.cells #[Iv 0, Iv 0] 33) :: PB g15 fg (rv.length + 1) fcap (PR p.groups p.shut p.size) :: FB fg (rv.length + 1) fcap (preC rv ++ tv.cells p.top) :: KR tv.kad p.top.kids.length tv.kcap tv.kcs :: ZR tv.sad tv.scap p.top.sizes :: HA.forest tv.fp p.top.kids tv.kcs :: restH rv) (fun w hs => ?_) ?_
    · have h1 := hs.ent (H' := PP g15 fg fcap p tv rv :: markB D :: HA.blk g4 (.cells #[Pv g15 0] 100) :: HA.blk g2 (.cells zeroRe 46) :: HA.blk g3 (.cells #[Iv 0, Iv 0] 33) :: []) (.i (by repeat constructor))
      have h2 := (Sat.unpackL h1).perm List.perm_append_comm
      exact h2
    refine .gr ?_; (repeat constructor); refine .lb ?_; refine .nc ?_; refine .fa ?_; refine .lb ?_; refine .lL ?_; refine .gt_ ?_; refine .gr ?_; repeat constructor
    refine ES.condD rfl (fun hgt => ?_) (fun hle => ?_)
    · have hpe : parseM t = ⟨.cat [], 10, p.top.at_⟩ := by
        rw [← hgo]
        unfold endM
        split
        · rename_i h; rw [h] at hrl; simp only [List.length_nil] at hrl; omega
        · rfl
      rw [hpe]
      refine .gs ?_; repeat constructor
      refine ES.draw (X := Unit) (fun _ => [(2, Pv g2 0), (3, Pv g3 0), (4, Pv g4 0)]) (fun _ => markB D :: HA.blk g2 (.cells zeroRe 46) :: HA.blk g3 (.cells #[Iv 10, Iv (p.top.at_ : Nat)] 33) :: restH rv) (HA.blk g4 (.cells #[Pv g15 0] 100) :: FB fg (rv.length + 1) fcap (preC rv ++ tv.cells p.top) :: restH rv) mixed (.i (by repeat constructor)) ?_ (fun _ => ?_)
      · refine .tk 1 rfl (RV.loadB rfl rfl rfl (by repeat constructor) rfl) ?_
        refine ED.fork 0 [2] (by decide +kernel) ⟨⟨_, rfl, ?_⟩, ⟨_, rfl, ?_⟩, trivial⟩
        · refine EL.buildZ rfl rfl rfl rfl rfl ?_; refine .nx ?_; refine .ld 2 ?_
          (refine EL.callM1 rfl rfl rfl ent38 rfl htop (by repeat constructor) ?_)
          refine .nx ?_; refine .tk 3 rfl (RV.nilCheck rfl) ?_; refine .tk 4 rfl (RV.fieldAddr rfl rfl rfl rfl rfl rfl) ?_; refine .tk 5 rfl (RV.loadR rfl rfl rfl (by repeat constructor) (pre_at (preC rv) _ (rv.length * 4) 3 (preC_len rv))) ?_
          refine ED.fork 6 [7] (by decide +kernel) ⟨⟨_, rfl, ?_⟩, ⟨_, rfl, ?_⟩, trivial⟩
          · (apply EL.build2; exact rfl; exact rfl; exact rfl; exact rfl; exact rfl; exact rfl; exact rfl; exact rfl; exact rfl; exact rfl)
            refine .nx ?_; refine .ld 7 ?_; refine .sa ?_; refine .nx ?_; refine ED.last 8 rfl (by decide +kernel) (by decide +kernel) (by decide +kernel) ?_; refine .sa ?_; refine EL.endQ ?_
            exact .cy ()
          · refine .sa ?_; refine .nx ?_; refine .ld 6 ?_
            (apply EL.build2; exact rfl; exact rfl; exact rfl; exact rfl; exact rfl; exact rfl; exact rfl; exact rfl; exact rfl; exact rfl)
            refine .nx ?_; refine ED.last 8 rfl (by decide +kernel) (by decide +kernel) (by decide +kernel) ?_; refine .sa ?_; refine EL.endQ ?_
            exact .cy ()
        · (refine EL.callM1 rfl rfl rfl ent38 rfl htop (by repeat constructor) ?_)
          refine .nx ?_; refine .tk 3 rfl (RV.nilCheck rfl) ?_; refine .tk 4 rfl (RV.fieldAddr rfl rfl rfl rfl rfl rfl) ?_; refine .tk 5 rfl (RV.loadR rfl rfl rfl (by repeat constructor) (pre_at (preC rv) _ (rv.length * 4) 3 (preC_len rv))) ?_
          refine ED.fork 0 [6] (by decide +kernel) ⟨⟨_, rfl, ?_⟩, ⟨_, rfl, ?_⟩, trivial⟩
          · refine EL.buildZ rfl rfl rfl rfl rfl ?_; refine .nx ?_
            refine ED.fork 6 [7] (by decide +kernel) ⟨⟨_, rfl, ?_⟩, ⟨_, rfl, ?_⟩, trivial⟩
            · (apply EL.build2; exact rfl; exact rfl; exact rfl; exact rfl; exact rfl; exact rfl; exact rfl; exact rfl; exact rfl; exact rfl)
              refine .nx ?_; refine .ld 7 ?_; refine .sa ?_; refine .nx ?_; refine ED.last 8 rfl (by decide +kernel) (by decide +kernel) (by decide +kernel) ?_; refine .sa ?_; refine EL.endQ ?_
              exact .cy ()
            · refine .sa ?_; refine .nx ?_; refine .ld 6 ?_
              (apply EL.build2; exact rfl; exact rfl; exact rfl; exact rfl; exact rfl; exact rfl; exact rfl; exact rfl; exact rfl; exact rfl)
              refine .nx ?_; refine ED.last 8 rfl (by decide +kernel) (by decide +kernel) (by decide +kernel) ?_; refine .sa ?_; refine EL.endQ ?_
              exact .cy ()
          · (apply EL.build2; exact rfl; exact rfl; exact rfl; exact rfl; exact rfl; exact rfl; exact rfl; exact rfl; exact rfl; exact rfl)
            refine .nx ?_; refine .ld 0 ?_; refine EL.buildZ rfl rfl rfl rfl rfl ?_; refine .nx ?_; refine .ld 7 ?_; refine .sa ?_; refine .nx ?_; refine ED.last 8 rfl (by decide +kernel) (by decide +kernel) (by decide +kernel) ?_; refine .sa ?_; refine EL.endQ ?_
            exact .cy ()
      refine .gr ?_; repeat constructor
      exact PX.retM [D] rfl (by repeat constructor) Tryz.results20 (.cons (.blkA rfl rfl rfl (by repeat constructor) rfl) (.cons (.blkA rfl rfl rfl (by repeat constructor) rfl) .nil)) (fun w hs => ⟨⟨none, 0, []⟩, rfl, hfin hs⟩)
    · have hpe : parseM t = ⟨.cat p.top.kids, 0, 0⟩ := by
        rw [← hgo]
        unfold endM
        split
        · rfl
        · rename_i h; have : p.rest ≠ [] := h; have : 0 < p.rest.length := List.length_pos_iff.2 this; omega
      rw [hpe]
      refine .gr ?_; (repeat constructor); refine .lb ?_
      (refine EL.callM1 rfl rfl rfl ent38 rfl htop (by repeat constructor) ?_)
      refine .nc ?_; refine .fa ?_; refine EL.loadR rfl rfl rfl rfl rfl (by repeat constructor) (pre_at (preC rv) _ (rv.length * 4) 0 (preC_len rv)) ?_; refine EL.buildS (reCells (.cat p.top.kids) (.slice tv.kad p.top.kids.length tv.kcap)).toArray rfl rfl rfl rfl rfl rfl rfl ?_; refine EL.buildZ rfl rfl rfl rfl rfl ?_; refine .sa ?_; refine .sa ?_; refine .gr ?_; repeat constructor
      refine PX.retM [D] rfl (by repeat constructor) Tryz.results20 (.cons (.blkA rfl rfl rfl (by repeat constructor) rfl) (.cons (.blkA rfl rfl rfl (by repeat constructor) rfl) .nil)) (fun w hs => ⟨⟨tv.kad, tv.kcap, (Value.slice tv.kad p.top.kids.length tv.kcap).ownBlock.toList ++ tv.fp⟩, rfl, ?_⟩)
      exact Sat.ent (Sat.seal (.cat p.top.kids) rfl (hs.ent (H' := KR tv.kad p.top.kids.length tv.kcap tv.kcs :: HA.forest tv.fp p.top.kids tv.kcs :: restH rv) (.i (by repeat constructor)))) (.i (by repeat constructor))
  · obtain ⟨rfl, hc⟩ := hc
    rw [hc]
    refine .gr ?_; repeat constructor
    exact PX.retM [D] rfl (by repeat constructor) Tryz.results20 (.cons (.blkA rfl rfl rfl (by repeat constructor) rfl) (.cons (.blkA rfl rfl rfl (by repeat constructor) rfl) .nil)) (fun w hs => ⟨⟨none, 0, []⟩, rfl, hfin hs⟩)
end Go.Proofs.YthcbjbkheodejaaGreat
namespace Go.Proofs.YthcbjbkheodejaaGreat
open Go Go.RowKit Sl
set_option maxRecDepth 100000
set_option maxHeartbeats 8000000
attribute [local irreducible] ES EL PX wps
mutual
def RE.thin : RE → Bool
  | .byte _ => false
  | .back _ => false
  | .bol => true
  | .eol => true
  | .cat ks => thinL ks
  | .group _ k => k.thin
  | .rep _ hi k => decide (hi = 0) || k.thin
def thinL : List RE → Bool
  | [] => true
  | k :: ks => k.thin && thinL ks
end
def leastM (lo : Nat) (k : RE) : Nat := if k.thin = true then min lo 1 else lo
end Go.Proofs.YthcbjbkheodejaaGreat
namespace Go.Proofs.YthcbjbkheodejaaGreat
open Go Go.RowKit Sl
set_option maxRecDepth 100000
set_option maxHeartbeats 8000000
attribute [local irreducible] ES EL PX wps
def Node (S : Nat → Prop) (w : World) (g off : Nat) (r : RE) : Prop :=
  ∃ ad cap cs0, Reads S w (some ⟨g, off, none⟩) (reCells r (.slice ad r.kids.length cap)) ∧ Forest S w r.kids cs0 ∧ Reads S w ad cs0 ∧ r.kids.length ≤ cap
abbrev NodeRd (w : World) (B g off : Nat) (r : RE) : Prop := Node (· < B) w g off r
theorem Node.mono {S S' : Nat → Prop} {w : World} {g off : Nat} {r : RE} (h : Node S w g off r) (hs : ∀ g, S g → S' g) : Node S' w g off r := by
  obtain ⟨ad, cap, cs0, h1, h2, h3, h4⟩ := h
  exact ⟨ad, cap, cs0, h1.mono hs, h2.mono hs, h3.mono hs, h4⟩
theorem Node.loc {S : Nat → Prop} {w w' : World} {g off : Nat} {r : RE} (h : Node S w g off r) (hl : ∀ g, S g → w'.heap[g]? = w.heap[g]?) : Node S w' g off r := by
  obtain ⟨ad, cap, cs0, h1, h2, h3, h4⟩ := h
  exact ⟨ad, cap, cs0, h1.loc hl, h2.loc hl, h3.loc hl, h4⟩
theorem NodeRd.beneath {w0 w : World} {B B' g off : Nat} {r : RE} (h : NodeRd w0 B g off r) (hb : Below B w0 w) (hB : B ≤ B') : NodeRd w B' g off r :=
  (h.loc (fun g hg => hb.block g hg)).mono (fun g hg => Nat.lt_of_lt_of_le hg hB)
theorem NodeRd.sat {w0 w : World} {B g off : Nat} {H : List HA} {r : RE} (h : NodeRd w0 B g off r) (hs : Sat w0 B H w) : NodeRd w w.heap.size g off r := h.beneath hs.below hs.base
theorem Reads.take9 {S : Nat → Prop} {w : World} {g off : Nat} {cs : List Value} (h : Reads S w (some ⟨g, off, none⟩) cs) (i : Nat) (hi : i * 9 < cs.length) : Reads S w (some ⟨g, off + i * 9, none⟩) ((cs.drop (i * 9)).take 9) := by
  intro _
  obtain ⟨g', off', h1, h2, ca, ta, h3, h4⟩ := h (fun e => by subst e; simp at hi)
  simp only [Option.some.injEq, Addr.mk.injEq] at h1
  obtain ⟨rfl, rfl, _⟩ := h1
  refine ⟨g, off + i * 9, rfl, h2, ca, ta, h3, fun j v hj => ?_⟩
  rw [List.getElem?_take] at hj
  split at hj
  · rw [List.getElem?_drop] at hj
    have := h4 _ v hj
    rwa [← Nat.add_assoc] at this
  · cases hj
theorem Node.of_row {S : Nat → Prop} {w : World} {g off i : Nat} {ks : List RE} {cs : List Value} {k : RE} (hf : Forest S w ks cs) (hr : Reads S w (some ⟨g, off, none⟩) cs) (hi : ks[i]? = some k) : Node S w g (off + i * 9) k := by
  obtain ⟨ad, cap, cs0, h1, h2, h3, h4⟩ := hf.get i k hi
  have hlt : i < ks.length := (List.getElem?_eq_some_iff.1 hi).1
  have hr9 := hr.take9 i (by rw [hf.len]; omega)
  rw [h1] at hr9
  exact ⟨ad, cap, cs0, hr9, h2, h3, h4⟩
theorem Node.kids {S : Nat → Prop} {w : World} {g off : Nat} {r : RE} (h : Node S w g off r) : ∃ ad cap, Reads S w (some ⟨g, off, none⟩) (reCells r (.slice ad r.kids.length cap)) ∧ (r.kids ≠ [] → ∃ g' o', ad = some ⟨g', o', none⟩ ∧ ∀ i k, r.kids[i]? = some k → Node S w g' (o' + i * 9) k) := by
  obtain ⟨ad, cap, cs0, h1, h2, h3, _⟩ := h
  refine ⟨ad, cap, h1, fun hne => ?_⟩
  have hl := h2.len
  have hpos : 0 < r.kids.length := List.length_pos_iff.2 hne
  obtain ⟨g', o', rfl, _⟩ := h3 (fun e => by rw [e] at hl; simp at hl; omega)
  exact ⟨g', o', rfl, fun i k hi => Node.of_row h2 h3 hi⟩
abbrev KidsRd (w : World) (B : Nat) (ks : List RE) (ad : Option Addr) : Prop := ∀ i k, ks[i]? = some k → ∃ g o, ad = some ⟨g, o, none⟩ ∧ NodeRd w B g (o + i * 9) k
theorem Node.kids2 {S : Nat → Prop} {w : World} {g off : Nat} {r : RE} (h : Node S w g off r) : ∃ ad cap, Reads S w (some ⟨g, off, none⟩) (reCells r (.slice ad r.kids.length cap)) ∧ (∀ i k, r.kids[i]? = some k → ∃ g' o', ad = some ⟨g', o', none⟩ ∧ Node S w g' (o' + i * 9) k) ∧ r.kids.length ≤ cap := by
  obtain ⟨ad, cap, cs0, h1, h2, h3, h4⟩ := h
  refine ⟨ad, cap, h1, fun i k hi => ?_, h4⟩
  have hl := h2.len
  have hlt : i < r.kids.length := (List.getElem?_eq_some_iff.1 hi).1
  obtain ⟨g', o', rfl, _⟩ := h3 (fun e => by rw [e] at hl; simp at hl; omega)
  exact ⟨g', o', rfl, Node.of_row h2 h3 hi⟩
theorem kids_of {w0 w : World} {B : Nat} {H : List HA} {r : RE} {ad : Option Addr} {cap : Nat} {fp : List Nat} (hs : Sat w0 B H w) (h2 : Mem H (HA.forest fp [r] (reCells r (.slice ad r.kids.length cap)))) : KidsRd w w.heap.size r.kids ad := by
  have hf := Forest.sat hs h2
  obtain ⟨ad', cap', cs0, e1, e2, e3, _⟩ := hf.get 0 r rfl
  have e4 : reCells r (.slice ad r.kids.length cap) = reCells r (.slice ad' r.kids.length cap') := by
    rw [← e1]; simp [reCells]
  simp only [reCells, List.cons.injEq, Value.slice.injEq, and_true, true_and] at e4
  obtain ⟨rfl, rfl⟩ := e4
  intro i k hi
  have hl := e2.len
  have hlt : i < r.kids.length := (List.getElem?_eq_some_iff.1 hi).1
  obtain ⟨g, o, rfl, _⟩ := e3 (fun e => by rw [e] at hl; simp at hl; omega)
  exact ⟨g, o, rfl, Node.of_row e2 e3 hi⟩
theorem node_of {w0 w : World} {B g e : Nat} {H : List HA} {r : RE} {ad : Option Addr} {cap : Nat} {fp : List Nat} (hs : Sat w0 B H w) (h1 : Mem H (HA.blk g (.cells (reCells r (.slice ad r.kids.length cap)).toArray e))) (h2 : Mem H (HA.forest fp [r] (reCells r (.slice ad r.kids.length cap)))) : NodeRd w w.heap.size g 0 r := by
  have hb : w.heap[g]? = some (.cells (reCells r (.slice ad r.kids.length cap)).toArray e (0, 0)) := hs.all _ h1.mem
  have hlt : g < w.heap.size := (Array.getElem?_eq_some_iff.1 hb).1
  have hf := Forest.sat hs h2
  obtain ⟨ad', cap', cs0, e1, e2, e3, e5⟩ := hf.get 0 r rfl
  have e4 : reCells r (.slice ad r.kids.length cap) = reCells r (.slice ad' r.kids.length cap') := by
    rw [← e1]; simp [reCells]
  simp only [reCells, List.cons.injEq, Value.slice.injEq, and_true, true_and] at e4
  obtain ⟨rfl, rfl⟩ := e4
  exact ⟨ad, cap, cs0, fun _ => ⟨g, 0, rfl, hlt, _, e, hb, fun j v hj => by rw [Nat.zero_add]; simpa using hj⟩, e2, e3, e5⟩
mutual
def RE.sz : RE → Nat
  | .cat ks => szL ks + 1
  | .group _ k => k.sz + 1
  | .rep _ _ k => k.sz + 1
  | _ => 1
def szL : List RE → Nat
  | [] => 0
  | k :: ks => k.sz + szL ks
end
theorem sz_mem : ∀ {ks : List RE} {k : RE}, k ∈ ks → k.sz ≤ szL ks
  | k' :: ks, k, h => by
    rw [szL]
    rcases List.mem_cons.1 h with rfl | h
    · omega
    · have := sz_mem h; omega
theorem sz_pos (r : RE) : 0 < r.sz := by cases r <;> simp [RE.sz]
theorem kids_lt {r k : RE} (h : k ∈ r.kids) : k.sz < r.sz := by
  cases r <;> simp only [RE.kids, List.mem_cons, List.not_mem_nil, or_false] at h
  · have := sz_mem h
    simp only [RE.sz]; omega
  · subst h; simp only [RE.sz]; omega
  · subst h; simp only [RE.sz]; omega
theorem wv_inj {x y : UInt64} (h : Wv x = Wv y) : x = y := by
  simp only [Value.int.injEq, true_and] at h
  exact UInt64.toNat_inj.1 (by omega)
theorem iv_inj {x y : Nat} (h : Iv (x : Nat) = Iv (y : Nat)) : x = y := by
  simp only [Value.int.injEq, true_and] at h
  omega
theorem bs_inj {s t : BS} (ha : s.a = t.a) (hb : s.b = t.b) (hc : s.c = t.c) (hd : s.d = t.d) : s = t := by
  cases s; cases t; simp_all
theorem re_ext {r r' : RE} (h1 : r.kind = r'.kind) (h2 : r.set = r'.set) (h3 : r.lo = r'.lo) (h4 : r.hi = r'.hi) (h5 : r.num = r'.num) (h6 : r.kids = r'.kids) : r = r' := by
  cases r <;> cases r' <;> simp_all [RE.kind, RE.set, RE.lo, RE.hi, RE.num, RE.kids]
theorem Reads.one {S S' : Nat → Prop} {w : World} {g off : Nat} {cs cs' : List Value} (h : Reads S w (some ⟨g, off, none⟩) cs) (h' : Reads S' w (some ⟨g, off, none⟩) cs') (hl : cs.length = cs'.length) : cs = cs' := by
  apply List.ext_getElem hl
  intro i h1 h2
  have e1 := h.cell i _ (List.getElem?_eq_getElem h1)
  have e2 := h'.cell i _ (List.getElem?_eq_getElem h2)
  rw [e1] at e2
  exact Option.some.inj e2
theorem node_inj {S S' : Nat → Prop} {w : World} (n : Nat) : ∀ (g off : Nat) (r r' : RE), r.sz ≤ n → Node S w g off r → Node S' w g off r' → r = r' := by
  induction n with
  | zero => intro g off r r' hr; exact absurd (sz_pos r) (by omega)
  | succ n ih =>
    intro g off r r' hr h h'
    obtain ⟨ad, cap, hrd, hk⟩ := h.kids
    obtain ⟨ad', cap', hrd', hk'⟩ := h'.kids
    have he := hrd.one hrd' rfl
    simp only [reCells, List.cons.injEq, and_true] at he
    obtain ⟨h1, h2, h3, h4, h5, h6, h7, h8, h9⟩ := he
    simp only [Value.slice.injEq] at h9
    obtain ⟨rfl, hl, rfl⟩ := h9
    refine re_ext (iv_inj h1) (bs_inj (wv_inj h2) (wv_inj h3) (wv_inj h4) (wv_inj h5)) (iv_inj h6) (by simpa using h7) (iv_inj h8) ?_
    apply List.ext_getElem hl
    intro i a1 a2
    obtain ⟨g1, o1, e1, q1⟩ := hk (by intro e; rw [e] at a1; simp at a1)
    obtain ⟨g2, o2, e2, q2⟩ := hk' (by intro e; rw [e] at a2; simp at a2)
    rw [e1] at e2
    simp only [Option.some.injEq, Addr.mk.injEq] at e2
    obtain ⟨rfl, rfl, _⟩ := e2
    refine ih g1 (o1 + i * 9) _ _ ?_ (q1 i _ (List.getElem?_eq_getElem a1)) (q2 i _ (List.getElem?_eq_getElem a2))
    have := kids_lt (List.getElem_mem a1)
    omega
theorem Node.inj {S S' : Nat → Prop} {w : World} {g off : Nat} {r r' : RE} (h : Node S w g off r) (h' : Node S' w g off r') : r = r' := node_inj r.sz g off r r' (Nat.le_refl _) h h'
mutual
def RE.fine : RE → Prop
  | .cat ks => ks.length ≤ 1024 ∧ fineL ks
  | .group n k => n ≤ 9 ∧ k.fine
  | .rep lo hi k => lo ≤ 255 ∧ -1 ≤ hi ∧ hi ≤ 255 ∧ (0 ≤ hi → (lo : Int) ≤ hi) ∧ k.fine
  | .back n => 1 ≤ n ∧ n ≤ 9
  | _ => True
def fineL : List RE → Prop
  | [] => True
  | k :: ks => k.fine ∧ fineL ks
end
theorem fineL_iff : ∀ ks : List RE, fineL ks ↔ ∀ k ∈ ks, k.fine
  | [] => by simp [fineL]
  | k :: ks => by rw [fineL, fineL_iff ks]; simp
theorem fine_kid {r k : RE} (h : r.fine) (hk : k ∈ r.kids) : k.fine := by
  cases r <;> simp only [RE.kids, List.mem_cons, List.not_mem_nil, or_false] at hk
  · exact (fineL_iff _).1 h.2 k hk
  · subst hk; exact h.2
  · subst hk; exact h.2.2.2.2
theorem fine_len {r : RE} (h : r.fine) : r.kids.length ≤ 1024 := by
  cases r <;> simp only [RE.kids, List.length_nil, List.length_singleton] <;> first | omega | exact h.1
theorem thinL_all : ∀ ks : List RE, thinL ks = ks.all RE.thin
  | [] => rfl
  | k :: ks => by rw [thinL, List.all_cons, thinL_all ks]
theorem thin_eq (r : RE) : r.thin = if r.kind = 1 ∨ r.kind = 6 then false else if r.kind = 5 ∧ r.hi = 0 then true else r.kids.all RE.thin := by
  cases r with
  | cat ks => simp [RE.thin, RE.kind, RE.kids, thinL_all]
  | byte s => simp [RE.thin, RE.kind]
  | bol => simp [RE.thin, RE.kind, RE.kids]
  | eol => simp [RE.thin, RE.kind, RE.kids]
  | group n k => simp [RE.thin, RE.kind, RE.kids]
  | rep lo hi k => simp only [RE.thin, RE.kind, RE.kids, RE.hi]; by_cases h : hi = 0 <;> simp [h]
  | back n => simp [RE.thin, RE.kind]
theorem all_take {α : Type _} (p : α → Bool) (l : List α) (i : Nat) (k : α) (hi : l[i]? = some k) : (l.take (i + 1)).all p = ((l.take i).all p && p k) := by
  have hlt : i < l.length := (List.getElem?_eq_some_iff.1 hi).1
  rw [List.take_succ_eq_append_getElem hlt, (List.getElem?_eq_some_iff.1 hi).2]
  simp
theorem all_false {α : Type _} (p : α → Bool) (l : List α) (i : Nat) (k : α) (hi : l[i]? = some k) (h : p k = false) : l.all p = false := by
  rw [Bool.eq_false_iff]
  intro h2
  have := List.all_eq_true.1 h2 k (List.mem_of_getElem? hi)
  rw [h] at this; cases this
theorem thin_n (n : Nat) : ∀ (r : RE), r.sz ≤ n → r.fine → ∀ (g off : Nat) (w : World), NodeRd w w.heap.size g off r → Pure Tryz.prog 87 #[Pv g off] (fun _ : Unit => .bool r.thin) (fun _ => []) w := by
  induction n with
  | zero => intro r hr; exact absurd (sz_pos r) (by omega)
  | succ n ih =>
    intro r hr hfine g off w hn
    have hkl := fine_len hfine
    obtain ⟨ad, cap, hrd, hkids⟩ := hn.kids
    have hrd := hrd.rd
    have hte := thin_eq r
    refine calls_of_ES TB Tryz.func87 rfl _ Tryz.ntmps87 rfl (Sat.start w) ?_; refine .go ?_; (repeat constructor); refine .as_ ?_; refine .go ?_; repeat constructor
    refine EL.cutX (X := Unit) (fun _ => [(0, Pv g off), (4, .bool (decide (r.kind = 1 ∨ r.kind = 6)))]) (fun _ => []) ?_ (fun _ => ?_)
    · refine .go ?_; (repeat constructor); refine .mv ?_; refine .nc ?_; refine .fa ?_; refine EL.loadOld rfl rfl rfl rfl rfl hrd rfl ?_; refine .ei ?_; refine .mv ?_
      first | refine EL.splitD (d := 10) rfl (fun hp10 => ?_) (fun hp10 => ?_) | refine EL.splitN (d := 10) rfl (fun hp10 => ?_) (fun hp10 => ?_) | refine EL.splitB (d := 10) rfl (fun hp10 => ?_) (fun hp10 => ?_)
      · refine .ps ?_; refine .ps ?_; refine .ps ?_; refine .ps ?_; refine .ps ?_; refine .pt ?_; refine .as_ ?_
        exact .dx () ⟨rfl, getA rfl (congrArg Value.bool (by rw [Bool.eq_iff_iff]; simp only [decide_eq_true_eq, true_iff]; omega)), trivial⟩
      · refine .mv ?_; refine .nc ?_; refine .fa ?_; refine EL.loadOld rfl rfl rfl rfl rfl hrd rfl ?_; refine .ei ?_; refine .pf ?_; refine .as_ ?_
        exact .dx () ⟨rfl, getA rfl (congrArg Value.bool (by rw [Bool.eq_iff_iff]; simp only [decide_eq_true_eq, true_iff]; omega)), trivial⟩
    refine ES.condD rfl (fun h1 => ?_) (fun h1 => ?_)
    · rw [if_pos h1] at hte
      rw [hte]
      refine .go ?_; (repeat constructor); refine .as_ ?_; refine .go ?_; repeat constructor
      exact PX.ret rfl Tryz.results87 (.cons (.tmp rfl) .nil) (fun w hs => ⟨(), rfl, hs.ent (.i (by repeat constructor))⟩)
    rw [if_neg h1] at hte
    refine .go ?_; repeat constructor
    refine EL.cutX (X := Unit) (fun _ => [(0, Pv g off), (17, .bool (decide (r.kind = 5 ∧ r.hi = 0)))]) (fun _ => []) ?_ (fun _ => ?_)
    · refine .go ?_; (repeat constructor); refine .mv ?_; refine .nc ?_; refine .fa ?_; refine EL.loadOld rfl rfl rfl rfl rfl hrd rfl ?_; refine .ei ?_; refine .mv ?_
      first | refine EL.splitD (d := 23) rfl (fun hp23 => ?_) (fun hp23 => ?_) | refine EL.splitN (d := 23) rfl (fun hp23 => ?_) (fun hp23 => ?_) | refine EL.splitB (d := 23) rfl (fun hp23 => ?_) (fun hp23 => ?_)
      · refine .mv ?_; refine .nc ?_; refine .fa ?_; refine EL.loadOld rfl rfl rfl rfl rfl hrd rfl ?_; refine .ei ?_; refine .pt ?_; refine .as_ ?_
        exact .dx () ⟨rfl, getA rfl (congrArg Value.bool (by rw [Bool.eq_iff_iff]; simp only [decide_eq_true_eq, Bool.false_eq_true, false_iff]; omega)), trivial⟩
      · refine .ps ?_; refine .ps ?_; refine .ps ?_; refine .ps ?_; refine .ps ?_; refine .pf ?_; refine .as_ ?_
        exact .dx () ⟨rfl, getA rfl (congrArg Value.bool (by rw [Bool.eq_iff_iff]; simp only [decide_eq_true_eq, Bool.false_eq_true, false_iff]; omega)), trivial⟩
    refine ES.condD rfl (fun h2 => ?_) (fun h2 => ?_)
    · rw [if_pos h2] at hte
      rw [hte]
      refine .go ?_; (repeat constructor); refine .as_ ?_; refine .go ?_; repeat constructor
      exact PX.ret rfl Tryz.results87 (.cons (.tmp rfl) .nil) (fun w hs => ⟨(), rfl, hs.ent (.i (by repeat constructor))⟩)
    rw [if_neg h2] at hte
    refine .go ?_; (repeat constructor); refine .mv ?_; refine .nc ?_; refine .fa ?_; refine EL.loadOld rfl rfl rfl rfl rfl hrd rfl ?_; refine .lL ?_; refine .mv ?_; refine .go ?_; (repeat constructor); refine ES.loop (σ := Nat) (fun i => i ≤ r.kids.length ∧ (r.kids.take i).all RE.thin = true) (fun i => [(0, Pv g off), (34, Iv (r.kids.length : Nat)), (35, Iv (i : Nat))]) (fun _ => []) (fun i => r.kids.length - i) 0 ⟨Nat.zero_le _, rfl⟩ ⟨rfl, rfl, rfl, trivial⟩ (.i (by repeat constructor)) ?_
    rintro i ⟨hi, hall⟩
    dsimp only at hi hall ⊢
    refine .go ?_; (repeat constructor); refine .ls ?_; refine .go ?_; repeat constructor
    refine ES.condD rfl (fun hlt => ?_) (fun hge => ?_)
    · have hlt' : i < r.kids.length := by omega
      obtain ⟨g', o', rfl, hk⟩ := hkids (by intro e; rw [e] at hlt'; simp at hlt')
      obtain ⟨k, hki⟩ : ∃ k, r.kids[i]? = some k := ⟨_, List.getElem?_eq_getElem hlt'⟩
      have hkn := hk i k hki
      have hks := kids_lt (List.mem_of_getElem? hki)
      refine .go ?_; (repeat constructor); refine .mv ?_; refine .as_ ?_; refine .go ?_; (repeat constructor); refine .mv ?_; refine .nc ?_; refine .fa ?_; refine EL.loadOld rfl rfl rfl rfl rfl hrd rfl ?_; refine .mv ?_; refine EL.indexAddrL rfl rfl rfl rfl rfl rfl rfl (by omega) ?_; refine EL.callPw rfl rfl rfl ent87 rfl (fun w hs => ih k (by omega) (fine_kid hfine (List.mem_of_getElem? hki)) g' (o' + i * 9) w (NodeRd.sat hkn hs)) ?_; refine .nt ?_; refine .go ?_; repeat constructor
      refine ES.cond rfl (fun hf => ?_) (fun ht => ?_)
      · rw [Bool.not_eq_true'] at hf
        rw [hte, all_false _ _ _ _ hki hf]
        refine .go ?_; (repeat constructor); refine .as_ ?_; refine .go ?_; repeat constructor
        exact PX.ret rfl Tryz.results87 (.cons (.tmp rfl) .nil) (fun w hs => ⟨(), rfl, hs.ent (.i (by repeat constructor))⟩)
      · rw [Bool.not_eq_false'] at ht
        refine .go ?_; (repeat constructor); refine .a1 ?_; refine .mv ?_; refine .go ?_; repeat constructor
        exact .ly (i + 1) ⟨hlt', by rw [all_take _ _ _ _ hki, hall, ht]; rfl⟩ (by omega)
    · rw [hte, show r.kids.all RE.thin = true by rw [List.take_of_length_le (by omega)] at hall; exact hall]
      refine .go ?_; (repeat constructor); refine .as_ ?_; refine .go ?_; repeat constructor
      exact PX.ret rfl Tryz.results87 (.cons (.tmp rfl) .nil) (fun w hs => ⟨(), rfl, hs.ent (.i (by repeat constructor))⟩)
theorem thin_c (r : RE) (hf : r.fine) (g off : Nat) (w : World) (h : NodeRd w w.heap.size g off r) : Pure Tryz.prog 87 #[Pv g off] (fun _ : Unit => .bool r.thin) (fun _ => []) w := thin_n r.sz r (Nat.le_refl _) hf g off w h
theorem least_c (lo : Nat) (hi : Int) (k : RE) (hf : (RE.rep lo hi k).fine) (g off : Nat) (w : World) (h : NodeRd w w.heap.size g off (.rep lo hi k)) : Pure Tryz.prog 68 #[Pv g off] (fun _ : Unit => Iv (leastM lo k : Nat)) (fun _ => []) w := by
  obtain ⟨ad, cap, hrd, hkids⟩ := h.kids
  have hrd := hrd.rd
  obtain ⟨g', o', rfl, hk⟩ := hkids (by simp [RE.kids])
  have hkn : NodeRd w w.heap.size g' o' k := by have := hk 0 k rfl; rwa [Nat.zero_mul, Nat.add_zero] at this
  have hlo := hf.1
  have hle : leastM lo k = if k.thin = true then min lo 1 else lo := rfl
  refine calls_of_ES TB Tryz.func68 rfl _ Tryz.ntmps68 rfl (Sat.start w) ?_; refine .go ?_; (repeat constructor); refine .as_ ?_; refine .go ?_; (repeat constructor); refine .mv ?_; refine .nc ?_; refine .fa ?_; refine EL.loadOld rfl rfl rfl rfl rfl hrd rfl ?_; refine EL.indexAddrL (i := 0) rfl rfl rfl rfl rfl rfl rfl (by simp [RE.kids]) ?_; refine EL.callPw rfl rfl rfl ent87 rfl (fun w hs => thin_c k hf.2.2.2.2 g' o' w (NodeRd.sat hkn hs)) ?_; refine .go ?_; repeat constructor
  refine ES.cond rfl (fun ht => ?_) (fun hf => ?_)
  · rw [if_pos ht] at hle
    rw [hle]
    refine .go ?_; (repeat constructor); refine .mv ?_; refine .nc ?_; refine .fa ?_; refine EL.loadOld rfl rfl rfl rfl rfl hrd rfl ?_
    refine EL.ofRV (RV.minI rfl rfl) rfl rfl rfl (by intro c h; cases h) ?_
    refine .as_ ?_; refine .go ?_; repeat constructor
    exact PX.ret rfl Tryz.results68 (.cons (.tmp rfl) .nil) (fun w hs => ⟨(), by show Ending.returned (Iv (min (lo : Int) 1)) = Ending.returned (Iv ((min lo 1 : Nat) : Int)); congr 2; omega, hs.ent (.i (by repeat constructor))⟩)
  · rw [if_neg (by rw [hf]; decide)] at hle
    rw [hle]
    refine .go ?_; (repeat constructor); refine .mv ?_; refine .nc ?_; refine .fa ?_; refine EL.loadOld rfl rfl rfl rfl rfl hrd rfl ?_; refine .as_ ?_; refine .go ?_; repeat constructor
    exact PX.ret rfl Tryz.results68 (.cons (.tmp rfl) .nil) (fun w hs => ⟨(), rfl, hs.ent (.i (by repeat constructor))⟩)
theorem kind_1 {r : RE} (h : r.kind = 1) : ∃ b, r = .byte b := by cases r <;> first | (simp [RE.kind] at h; done) | exact ⟨_, rfl⟩
theorem kind_2 {r : RE} (h : r.kind = 2) : r = .bol := by cases r <;> first | (simp [RE.kind] at h; done) | rfl
theorem kind_3 {r : RE} (h : r.kind = 3) : r = .eol := by cases r <;> first | (simp [RE.kind] at h; done) | rfl
theorem kind_6 {r : RE} (h : r.kind = 6) : ∃ n, r = .back n := by cases r <;> first | (simp [RE.kind] at h; done) | exact ⟨_, rfl⟩
theorem kind_5 {r : RE} (h : r.kind = 5) : ∃ lo hi k, r = .rep lo hi k := by cases r <;> first | (simp [RE.kind] at h; done) | exact ⟨_, _, _, rfl⟩
theorem kind_le (r : RE) : r.kind ≤ 6 := by cases r <;> simp [RE.kind]
theorem set_cells (r : RE) (kv : Value) : ∀ i u, [Wv r.set.a, Wv r.set.b, Wv r.set.c, Wv r.set.d][i]? = some u → (reCells r kv)[1 + i]? = some u := by
  intro i u hi
  rw [Nat.add_comm]
  simp only [reCells, List.getElem?_cons_succ]
  rcases i with _ | _ | _ | _ | i <;> simp_all
end Go.Proofs.YthcbjbkheodejaaGreat
namespace Go.Proofs.YthcbjbkheodejaaGreat.Sl
open Go Go.RowKit
structure MK where
  g : Nat
  off : Nat
  is : List Int
deriving DecidableEq
def MK.cells (k : MK) : Array Value := (Pv k.g k.off :: k.is.map fun i : Int => Iv i).toArray
abbrev MK.val (k : MK) : Value := .agg k.cells
section eq
variable {P : Program} (T : TyTab P)
end eq
theorem Sat.rules {w0 w : World} {B : Nat} {Hs Hs' R : List HA} (h : Sat w0 B (Hs ++ R) w) (hf : (fps Hs).Perm (fps Hs')) (hA : (∀ X ∈ Hs, X.holds w) → ∀ Y ∈ Hs', Y.holds w) : Sat w0 B (Hs' ++ R) w := by
  have hp : (fps (Hs ++ R)).Perm (fps (Hs' ++ R)) := by rw [fps_append, fps_append]; exact hf.append_right _
  refine ⟨h.below, h.base, hp.nodup_iff.1 h.nodup, fun g hg => h.lo g (hp.mem_iff.2 hg), fun X hX => ?_⟩
  rcases List.mem_append.1 hX with hX | hX
  · exact hA (fun Y hY => h.all Y (by simp [hY])) X hX
  · exact h.all X (by simp [hX])
theorem wps_B (C : Cx) (w1 : World) (B1 : Nat) (Q : Qt) : ∀ cs, wps { C with w0 := w1, B := B1 } cs Q = wps C cs Q
  | [] => rfl
  | c :: cs => by simp only [wps, wps_B C w1 B1 Q cs]
theorem ES.rebase {C : Cx} {cs : List Code} {Q : Qt} {E : Env} {H : List HA} (h : ∀ w1, Sat C.w0 C.B H w1 → ES { C with w0 := w1, B := w1.heap.size } cs Q E []) : ES C cs Q E H := fun a w ha => by
  have h1 := h w ha.2 a w ⟨ha.1, Sat.start w⟩
  rw [wps_B] at h1
  exact h1
section maps
variable {C : Cx} {all : Array Oper} {ops : List Oper} {Q : Qt} {E : Env} {H H' R : List HA} {d ty t t' : Nat} {pos : String} {af : Array Edge} {gd : Option (Nat × Bool)} {x y z : Operand}
theorem RV.loadOldA {ti : TI} {g off j : Nat} {cs vs : List Value} (hx : E.ev x = some (Pv g (off + j))) (ht : C.T.f t = some ti) (hu : ti.agg = true) (hl : ti.size = vs.length) (hpos : 0 < vs.length) (hr : Rd C.w0 C.B (some ⟨g, off, none⟩) cs) (hc : ∀ i u, vs[i]? = some u → cs[j + i]? = some u) : RunV C E H ⟨some d, .load t x, ty, pos, af, gd⟩ (.agg vs.toArray) :=
  RV.loadAgg (cs := vs) hx ht hu hl (fun w hs i u hi => by
    have hci := hc i u hi
    have hne : cs ≠ [] := fun e => by rw [e] at hci; simp at hci
    obtain ⟨g', off', h1, h2, h3⟩ := hr.sat hs hne
    simp only [Option.some.injEq, Addr.mk.injEq] at h1
    obtain ⟨rfl, rfl, _⟩ := h1
    have := h3 (j + i) u hci
    rw [add_n, Nat.add_assoc]
    exact this)
end maps
end Go.Proofs.YthcbjbkheodejaaGreat.Sl
namespace Go.Proofs.YthcbjbkheodejaaGreat.Sl
open Go Go.RowKit
section cuts
variable {C : Cx} {cs : List Code} {Q : Qt} {E E' : Env} {H H' : List HA}
def CutE {X Y : Type} (C : Cx) (id : Nat) (Ex : X → Env) (Hx : X → List HA) (Ey : Y → Env) (Hy : Y → List HA) : Qt := fun e a w => match e with
  | .normal => ∃ x, At C (Ex x) (Hx x) a w
  | .exit j => j = id ∧ ∃ y, At C (Ey y) (Hy y) a w
  | _ => False
theorem ES.cutE {X Y : Type} {c : Code} (id : Nat) (Ex : X → Env) (Hx : X → List HA) (Ey : Y → Env) (Hy : Y → List HA) (h : ES C [c] (CutE C id Ex Hx Ey Hy) E H) (k : ∀ x, ES C cs Q (Ex x) (Hx x)) (k2 : ∀ y, PX C Q (.exit id) (Ey y) (Hy y)) : ES C (c :: cs) Q E H := by
  intro a w ha
  refine wpIn_mono (h a w ha) ?_
  intro e a' w' hq
  cases e with
  | normal =>
    obtain ⟨x, hx⟩ := (hq : CutE C id Ex Hx Ey Hy .normal a' w')
    exact k x a' w' hx
  | exit j =>
    obtain ⟨rfl, y, hy⟩ := (hq : CutE C id Ex Hx Ey Hy (.exit j) a' w')
    exact k2 y a' w' hy
  | _ => exact (hq : False).elim
theorem PX.cutEn {X Y : Type} {id : Nat} {Ex : X → Env} {Hx : X → List HA} {Ey : Y → Env} {Hy : Y → List HA} (x : X) (he : Has E (Ex x)) (hh : Ent H (Hx x)) : PX C (CutE C id Ex Hx Ey Hy) .normal E H := fun a w h => ⟨x, h.sub he hh⟩
theorem PX.cutEx {X Y : Type} {id : Nat} {Ex : X → Env} {Hx : X → List HA} {Ey : Y → Env} {Hy : Y → List HA} (y : Y) (he : Has E (Ey y)) (hh : Ent H (Hy y)) : PX C (CutE C id Ex Hx Ey Hy) (.exit id) E H := fun a w h => ⟨rfl, y, h.sub he hh⟩
def CutW {X : Type} (C : Cx) (Q : Qt) (Ex : X → Env) (Hx : X → List HA) : Qt := fun e a w => match e with
  | .normal => ∃ x, At C (Ex x) (Hx x) a w
  | e => Q e a w
theorem ES.cutW {X : Type} {c : Code} (Ex : X → Env) (Hx : X → List HA) (h : ES C [c] (CutW C Q Ex Hx) E H) (k : ∀ x, ES C cs Q (Ex x) (Hx x)) : ES C (c :: cs) Q E H := by
  intro a w ha
  refine wpIn_mono (h a w ha) ?_
  intro e a' w' hq
  cases e with
  | normal =>
    obtain ⟨x, hx⟩ := (hq : CutW C Q Ex Hx .normal a' w')
    exact k x a' w' hx
  | _ => exact hq
theorem PX.cutWn {X : Type} {Ex : X → Env} {Hx : X → List HA} (x : X) (he : Has E (Ex x)) (hh : Ent H (Hx x)) : PX C (CutW C Q Ex Hx) .normal E H := fun a w h => ⟨x, h.sub he hh⟩
theorem PX.cutWr {X : Type} {Ex : X → Env} {Hx : X → List HA} (k : PX C Q .ret E H) : PX C (CutW C Q Ex Hx) .ret E H := k
theorem ES.know {P : Prop} (h : ∀ w, Sat C.w0 C.B H w → P) (k : P → ES C cs Q E H) : ES C cs Q E H := fun a w ha => k (h w ha.2) a w ha
end cuts
section slices
variable {C : Cx} {E : Env} {H : List HA} {d ty t : Nat} {pos : String} {af : Array Edge} {gd : Option (Nat × Bool)} {x y z : Operand}
theorem RV.sliceLHk {ti te : TI} {el lo hi n cap g off : Nat} {kd kd' : IntKind} (hx : E.ev x = some (.slice (some ⟨g, off, none⟩) n cap)) (hy : E.ev y = some (.int kd (lo : Nat))) (hz : E.ev z = some (.int kd' (hi : Nat))) (ht : C.T.f t = some ti) (hu : ti.u = .slice el) (hte : C.T.f el = some te) (hlo : lo ≤ hi) (hhi : hi ≤ cap) (hlt : lo < cap) :
    RunV C E H ⟨some d, .slice t x (some y) (some z) none, ty, pos, af, gd⟩ (.slice (some ⟨g, off + lo * te.size, none⟩) (hi - lo) (cap - lo)) := fun a w ha => by
  have hT := (C.T.ok t ti ht).u
  rw [hu] at hT
  have hI := (C.T.ok el te hte).runInfo w
  have h1 : cap ≠ lo := by omega
  simp [execOp, ha.1.ev hx, ha.1.ev hy, ha.1.ev hz, Instr.sliceAt, Instr.slice, Instr.sliceBounds, Instr.sliceBound, asIntOf, run_underlying hT, hI.1, Result.andThen, h1, hlo, hhi, add_n]
theorem RV.sliceLk {ti te : TI} {el lo n cap g off : Nat} {kd : IntKind} (hx : E.ev x = some (.slice (some ⟨g, off, none⟩) n cap)) (hy : E.ev y = some (.int kd (lo : Nat))) (ht : C.T.f t = some ti) (hu : ti.u = .slice el) (hte : C.T.f el = some te) (hlo : lo ≤ n) (hn : n ≤ cap) (hlt : lo < cap) :
    RunV C E H ⟨some d, .slice t x (some y) none none, ty, pos, af, gd⟩ (.slice (some ⟨g, off + lo * te.size, none⟩) (n - lo) (cap - lo)) := fun a w ha => by
  have hT := (C.T.ok t ti ht).u
  rw [hu] at hT
  have hI := (C.T.ok el te hte).runInfo w
  have h1 : cap ≠ lo := by omega
  simp [execOp, ha.1.ev hx, ha.1.ev hy, Instr.sliceAt, Instr.slice, Instr.sliceBounds, Instr.sliceBound, asIntOf, run_underlying hT, hI.1, Result.andThen, h1, hlo, hn, add_n]
end slices
section funcs
variable {C : Cx} {all : Array Oper} {ops : List Oper} {Q : Qt} {E : Env} {H R : List HA} {d ty t t' : Nat} {pos : String} {af : Array Edge} {gd : Option (Nat × Bool)} {x y : Operand}
theorem run_equal_ft {P : Program} {t : Nat} {ps rs : Array TypeId} {v : Bool} (hT : P.underlying t = some (.func ps rs v)) (f : Fn) (a b : Array Value) (w : World) : (Op.equal t (.func f a b) .nilFunc).run P w = .ok false w := by
  have key : ∀ d, (Op.equalIn (d + 1) t (.func f a b) .nilFunc).run P w = .ok false w := fun d => by
    simp only [Op.equalIn, Sem.run_bind, run_underlying hT, Result.andThen, Sem.run_pure]
  exact key 9999
theorem EL.eqlFt {f : Fn} {a b : Array Value} {ti : TI} {ps rs : Array TypeId} {v : Bool} (hg : guardOk all E gd = some true) (hx : E.ev x = some (.func f a b)) (hy : E.ev y = some .nilFunc) (ht : C.T.f t = some ti) (hu : ti.u = .func ps rs v) (hd : Nat.blt d C.n = true) (k : EL C all ops Q ((d, .bool false) :: E) H) : EL C all (⟨some d, .binOp .eql t x y t', ty, pos, af, gd⟩ :: ops) Q E H :=
  EL.val _ hg rfl hd (by simp) (fun ac w ha => by
    have hT := (C.T.ok t ti ht).u
    rw [hu] at hT
    simp only [execOp, ha.1.ev hx, ha.1.ev hy, eqGuard, binOp, Sem.run_bind, Sem.run_pure, run_equal_ft hT, Result.andThen]
    rfl) k
theorem EL.makeBound {f : Nat} {ar : Array Operand} {vs : List Value} (hg : guardOk all E gd = some true) (ha : E.evl ar.toList = some vs) (hd : Nat.blt d C.n = true)
    (k : EL C all ops Q ((d, .func (.func f) vs.toArray #[]) :: E) H) : EL C all (⟨some d, .makeFunc (.func f) ar #[], ty, pos, af, gd⟩ :: ops) Q E H :=
  EL.val _ hg rfl hd (by simp) (fun a w hat => by
    have hm : ar.map a.eval = vs.toArray := by
      have := hat.1.evl ha
      apply Array.ext'
      simpa using this
    simp [execOp, Instr.makeFunc, hm, Result.andThen]) k
theorem EL.callB {X : Type} {fo : Operand} {ar : Array Operand} {tys : Array TypeId} {f : FuncId} {bs vs : List Value} {Hq : List HA} {val : X → Value} {HX : X → List HA} (hg : guardOk all E gd = some true) (hf : E.ev fo = some (.func (.func f) bs.toArray #[])) (ha : E.evl ar.toList = some vs)
    (he : Enters C.P f) (hd : Nat.blt d C.n = true) (hc : MutAt C.P f (bs ++ vs).toArray Hq val HX C.w0 C.B) (tk : Takes H Hq R)
    (k : ∀ x, EL C all ops Q ((d, val x) :: E) (HX x ++ R)) : EL C all (⟨some d, .call { callee := .value fo, args := ar, argTypes := tys }, ty, pos, af, gd⟩ :: ops) Q E H := by
  intro a w hat
  simp only [wpListIn, guardOk_wanted (o := ⟨some d, .call { callee := .value fo, args := ar, argTypes := tys }, ty, pos, af, gd⟩) hg hat.1, if_true]
  refine ⟨fun _ _ => trivial, ?_⟩
  rw [sem_plain (by simp)]
  have hm : ar.map a.eval = vs.toArray := by
    have := hat.1.evl ha
    apply Array.ext'
    simpa using this
  have hrun : (execOp a.eval ⟨some d, .call { callee := .value fo, args := ar, argTypes := tys }, ty, pos, af, gd⟩).run C.P w = .ok (.enter f (bs ++ vs).toArray) w := by
    simp only [execOp, resolve, hat.1.ev hf, hm, Deferred.ofValue, Sem.run_bind, Sem.run_pure, Result.andThen, invoke]
    rw [show (bs.toArray ++ vs.toArray ++ #[]) = (bs ++ vs).toArray by simp]
    exact he _ w
  rw [hrun]
  refine ⟨fun h => by simp [F0] at h, ?_⟩
  refine callsIn_F0 ((hc R w (hat.2.perm tk.perm)).mono ?_)
  rintro e w' ⟨x, rfl, hs⟩
  exact k x _ _ ⟨hat.1.put (by simpa using hd) _, hs⟩
end funcs
end Go.Proofs.YthcbjbkheodejaaGreat.Sl
namespace Go.Proofs.YthcbjbkheodejaaGreat
open Go Go.RowKit Sl
set_option maxRecDepth 100000
set_option maxHeartbeats 8000000
attribute [local irreducible] ES EL PX wps
theorem pokL_iff : ∀ ks : List RE, pokL ks ↔ ∀ k ∈ ks, k.pok
  | [] => by simp [pokL]
  | k :: ks => by rw [pokL, pokL_iff ks]; simp
theorem pok_le : ∀ {r : RE}, r.pok → posR r ≤ 131072
  | .cat ks, h => by rw [posR]; rw [RE.pok] at h; exact h.2.1
  | .byte _, _ => by rw [posR]; omega
  | .bol, _ => by rw [posR]; omega
  | .eol, _ => by rw [posR]; omega
  | .group _ k, h => by rw [posR]; rw [RE.pok] at h; exact pok_le h
  | .rep lo hi k, h => by rw [posR]; rw [RE.pok] at h; exact h.1
  | .back _, _ => by rw [posR]; omega
theorem pok_kid {r k : RE} (h : r.pok) (hk : k ∈ r.kids) : k.pok := by
  cases r <;> simp only [RE.kids, List.mem_cons, List.not_mem_nil, or_false] at hk
  · rw [RE.pok] at h; exact (pokL_iff _).1 h.2.2 k hk
  · subst hk; rw [RE.pok] at h; exact h
  · subst hk; rw [RE.pok] at h; exact h.2
theorem pok_sum {r : RE} (h : r.pok) : r.kids.length ≤ 1048576 ∧ posL r.kids ≤ 131072 := by
  cases r <;> simp only [RE.kids, List.length_nil, List.length_singleton, posL]
  · rw [RE.pok] at h; exact ⟨h.1, h.2.1⟩
  · exact ⟨by omega, by omega⟩
  · exact ⟨by omega, by omega⟩
  · exact ⟨by omega, by omega⟩
  · rw [RE.pok] at h; exact ⟨by omega, by have := pok_le h; omega⟩
  · rw [RE.pok] at h; exact ⟨by omega, by have := pok_le h.2; omega⟩
  · exact ⟨by omega, by omega⟩
def finP (k lo : Nat) (hi : Int) (n : Nat) : Nat := if k = 1 ∨ k = 6 then 1 else if k = 5 then n * timesM lo hi else n
theorem pos_fin (r : RE) : posR r = finP r.kind r.lo r.hi (posL r.kids) := by
  cases r <;> simp [posR, finP, RE.kind, RE.kids, RE.lo, RE.hi, posL]
theorem posL_take (ks : List RE) (i : Nat) (h : i < ks.length) : posL (ks.take (i + 1)) = posL (ks.take i) + posR ks[i] := by
  rw [posL_sum, posL_sum, List.take_succ_eq_append_getElem h, List.map_append, List.sum_append]
  simp
theorem posL_take_le (ks : List RE) (i : Nat) : posL (ks.take i) ≤ posL ks := by
  rw [posL_sum, posL_sum]
  conv => rhs; rw [← List.take_append_drop i ks, List.map_append, List.sum_append]
  omega
theorem dpos_n (n : Nat) : ∀ r : RE, r.sz ≤ n → r.pok → ∀ (ad : Option Addr) (cap : Nat) (w : World), KidsRd w w.heap.size r.kids ad →
    Pure Tryz.prog 70 #[.agg (reCells r (.slice ad r.kids.length cap)).toArray] (fun _ : Unit => Iv (posR r : Nat)) (fun _ => []) w := by
  induction n with
  | zero => intro r hr; exact absurd (sz_pos r) (by omega)
  | succ n ih =>
    intro r hsz hpok ad cap w hkids
    have hkl := pok_sum hpok
    have hle := pok_le hpok
    have hfin := pos_fin r
    have htake := posL_take_le r.kids
    refine calls_of_ES TB Tryz.func70 rfl _ Tryz.ntmps70 rfl (Sat.start w) ?_; refine .go ?_; (repeat constructor); (refine .bx ?_; intro g1); refine .as_ ?_; refine .go ?_; (repeat constructor); refine .as_ ?_; refine .go ?_; (repeat constructor); refine .as_ ?_; refine .go ?_; repeat constructor
    refine ES.loop (σ := Nat) (fun i => i ≤ r.kids.length) (fun i => [(1, Pv g1 0), (2, Iv 0), (3, Iv (posL (r.kids.take i) : Nat)), (4, Iv (i : Nat))])
      (fun i => HA.blk g1 (.cells (reCells r (.slice ad r.kids.length cap)).toArray 46) :: []) (fun i => r.kids.length - i) 0 (Nat.zero_le _) ⟨rfl, rfl, rfl, rfl, trivial⟩ (.i (by repeat constructor)) ?_
    intro i hi
    dsimp only at hi ⊢
    refine .go ?_; (repeat constructor); refine .mv ?_; refine .fa ?_; refine .lb ?_; refine .lL ?_; refine .ls ?_; refine .go ?_; repeat constructor
    refine ES.condD rfl (fun hlt => ?_) (fun hge => ?_)
    · have hlt' : i < r.kids.length := by omega
      obtain ⟨k, hki⟩ : ∃ k, r.kids[i]? = some k := ⟨_, List.getElem?_eq_getElem hlt'⟩
      have hmem := List.mem_of_getElem? hki
      have hks := kids_lt hmem
      have htk := posL_take r.kids i hlt'
      rw [show r.kids[i] = k from (List.getElem?_eq_some_iff.1 hki).2] at htk
      have ht1 := htake (i + 1)
      obtain ⟨kg, ko, rfl, hkn⟩ := hkids i k hki
      obtain ⟨kad, kcap, hkrd, hkk⟩ := hkn.kids
      have hkrd2 : Rd w w.heap.size (some ⟨kg, ko + i * 9, none⟩) (reCells k (.slice kad k.kids.length kcap)) := hkrd.rd
      have hrec := ih k (by omega) (pok_kid hpok hmem) kad kcap
      refine .go ?_; (repeat constructor); refine .mv ?_; refine .fa ?_; refine .lb ?_; refine .mv ?_; refine EL.indexAddrL rfl rfl rfl rfl rfl rfl rfl (by omega) ?_
      refine EL.loadOldA (j := 0) (vs := reCells k (.slice kad k.kids.length kcap)) rfl rfl rfl rfl rfl (by simp [reCells]) rfl hkrd2 (fun i u hi => by rw [Nat.zero_add]; exact hi) ?_
      refine EL.callPw rfl rfl rfl ent70 rfl (fun w' hs => hrec w' (fun i' k' hi' => by obtain ⟨g', o', e1, e2⟩ := hkk (by intro e; rw [e] at hi'; simp at hi'); exact ⟨g', o', e1, NodeRd.sat (e2 i' k' hi') hs⟩)) ?_
      refine EL.addN rfl rfl rfl rfl rfl (by omega) ?_; refine .as_ ?_; refine .go ?_; (repeat constructor); refine .go ?_; (repeat constructor); refine .mv ?_; refine .a1 ?_; refine .as_ ?_; refine .go ?_; repeat constructor
      exact .lx (i + 1) (by omega) (by omega) ⟨rfl, rfl, getA rfl (congrArg (fun n : Nat => Iv (n : Nat)) htk.symm), rfl, trivial⟩
    · obtain rfl : i = r.kids.length := by omega
      rw [List.take_length]
      refine .go ?_; (repeat constructor); refine .fa ?_; refine .lb ?_; refine .go ?_; (repeat constructor); refine .go ?_; (repeat constructor); refine .ei ?_; refine .as_ ?_; refine .go ?_; repeat constructor
      refine ES.condD rfl (fun h1 => ?_) (fun h1 => ?_)
      · have hk : r.kind = 1 := by have h : ((r.kind : Nat) : Int) = 1 := h1; omega
        rw [hfin, show finP r.kind r.lo r.hi (posL r.kids) = 1 by unfold finP; rw [if_pos (.inl hk)]]
        refine .go ?_; (repeat constructor); refine ES.condK true rfl (decide_eq_true h1) ?_; refine .go ?_; (repeat constructor); refine .as_ ?_; refine .go ?_; repeat constructor
        exact PX.ret rfl Tryz.results70 (.cons (.tmp rfl) .nil) (fun w hs => ⟨(), rfl, hs.ent (.nil _)⟩)
      have hk1 : ¬ r.kind = 1 := by have h : ¬ ((r.kind : Nat) : Int) = 1 := h1; omega
      refine .go ?_; (repeat constructor); refine .ei ?_; refine .as_ ?_; refine .go ?_; repeat constructor
      refine ES.condD rfl (fun h6 => ?_) (fun h6 => ?_)
      · have hk : r.kind = 6 := by have h : ((r.kind : Nat) : Int) = 6 := h6; omega
        rw [hfin, show finP r.kind r.lo r.hi (posL r.kids) = 1 by unfold finP; rw [if_pos (.inr hk)]]
        refine .go ?_; (repeat constructor); refine .as_ ?_; refine .go ?_; repeat constructor
        exact PX.ret rfl Tryz.results70 (.cons (.tmp rfl) .nil) (fun w hs => ⟨(), rfl, hs.ent (.nil _)⟩)
      have hk6 : ¬ r.kind = 6 := by have h : ¬ ((r.kind : Nat) : Int) = 6 := h6; omega
      refine .go ?_; (repeat constructor); refine .ei ?_; refine .as_ ?_; refine .go ?_; repeat constructor
      refine ES.condD rfl (fun h5 => ?_) (fun h5 => ?_)
      · have hk : r.kind = 5 := by have h : ((r.kind : Nat) : Int) = 5 := h5; omega
        have hf5 : posR r = posL r.kids * timesM r.lo r.hi := by rw [hfin]; unfold finP; rw [if_neg (by omega), if_pos hk]
        have htm : timesM r.lo r.hi = if r.hi < 0 then max r.lo 1 else r.hi.toNat := rfl
        refine .go ?_; (repeat constructor); refine .fa ?_; refine .lb ?_; refine .gq ?_; refine .go ?_; repeat constructor
        refine ES.condD rfl (fun hp => ?_) (fun hn => ?_)
        · have hp : 0 ≤ r.hi := hp
          rw [if_neg (by omega)] at htm
          rw [htm] at hf5
          have hmul : IntKind.i64.wrap ((posL r.kids : Int) * r.hi) = ((posR r : Nat) : Int) := by
            rw [hf5] at hle ⊢
            rw [Int.natCast_mul, Int.toNat_of_nonneg hp]
            have e : ((posL r.kids * r.hi.toNat : Nat) : Int) = (posL r.kids : Int) * r.hi := by rw [Int.natCast_mul, Int.toNat_of_nonneg hp]
            exact wrap_i64 _ (by rw [← e]; omega) (by rw [← e]; omega)
          refine .go ?_; (repeat constructor); refine .mv ?_; refine .fa ?_; refine .lb ?_; refine EL.mul ((posR r : Nat) : Int) rfl rfl rfl rfl hmul ?_; refine .as_ ?_; refine .go ?_; repeat constructor
          exact PX.ret rfl Tryz.results70 (.cons (.tmp rfl) .nil) (fun w hs => ⟨(), rfl, hs.ent (.nil _)⟩)
        have hn : ¬ 0 ≤ r.hi := hn
        rw [if_pos (by omega)] at htm
        rw [htm] at hf5
        refine .go ?_; (repeat constructor); refine .fa ?_; refine .lb ?_; refine .gt_ ?_; refine .go ?_; repeat constructor
        refine ES.condD rfl (fun hl => ?_) (fun hl => ?_)
        · have hl : (0 : Int) < (r.lo : Nat) := hl
          rw [Nat.max_eq_left (by omega)] at hf5
          rw [hf5] at hle
          rw [hf5]
          refine .go ?_; (repeat constructor); refine .mv ?_; refine .fa ?_; refine .lb ?_; refine EL.mulN (m := posL r.kids) (n := r.lo) rfl rfl rfl rfl rfl (by omega) ?_; refine .as_ ?_; refine .go ?_; repeat constructor
          exact PX.ret rfl Tryz.results70 (.cons (.tmp rfl) .nil) (fun w hs => ⟨(), rfl, hs.ent (.nil _)⟩)
        · have hl : ¬ (0 : Int) < (r.lo : Nat) := hl
          rw [Nat.max_eq_right (by omega), Nat.mul_one] at hf5
          rw [hf5]
          refine .go ?_; (repeat constructor); refine .mv ?_; refine .as_ ?_; refine .go ?_; repeat constructor
          exact PX.ret rfl Tryz.results70 (.cons (.tmp rfl) .nil) (fun w hs => ⟨(), rfl, hs.ent (.nil _)⟩)
      · have hk : ¬ r.kind = 5 := by have h : ¬ ((r.kind : Nat) : Int) = 5 := h5; omega
        rw [hfin, show finP r.kind r.lo r.hi (posL r.kids) = posL r.kids by unfold finP; rw [if_neg (by omega), if_neg hk]]
        refine .go ?_; (repeat constructor); refine .mv ?_; refine .as_ ?_; refine .go ?_; repeat constructor
        exact PX.ret rfl Tryz.results70 (.cons (.tmp rfl) .nil) (fun w hs => ⟨(), rfl, hs.ent (.nil _)⟩)
theorem dpos_c (r : RE) (hp : r.pok) (ad : Option Addr) (cap : Nat) (w : World) (h : KidsRd w w.heap.size r.kids ad) : Pure Tryz.prog 70 #[.agg (reCells r (.slice ad r.kids.length cap)).toArray] (fun _ : Unit => Iv (posR r : Nat)) (fun _ => []) w := dpos_n r.sz r (Nat.le_refl _) hp ad cap w h
theorem aln_is (b : UInt8) : isAln b = decide ((48 ≤ b.toNat ∧ b.toNat ≤ 57) ∨ (97 ≤ b.toNat ∧ b.toNat ≤ 122) ∨ (65 ≤ b.toNat ∧ b.toNat ≤ 90)) := by
  have h : ∀ n, n < 256 → isAln (UInt8.ofNat n) = decide ((48 ≤ (UInt8.ofNat n).toNat ∧ (UInt8.ofNat n).toNat ≤ 57) ∨ (97 ≤ (UInt8.ofNat n).toNat ∧ (UInt8.ofNat n).toNat ≤ 122) ∨ (65 ≤ (UInt8.ofNat n).toNat ∧ (UInt8.ofNat n).toNat ≤ 90)) := by decide +kernel
  have := h b.toNat b.toNat_lt
  rwa [UInt8.ofNat_toNat] at this
theorem desc_c (g : Nat) (t : List UInt8) (r : DR) (hr : DOk t r) (ht : t.length ≤ 1073741824) (ha : r.at_ < t.length) : Mut Tryz.prog 92 #[Pv g 0] [DRB g t r] (fun _ : Unit => .agg (reCells (dEsc t r).1 (.slice none 0 0)).toArray) (fun _ => [DRB g t (dEsc t r).2]) := by
  intro w0 B R w h
  obtain ⟨a, e0, pl, gr, sh, sz⟩ := r
  obtain ⟨hsh, hlo, hhi, _⟩ := hr
  dsimp only at hsh hlo hhi ha
  replace h : Sat w0 B (RB g t a e0 pl gr (CT sh sz) :: R) w := h
  obtain ⟨r1, hr1⟩ : ∃ r1 : DR, r1 = ⟨a + 2, e0, pl, gr, sh, sz⟩ := ⟨_, rfl⟩
  have hes : dEsc t ⟨a, e0, pl, gr, sh, sz⟩ = (if a + 1 = t.length then (.cat [], DR.fail ⟨a, e0, pl, gr, sh, sz⟩ 6 a)
    else if (t.getD (a + 1) 0).toNat = 110 then (.byte (ofS [10]), r1.grown 1 a)
    else if 49 ≤ (t.getD (a + 1) 0).toNat ∧ (t.getD (a + 1) 0).toNat ≤ 57 then (.back ((t.getD (a + 1) 0).toNat - 48), (if sh.getD ((t.getD (a + 1) 0).toNat - 48) false = true then r1 else r1.fail 11 a).grown 1 a)
    else if isAln (t.getD (a + 1) 0) = true then (.byte (ofS [t.getD (a + 1) 0]), (r1.fail 12 a).grown 1 a)
    else (.byte (ofS [t.getD (a + 1) 0]), r1.grown 1 a)) := by rw [hr1]; rfl
  have hg1 := fun (r : DR) (h1 : r.closed = sh) (h2 : r.size = sz) => dgrown_c g t r 1 a (by rw [h1]; exact hsh) (by omega) (by omega)
  have hb := (t.getD (a + 1) 0).toNat_lt
  have hal := aln_is (t.getD (a + 1) 0)
  have hff := fun (r : DR) (e : Int) => dfail_r g t r e a
  have hfs : ∀ (r : DR) (e : Int), (r.fail e a).closed = r.closed ∧ (r.fail e a).size = r.size := fun r e => by unfold DR.fail; split <;> exact ⟨rfl, rfl⟩
  refine calls_of_ES TB Tryz.func92 rfl _ Tryz.ntmps92 rfl h ?_; refine .go ?_; (repeat constructor); (refine .al ?_; intro g2); refine .go ?_; (repeat constructor); refine .mv ?_; refine .nc ?_; refine .fa ?_; refine .lb ?_; refine .as_ ?_; refine .go ?_; (repeat constructor); refine .mv ?_; refine .a1 ?_; refine .mv ?_; refine .nc ?_; refine .fa ?_; refine .lb ?_; refine .lS ?_; refine .ei ?_; refine .go ?_; repeat constructor
  refine ES.condD rfl (fun hend => ?_) (fun hend => ?_)
  · rw [if_pos (by omega)] at hes
    rw [hes]
    refine .go ?_; (repeat constructor); refine .mv ?_; refine .mv ?_; refine EL.callM1 rfl rfl rfl ent75 rfl (hff ⟨a, e0, pl, gr, sh, sz⟩ 6) (by repeat constructor) ?_; refine .go ?_; (repeat constructor); refine EL.buildZ rfl rfl rfl rfl rfl ?_; refine .sa ?_; refine .go ?_; repeat constructor
    exact PX.ret rfl Tryz.results92 (.cons (.blkA rfl rfl rfl (by repeat constructor) rfl) .nil) (fun w hs => ⟨(), rfl, hs.ent (.i (by repeat constructor))⟩)
  rw [if_neg (by omega)] at hes
  refine .go ?_; (repeat constructor); refine .mv ?_; refine .nc ?_; refine .fa ?_; refine .lb ?_; refine .mv ?_; refine .a1 ?_; refine .iS ?_; refine .as_ ?_; refine .go ?_; (repeat constructor); refine .mv ?_; refine .nc ?_; refine .fa ?_; refine .lb ?_; refine EL.addN (n := 2) rfl rfl rfl rfl rfl (by omega) ?_; refine .nc ?_; refine .fa ?_
  (refine EL.storeB rfl rfl rfl rfl rfl rfl (by repeat constructor) (by simp) ?_; refine EL.blkEq (g := g) (by repeat constructor) (congrArg (fun a => Obj.cells a 127 (0, 0)) (rd_set1 _ _ _ _ _ _ _)) ?_)
  refine .go ?_; repeat constructor
  refine EL.imp (H' := DRB g t r1 :: HA.blk g2 (.cells (reCells (.cat []) (.slice none 0 0)).toArray 46) :: R) (fun w hs => by rw [hr1]; exact hs.ent (.i (by repeat constructor))) ?_
  generalize t.getD (a + 1) 0 = b at hes hb hal ⊢
  have hr1c : r1.closed = sh ∧ r1.size = sz := by rw [hr1]; exact ⟨rfl, rfl⟩
  refine .go ?_; (repeat constructor); refine .mv ?_; refine .ei ?_; refine .as_ ?_; refine .go ?_; repeat constructor
  refine ES.condD rfl (fun hn => ?_) (fun hn => ?_)
  · rw [if_pos (by omega)] at hes
    rw [hes]
    refine .go ?_; (repeat constructor); refine .mv ?_; refine .mv ?_; refine EL.callM1 rfl rfl rfl ent94 rfl (hg1 r1 hr1c.1 hr1c.2) (by repeat constructor) ?_; refine .go ?_; (repeat constructor); refine EL.callP rfl rfl rfl ent96 rfl (dbytes_c 10) ?_; refine .sa ?_; refine .go ?_; repeat constructor
    exact PX.ret rfl Tryz.results92 (.cons (.blkA rfl rfl rfl (by repeat constructor) rfl) .nil) (fun w hs => ⟨(), rfl, hs.ent (.i (by repeat constructor))⟩)
  rw [if_neg (by omega)] at hes
  refine .go ?_; repeat constructor
  refine EL.cutX (X := Unit) (fun _ => [(0, Pv g 0), (2, Pv g2 0), (3, Iv (a : Nat)), (4, Uv b), (42, .bool (decide (49 ≤ b.toNat ∧ b.toNat ≤ 57)))]) (fun _ => DRB g t r1 :: HA.blk g2 (.cells (reCells (.cat []) (.slice none 0 0)).toArray 46) :: R) ?_ (fun _ => ?_)
  · refine .go ?_; (repeat constructor); refine .mv ?_; refine .gq ?_; refine .mv ?_
    first | refine EL.splitD (d := 45) rfl (fun hp45 => ?_) (fun hp45 => ?_) | refine EL.splitN (d := 45) rfl (fun hp45 => ?_) (fun hp45 => ?_) | refine EL.splitB (d := 45) rfl (fun hp45 => ?_) (fun hp45 => ?_)
    · refine .mv ?_; refine .lq ?_; refine .pt ?_; refine .as_ ?_
      exact .dx () ⟨rfl, rfl, rfl, rfl, getA rfl (congrArg Value.bool (by rw [Bool.eq_iff_iff]; simp only [decide_eq_true_eq, Bool.false_eq_true, false_iff]; omega)), trivial⟩
    · refine .ps ?_; refine .ps ?_; refine .pf ?_; refine .as_ ?_
      exact .dx () ⟨rfl, rfl, rfl, rfl, getA rfl (congrArg Value.bool (by rw [Bool.eq_iff_iff]; simp only [decide_eq_true_eq, Bool.false_eq_true, false_iff]; omega)), trivial⟩
  refine ES.condD rfl (fun hd => ?_) (fun hd => ?_)
  · rw [if_pos hd] at hes
    rw [hes]
    obtain ⟨k, hk⟩ : ∃ k, k = b.toNat - 48 := ⟨_, rfl⟩
    have hkl : k < sh.length := by omega
    obtain ⟨r2, hr2⟩ : ∃ r2 : DR, r2 = (if sh.getD k false = true then r1 else r1.fail 11 a) := ⟨_, rfl⟩
    have hr2c : r2.closed = sh ∧ r2.size = sz := by
      rw [hr2]; split
      · exact hr1c
      · exact ⟨(hfs r1 11).1.trans hr1c.1, (hfs r1 11).2.trans hr1c.2⟩
    rw [← hk, ← hr2]
    refine ES.imp (H' := RB g t (a + 2) e0 pl gr (CT sh sz) :: HA.blk g2 (.cells (reCells (.cat []) (.slice none 0 0)).toArray 46) :: R) (fun w hs => by rw [hr1] at hs; exact hs.ent (.i (by repeat constructor))) ?_
    refine .go ?_; (repeat constructor); refine .mv ?_; refine .mv ?_
    refine EL.ofRV (RV.subK (m := b.toNat) (n := 48) rfl rfl (by omega) (by simp only [kmax]; omega)) rfl rfl rfl (by intro c h; cases h) ?_
    refine .nc ?_; refine .fa ?_; refine EL.indexAddrA (i := b.toNat - 48) rfl rfl rfl rfl rfl rfl rfl (by omega) ?_
    refine EL.loadB rfl rfl rfl rfl rfl (by repeat constructor) (rd_shut_get t (a + 2) e0 pl gr k _ sh sz hkl (by show 0 + 5 + (b.toNat - 48) * 1 = 5 + k; omega)) ?_
    refine .nt ?_; refine .go ?_; repeat constructor
    refine ES.imp (H' := DRB g t r1 :: HA.blk g2 (.cells (reCells (.cat []) (.slice none 0 0)).toArray 46) :: R) (fun w hs => by rw [hr1]; exact hs.ent (.i (by repeat constructor))) ?_
    refine ES.cutC (X := Unit) (fun _ => [(0, Pv g 0), (2, Pv g2 0), (3, Iv (a : Nat)), (4, Uv b)]) (fun _ => DRB g t r2 :: HA.blk g2 (.cells (reCells (.cat []) (.slice none 0 0)).toArray 46) :: R) ?_ (fun _ => ?_)
    · refine ES.cond rfl (fun hc => ?_) (fun hc => ?_)
      · rw [if_neg (by rw [Bool.not_eq_true'] at hc; rw [hc]; simp)] at hr2
        rw [hr2]
        refine .go ?_; (repeat constructor); refine .mv ?_; refine .mv ?_; refine EL.callM1 rfl rfl rfl ent75 rfl (hff r1 11) (by repeat constructor) ?_; refine .go ?_; repeat constructor
        exact .cy ()
      · rw [if_pos (by rw [Bool.not_eq_false'] at hc; exact hc)] at hr2
        rw [hr2]
        refine .go ?_; repeat constructor
        exact .cy ()
    refine .go ?_; (repeat constructor); refine .mv ?_; refine .mv ?_; refine EL.callM1 rfl rfl rfl ent94 rfl (hg1 r2 hr2c.1 hr2c.2) (by repeat constructor) ?_; refine .go ?_; (repeat constructor); refine .mv ?_
    refine EL.ofRV (RV.subK (m := b.toNat) (n := 48) rfl rfl (by omega) (by simp only [kmax]; omega)) rfl rfl rfl (by intro c h; cases h) ?_
    refine EL.convN rfl rfl rfl rfl rfl rfl (by simp only [kmax]; omega) ?_
    refine EL.buildS (reCells (.back (b.toNat - 48)) (.slice none 0 0)).toArray rfl rfl rfl rfl rfl (by kernel_rfl) rfl ?_; refine .sa ?_; refine .go ?_; repeat constructor
    exact PX.ret rfl Tryz.results92 (.cons (.blkA rfl rfl rfl (by repeat constructor) rfl) .nil) (fun w hs => ⟨(), by rw [hk]; rfl, hs.ent (.i (by repeat constructor))⟩)
  rw [if_neg hd] at hes
  refine .go ?_; repeat constructor
  refine EL.cutX (X := Unit) (fun _ => [(0, Pv g 0), (2, Pv g2 0), (3, Iv (a : Nat)), (4, Uv b), (67, .bool (isAln b))]) (fun _ => DRB g t r1 :: HA.blk g2 (.cells (reCells (.cat []) (.slice none 0 0)).toArray 46) :: R) ?_ (fun _ => ?_)
  · refine .go ?_; (repeat constructor); refine .mv ?_; refine .ei ?_; refine .mv ?_
    first | refine EL.splitD (d := 70) rfl (fun hp70 => ?_) (fun hp70 => ?_) | refine EL.splitN (d := 70) rfl (fun hp70 => ?_) (fun hp70 => ?_) | refine EL.splitB (d := 70) rfl (fun hp70 => ?_) (fun hp70 => ?_)
    · refine .ps ?_; refine .ps ?_; refine .ps ?_; refine .ps ?_; refine .ps ?_; refine .ps ?_; refine .pt ?_; refine .mv ?_; refine .ps ?_; refine .ps ?_; refine .ps ?_; refine .ps ?_; refine .ps ?_; refine .ps ?_; refine .pt ?_; refine .as_ ?_
      exact .dx () ⟨rfl, rfl, rfl, rfl, getA rfl (congrArg Value.bool (by rw [hal, Bool.eq_iff_iff]; simp only [decide_eq_true_eq, Bool.false_eq_true, false_iff, true_iff]; omega)), trivial⟩
    · refine .mv ?_; refine .gq ?_; refine .mv ?_
      first | refine EL.splitD (d := 73) rfl (fun hp73 => ?_) (fun hp73 => ?_) | refine EL.splitN (d := 73) rfl (fun hp73 => ?_) (fun hp73 => ?_) | refine EL.splitB (d := 73) rfl (fun hp73 => ?_) (fun hp73 => ?_)
      · refine .mv ?_; refine .lq ?_; refine .pt ?_; refine .pf ?_; refine .mv ?_
        first | refine EL.splitD (d := 78) rfl (fun hp78 => ?_) (fun hp78 => ?_) | refine EL.splitN (d := 78) rfl (fun hp78 => ?_) (fun hp78 => ?_) | refine EL.splitB (d := 78) rfl (fun hp78 => ?_) (fun hp78 => ?_)
        · refine .ps ?_; refine .ps ?_; refine .ps ?_; refine .ps ?_; refine .ps ?_; refine .ps ?_; refine .pt ?_; refine .as_ ?_
          exact .dx () ⟨rfl, rfl, rfl, rfl, getA rfl (congrArg Value.bool (by rw [hal, Bool.eq_iff_iff]; simp only [decide_eq_true_eq, Bool.false_eq_true, false_iff, true_iff]; omega)), trivial⟩
        · refine .mv ?_; refine .gq ?_; refine .mv ?_
          first | refine EL.splitD (d := 81) rfl (fun hp81 => ?_) (fun hp81 => ?_) | refine EL.splitN (d := 81) rfl (fun hp81 => ?_) (fun hp81 => ?_) | refine EL.splitB (d := 81) rfl (fun hp81 => ?_) (fun hp81 => ?_)
          · refine .mv ?_; refine .lq ?_; refine .pt ?_; refine .pf ?_; refine .as_ ?_
            exact .dx () ⟨rfl, rfl, rfl, rfl, getA rfl (congrArg Value.bool (by rw [hal, Bool.eq_iff_iff]; simp only [decide_eq_true_eq, Bool.false_eq_true, false_iff, true_iff]; omega)), trivial⟩
          · refine .ps ?_; refine .ps ?_; refine .pf ?_; refine .pf ?_; refine .as_ ?_
            exact .dx () ⟨rfl, rfl, rfl, rfl, getA rfl (congrArg Value.bool (by rw [hal, Bool.eq_iff_iff]; simp only [decide_eq_true_eq, Bool.false_eq_true, false_iff, true_iff]; omega)), trivial⟩
      · refine .ps ?_; refine .ps ?_; refine .pf ?_; refine .pf ?_; refine .mv ?_; refine .mv ?_; refine .gq ?_; refine .mv ?_
        first | refine EL.splitD (d := 81) rfl (fun hp81 => ?_) (fun hp81 => ?_) | refine EL.splitN (d := 81) rfl (fun hp81 => ?_) (fun hp81 => ?_) | refine EL.splitB (d := 81) rfl (fun hp81 => ?_) (fun hp81 => ?_)
        · refine .mv ?_; refine .lq ?_; refine .pt ?_; refine .pf ?_; refine .as_ ?_
          exact .dx () ⟨rfl, rfl, rfl, rfl, getA rfl (congrArg Value.bool (by rw [hal, Bool.eq_iff_iff]; simp only [decide_eq_true_eq, Bool.false_eq_true, false_iff, true_iff]; omega)), trivial⟩
        · refine .ps ?_; refine .ps ?_; refine .pf ?_; refine .pf ?_; refine .as_ ?_
          exact .dx () ⟨rfl, rfl, rfl, rfl, getA rfl (congrArg Value.bool (by rw [hal, Bool.eq_iff_iff]; simp only [decide_eq_true_eq, Bool.false_eq_true, false_iff, true_iff]; omega)), trivial⟩
  obtain ⟨r2, hr2⟩ : ∃ r2 : DR, r2 = (if isAln b = true then r1.fail 12 a else r1) := ⟨_, rfl⟩
  have hr2c : r2.closed = sh ∧ r2.size = sz := by
    rw [hr2]; split
    · exact ⟨(hfs r1 12).1.trans hr1c.1, (hfs r1 12).2.trans hr1c.2⟩
    · exact hr1c
  have hes2 : dEsc t ⟨a, e0, pl, gr, sh, sz⟩ = (.byte (ofS [b]), r2.grown 1 a) := by rw [hes, hr2]; split <;> rfl
  rw [hes2]
  refine ES.cutC (X := Unit) (fun _ => [(0, Pv g 0), (2, Pv g2 0), (3, Iv (a : Nat)), (4, Uv b)]) (fun _ => DRB g t r2 :: HA.blk g2 (.cells (reCells (.cat []) (.slice none 0 0)).toArray 46) :: R) ?_ (fun _ => ?_)
  · refine ES.cond rfl (fun hc => ?_) (fun hc => ?_)
    · rw [if_pos hc] at hr2
      rw [hr2]
      refine .go ?_; (repeat constructor); refine .mv ?_; refine .mv ?_; refine EL.callM1 rfl rfl rfl ent75 rfl (hff r1 12) (by repeat constructor) ?_; refine .go ?_; repeat constructor
      exact .cy ()
    · rw [if_neg (by rw [hc]; simp)] at hr2
      rw [hr2]
      refine .go ?_; repeat constructor
      exact .cy ()
  refine .go ?_; (repeat constructor); refine .mv ?_; refine .mv ?_; refine EL.callM1 rfl rfl rfl ent94 rfl (hg1 r2 hr2c.1 hr2c.2) (by repeat constructor) ?_; refine .go ?_; (repeat constructor); refine .mv ?_; refine EL.callP rfl rfl rfl ent96 rfl (dbytes_c b) ?_; refine .sa ?_; refine .go ?_; repeat constructor
  exact PX.ret rfl Tryz.results92 (.cons (.blkA rfl rfl rfl (by repeat constructor) rfl) .nil) (fun w hs => ⟨(), rfl, hs.ent (.i (by repeat constructor))⟩)
abbrev RCl (p : RE) (x : PX0) : List Value := reCells p (.slice x.ad p.kids.length x.cap)
abbrev TM (f : FuncId) (argv : Array Value) (g : Nat) (t : List UInt8) (r : DR) (H : List HA) (y : RE × DR) : Prop :=
  Mut Tryz.prog f argv (DRB g t r :: H) (fun x : PX0 => .agg (RCl y.1 x).toArray) (fun x => [DRB g t y.2, HA.forest x.fp [y.1] (RCl y.1 x)])
abbrev p00 : PX0 := ⟨none, 0, []⟩
theorem leafOwn {w0 w : World} {B : Nat} {H : List HA} (p : RE) (hp : p.kids = []) (h : Sat w0 B H w) : Sat w0 B (HA.forest [] [p] (RCl p p00) :: H) w := by
  refine Sat.forest0 h _ _ (fun _ _ => ?_)
  have := Forest.leaf (S := fun _ => True) (w := w) p hp
  unfold RCl
  rw [hp]
  exact Forest.leaf p hp
theorem fail_keeps (r : DR) (e : Int) (a : Nat) : (r.fail e a).closed = r.closed ∧ (r.fail e a).size = r.size := by unfold DR.fail; split <;> exact ⟨rfl, rfl⟩
abbrev ZB (g : Nat) : HA := HA.blk g (.cells (reCells (.cat []) (.slice none 0 0)).toArray 46)
theorem dpart_c (g : Nat) (t : List UInt8) (r : DR) (n : Nat) (first bg : Bool) (hr : DOk t r) (ht : t.length ≤ 1073741824) (ha : r.at_ < t.length)
    (hgrp : see2 t r.at_ 92 40 = true → TM 91 #[Pv g 0] g t r [] (dPart t n r first)) : TM 77 #[Pv g 0, .bool first, .bool bg] g t r [] (dPart t n r first) := by
  intro w0 B R w h
  have hesc := desc_c g t r hr ht ha
  have hdp : see2 t r.at_ 92 40 = false → dPart t n r first = dLeaf t r first := fun e => by unfold dPart; rw [if_neg (by rw [e]; simp)]
  obtain ⟨a, e0, pl, gr, sh, sz⟩ := r
  obtain ⟨hsh, hlo, hhi, _⟩ := hr
  dsimp only at hsh hlo hhi ha hgrp hdp
  obtain ⟨r0, hr0⟩ : ∃ r0 : DR, r0 = ⟨a, e0, pl, gr, sh, sz⟩ := ⟨_, rfl⟩
  obtain ⟨r1, hr1⟩ : ∃ r1 : DR, r1 = ⟨a + 1, e0, pl, gr, sh, sz⟩ := ⟨_, rfl⟩
  have hle : dLeaf t ⟨a, e0, pl, gr, sh, sz⟩ first = (
    if see2 t a 92 123 = true ∨ see2 t a 92 125 = true then (.cat [], DR.fail ⟨a, e0, pl, gr, sh, sz⟩ 9 a)
    else if (t.getD a 0).toNat = 92 then dEsc t ⟨a, e0, pl, gr, sh, sz⟩
    else if (t.getD a 0).toNat = 91 then (if (brackM t a).e ≠ 0 then (.cat [], DR.fail ⟨a, e0, pl, gr, sh, sz⟩ (brackM t a).e a) else (.byte (brackM t a).set, DR.grown ⟨(brackM t a).at_, e0, pl, gr, sh, sz⟩ 1 a))
    else if (t.getD a 0).toNat = 94 ∧ first = true then (.bol, ⟨a + 1, e0, pl, gr, sh, sz⟩)
    else if (t.getD a 0).toNat = 36 ∧ (a + 1 = t.length ∨ see2 t (a + 1) 92 41 = true) then (.eol, ⟨a + 1, e0, pl, gr, sh, sz⟩)
    else if (t.getD a 0).toNat = 46 then (.byte (notS zeroS), DR.grown ⟨a + 1, e0, pl, gr, sh, sz⟩ 1 a)
    else (.byte (ofS [t.getD a 0]), DR.grown ⟨a + 1, e0, pl, gr, sh, sz⟩ 1 a)) := rfl
  have hee : (dEsc t ⟨a, e0, pl, gr, sh, sz⟩).1.kids = [] := by unfold dEsc; dsimp only; repeat (first | rfl | split)
  replace h : Sat w0 B (RB g t a e0 pl gr (CT sh sz) :: R) w := h
  have hg1 := fun (r : DR) (h1 : r.closed = sh) (h2 : r.size = sz) => dgrown_c g t r 1 a (by rw [h1]; exact hsh) (by omega) (by omega)
  have hb := (t.getD a 0).toNat_lt
  have hff := fun (r : DR) (e : Int) => dfail_r g t r e a
  have hs := fun (y : UInt8) => dsee_c g t a e0 pl gr (CT sh sz) [92, y] ht (by omega) (by simp)
  have hs1 := fun (y : UInt8) => dsee_c g t (a + 1) e0 pl gr (CT sh sz) [92, y] ht (by omega) (by simp)
  have hbr := brdoc_c t a ht (by omega)
  refine calls_of_ES TB Tryz.func77 rfl _ Tryz.ntmps77 rfl h ?_; refine .go ?_; (repeat constructor); (refine .al ?_; intro g6); refine .go ?_; (repeat constructor); refine .mv ?_; refine .nc ?_; refine .fa ?_; refine .lb ?_; refine .as_ ?_; refine .go ?_; (repeat constructor); refine .mv ?_; refine .nc ?_; refine .fa ?_; refine .lb ?_; refine .mv ?_; refine .iS ?_; refine .as_ ?_; refine .go ?_; (repeat constructor); refine .mv ?_; refine EL.callM1 rfl rfl rfl ent76 rfl (hs 40) (by repeat constructor) ?_; refine .as_ ?_; refine .go ?_; repeat constructor
  refine ES.cond rfl (fun hc => ?_) (fun hc => ?_)
  · have hgrp := hgrp hc
    generalize dPart t n ⟨a, e0, pl, gr, sh, sz⟩ first = y at hgrp ⊢
    refine .go ?_; (repeat constructor); refine .mv ?_; (refine EL.callM rfl rfl rfl ent91 rfl hgrp (by repeat constructor) ?_; intro x); refine .sa ?_; refine .go ?_; repeat constructor
    exact PX.ret rfl Tryz.results77 (.cons (.blkA rfl rfl rfl (by repeat constructor) rfl) .nil) (fun w hs => ⟨x, rfl, hs.ent (.i (by repeat constructor))⟩)
  rw [hdp hc, hle]
  generalize hbb : t.getD a 0 = b at hb ⊢
  refine .go ?_; repeat constructor
  refine EL.cutX (X := Unit) (fun _ => [(0, Pv g 0), (1, .bool first), (6, Pv g6 0), (7, Iv (a : Nat)), (8, Uv b), (27, .bool (decide (see2 t a 92 123 = true ∨ see2 t a 92 125 = true)))]) (fun _ => RB g t a e0 pl gr (CT sh sz) :: ZB g6 :: R) ?_ (fun _ => ?_)
  · refine .go ?_; (repeat constructor); refine .mv ?_; refine EL.callM1 rfl rfl rfl ent76 rfl (hs 123) (by repeat constructor) ?_; refine .mv ?_
    first | refine EL.splitD (d := 30) rfl (fun hp30 => ?_) (fun hp30 => ?_) | refine EL.splitN (d := 30) rfl (fun hp30 => ?_) (fun hp30 => ?_) | refine EL.splitB (d := 30) rfl (fun hp30 => ?_) (fun hp30 => ?_)
    · refine .ps ?_; refine .ps ?_; refine .pt ?_; refine .as_ ?_
      exact .dx () ⟨rfl, rfl, rfl, rfl, rfl, getA rfl (congrArg Value.bool (by rw [see2_is] at *; rw [Bool.eq_iff_iff]; simp_all)), trivial⟩
    · refine .mv ?_; refine EL.callM1 rfl rfl rfl ent76 rfl (hs 125) (by repeat constructor) ?_; refine .pf ?_; refine .as_ ?_
      exact .dx () ⟨rfl, rfl, rfl, rfl, rfl, getA rfl (congrArg Value.bool (by rw [see2_is] at *; rw [Bool.eq_iff_iff]; simp_all)), trivial⟩
  refine ES.condD rfl (fun hiv => ?_) (fun hiv => ?_)
  · rw [if_pos hiv]
    refine .go ?_; (repeat constructor); refine .mv ?_; refine .mv ?_; refine EL.callM1 rfl rfl rfl ent75 rfl (hff ⟨a, e0, pl, gr, sh, sz⟩ 9) (by repeat constructor) ?_; refine .go ?_; (repeat constructor); refine EL.buildZ rfl rfl rfl rfl rfl ?_; refine .sa ?_; refine .go ?_; repeat constructor
    exact PX.ret rfl Tryz.results77 (.cons (.blkA rfl rfl rfl (by repeat constructor) rfl) .nil) (fun w hs => ⟨p00, rfl, (leafOwn (.cat []) rfl hs).ent (.i (by repeat constructor))⟩)
  rw [if_neg hiv]
  refine .go ?_; (repeat constructor); refine .mv ?_; refine .ei ?_; refine .as_ ?_; refine .go ?_; repeat constructor
  refine ES.condD rfl (fun h92 => ?_) (fun h92 => ?_)
  · rw [if_pos (by omega)]
    generalize dEsc t ⟨a, e0, pl, gr, sh, sz⟩ = y at hesc hee ⊢
    refine .go ?_; (repeat constructor); refine .mv ?_; refine EL.callM1 rfl rfl rfl ent92 rfl hesc (by repeat constructor) ?_; refine .sa ?_; refine .go ?_; repeat constructor
    exact PX.ret rfl Tryz.results77 (.cons (.blkA rfl rfl rfl (by repeat constructor) rfl) .nil) (fun w hs => ⟨p00, by unfold RCl; rw [hee]; rfl, (leafOwn y.1 hee hs).ent (.i (by repeat constructor))⟩)
  rw [if_neg (by omega)]
  refine .go ?_; (repeat constructor); refine .mv ?_; refine .ei ?_; refine .as_ ?_; refine .go ?_; repeat constructor
  refine ES.condD rfl (fun h91 => ?_) (fun h91 => ?_)
  · rw [if_pos (by omega)]
    generalize brackM t a = q at hbr ⊢
    obtain ⟨⟨s0, s1, s2, s3⟩, qa, qe⟩ := q
    dsimp only at hbr ⊢
    refine .go ?_; (repeat constructor); refine .mv ?_; refine .nc ?_; refine .fa ?_; refine .lb ?_; refine .mv ?_; refine EL.callP rfl rfl rfl ent93 rfl hbr ?_; refine .mv ?_; refine .ex ?_; refine .ex ?_; refine .ex ?_; (refine .al ?_; intro g9); refine .sa ?_; refine .as_ ?_; refine .as_ ?_; refine .go ?_; (repeat constructor); refine .mv ?_; refine .ni ?_; refine .go ?_; repeat constructor
    refine ES.condN rfl (fun hne => ?_) (fun heq => ?_)
    · rw [if_pos hne]
      refine .go ?_; (repeat constructor); refine .mv ?_; refine .mv ?_; refine .mv ?_; refine EL.callM1 rfl rfl rfl ent75 rfl (hff ⟨a, e0, pl, gr, sh, sz⟩ qe) (by repeat constructor) ?_; refine .go ?_; (repeat constructor); refine EL.buildZ rfl rfl rfl rfl rfl ?_; refine .sa ?_; refine .go ?_; repeat constructor
      exact PX.ret rfl Tryz.results77 (.cons (.blkA rfl rfl rfl (by repeat constructor) rfl) .nil) (fun w hs => ⟨p00, rfl, (leafOwn (.cat []) rfl hs).ent (.i (by repeat constructor))⟩)
    · have heq : qe = 0 := heq
      rw [if_neg (by rw [heq]; simp)]
      refine .go ?_; (repeat constructor); refine .mv ?_; refine .mv ?_; refine .nc ?_; refine .fa ?_
      (refine EL.storeB rfl rfl rfl rfl rfl rfl (by repeat constructor) (by simp) ?_; refine EL.blkEq (g := g) (by repeat constructor) (congrArg (fun a => Obj.cells a 127 (0, 0)) (rd_set1 _ _ _ _ _ _ _)) ?_)
      refine .go ?_; (repeat constructor); refine .mv ?_; refine .mv ?_; refine EL.callM1 rfl rfl rfl ent94 rfl (hg1 ⟨qa, e0, pl, gr, sh, sz⟩ rfl rfl) (by repeat constructor) ?_; refine .go ?_; (repeat constructor); refine .lg ?_; refine EL.buildS (reCells (.byte ⟨s0, s1, s2, s3⟩) (.slice none 0 0)).toArray rfl rfl rfl rfl rfl (by kernel_rfl) rfl ?_; refine .sa ?_; refine .go ?_; repeat constructor
      exact PX.ret rfl Tryz.results77 (.cons (.blkA rfl rfl rfl (by repeat constructor) rfl) .nil) (fun w hs => ⟨p00, rfl, (leafOwn (.byte ⟨s0, s1, s2, s3⟩) rfl hs).ent (.i (by repeat constructor))⟩)
  rw [if_neg (by omega)]
  refine .go ?_; (repeat constructor); refine .mv ?_; refine .nc ?_; refine .fa ?_; refine .lb ?_; refine .a1 ?_; refine .nc ?_; refine .fa ?_
  (refine EL.storeB rfl rfl rfl rfl rfl rfl (by repeat constructor) (by simp) ?_; refine EL.blkEq (g := g) (by repeat constructor) (congrArg (fun a => Obj.cells a 127 (0, 0)) (rd_set1 _ _ _ _ _ _ _)) ?_)
  refine .go ?_; repeat constructor
  refine EL.cutX (X := Unit) (fun _ => [(0, Pv g 0), (6, Pv g6 0), (7, Iv (a : Nat)), (8, Uv b), (79, .bool (decide (b.toNat = 94 ∧ first = true)))]) (fun _ => RB g t (a + 1) e0 pl gr (CT sh sz) :: ZB g6 :: R) ?_ (fun _ => ?_)
  · refine .go ?_; (repeat constructor); refine .mv ?_; refine .ei ?_; refine .mv ?_
    first | refine EL.splitD (d := 82) rfl (fun hp82 => ?_) (fun hp82 => ?_) | refine EL.splitN (d := 82) rfl (fun hp82 => ?_) (fun hp82 => ?_) | refine EL.splitB (d := 82) rfl (fun hp82 => ?_) (fun hp82 => ?_)
    · refine .mv ?_; refine .pt ?_; refine .as_ ?_
      exact .dx () ⟨rfl, rfl, rfl, rfl, getA rfl (congrArg Value.bool (by rw [Bool.eq_iff_iff]; simp only [decide_eq_true_eq, Bool.false_eq_true, false_iff]; (try omega); (try (constructor <;> (intro h; first | exact h.2 | exact ⟨by omega, h⟩))))), trivial⟩
    · refine .ps ?_; refine .pf ?_; refine .as_ ?_
      exact .dx () ⟨rfl, rfl, rfl, rfl, getA rfl (congrArg Value.bool (by rw [Bool.eq_iff_iff]; simp only [decide_eq_true_eq, Bool.false_eq_true, false_iff]; (try omega); (try (constructor <;> (intro h; first | exact h.2 | exact ⟨by omega, h⟩))))), trivial⟩
  refine ES.condD rfl (fun h94 => ?_) (fun h94 => ?_)
  · rw [if_pos h94]
    refine .go ?_; (repeat constructor); refine EL.buildS (reCells .bol (.slice none 0 0)).toArray rfl rfl rfl rfl rfl (by kernel_rfl) rfl ?_; refine .sa ?_; refine .go ?_; repeat constructor
    exact PX.ret rfl Tryz.results77 (.cons (.blkA rfl rfl rfl (by repeat constructor) rfl) .nil) (fun w hs => ⟨p00, rfl, (leafOwn .bol rfl hs).ent (.i (by repeat constructor))⟩)
  rw [if_neg h94]
  refine .g0 ?_; repeat constructor
  refine ES.draw (X := Unit) (fun _ => [(0, Pv g 0), (6, Pv g6 0), (7, Iv (a : Nat)), (8, Uv b), (86, .bool (decide (b.toNat = 36 ∧ (a + 1 = t.length ∨ see2 t (a + 1) 92 41 = true))))]) (fun _ => RB g t (a + 1) e0 pl gr (CT sh sz) :: ZB g6 :: R) (RB g t (a + 1) e0 pl gr (CT sh sz) :: ZB g6 :: R) mixed (.i (by repeat constructor)) ?_ (fun _ => ?_)
  · refine .tk 0 rfl (RV.move rfl) ?_; refine .tk 1 rfl (RV.eqlI rfl rfl) ?_; refine .tk 2 rfl (RV.move rfl) ?_
    first | refine ED.part (d := 89) rfl (fun hp89 => ?_) (fun hp89 => ?_) | refine ED.partN (d := 89) rfl (fun hp89 => ?_) (fun hp89 => ?_) | refine ED.partB (d := 89) rfl (fun hp89 => ?_) (fun hp89 => ?_)
    · refine .tk 3 rfl (RV.move rfl) ?_; refine .tk 4 rfl (RV.nilCheck rfl) ?_; refine .tk 5 rfl (RV.fieldAddr rfl rfl rfl rfl rfl rfl) ?_; refine .tk 6 rfl (RV.loadB rfl rfl rfl (by repeat constructor) rfl) ?_; refine .tk 7 rfl (RV.move rfl) ?_; refine .tk 8 rfl (RV.nilCheck rfl) ?_; refine .tk 9 rfl (RV.fieldAddr rfl rfl rfl rfl rfl rfl) ?_; refine .tk 10 rfl (RV.loadB rfl rfl rfl (by repeat constructor) rfl) ?_; refine .tk 11 rfl (RV.lenS rfl rfl rfl) ?_; refine .tk 12 rfl (RV.eqlI rfl rfl) ?_; refine .tk 13 rfl (RV.move rfl) ?_
      first | refine ED.part (d := 100) rfl (fun hp100 => ?_) (fun hp100 => ?_) | refine ED.partN (d := 100) rfl (fun hp100 => ?_) (fun hp100 => ?_) | refine ED.partB (d := 100) rfl (fun hp100 => ?_) (fun hp100 => ?_)
      · refine .pa 14 rfl ?_; refine .pa 15 rfl ?_; refine .tk 16 rfl (RV.pickT rfl rfl) ?_; refine .tk 17 rfl (RV.pickT rfl rfl) ?_; refine .tk 18 rfl (RV.assign rfl) ?_; refine .dn ?_
        exact .cx () ⟨rfl, rfl, rfl, rfl, getA rfl (congrArg Value.bool (by rw [see2_is] at *; rw [Bool.eq_iff_iff]; simp only [decide_eq_true_eq, Bool.false_eq_true, false_iff, true_iff] at *; (try omega); (try exact ⟨fun h => ⟨by omega, .inr h⟩, fun h => h.2.resolve_left (by omega)⟩))), trivial⟩
      · refine .tk 14 rfl (RV.move rfl) ?_; refine .ld 15 ?_; refine EL.callM1 rfl rfl rfl ent76 rfl (hs1 41) (by repeat constructor) ?_; refine .nx ?_; refine .tk 16 rfl (RV.pickF rfl rfl) ?_; refine .tk 17 rfl (RV.pickT rfl rfl) ?_; refine .tk 18 rfl (RV.assign rfl) ?_; refine .dn ?_
        exact .cx () ⟨rfl, rfl, rfl, rfl, getA rfl (congrArg Value.bool (by rw [see2_is] at *; rw [Bool.eq_iff_iff]; simp only [decide_eq_true_eq, Bool.false_eq_true, false_iff, true_iff] at *; (try omega); (try exact ⟨fun h => ⟨by omega, .inr h⟩, fun h => h.2.resolve_left (by omega)⟩))), trivial⟩
    · refine .pa 3 rfl ?_; refine .pa 4 rfl ?_; refine .pa 5 rfl ?_; refine .pa 6 rfl ?_; refine .pa 7 rfl ?_; refine .pa 8 rfl ?_; refine .pa 9 rfl ?_; refine .pa 10 rfl ?_; refine .pa 11 rfl ?_; refine .pa 12 rfl ?_; refine .pa 13 rfl ?_; refine .pa 14 rfl ?_; refine .pa 15 rfl ?_; refine .pa 16 rfl ?_; refine .tk 17 rfl (RV.pickF rfl rfl) ?_; refine .tk 18 rfl (RV.assign rfl) ?_; refine .dn ?_
      exact .cx () ⟨rfl, rfl, rfl, rfl, getA rfl (congrArg Value.bool (by rw [see2_is] at *; rw [Bool.eq_iff_iff]; simp only [decide_eq_true_eq, Bool.false_eq_true, false_iff, true_iff] at *; (try omega); (try exact ⟨fun h => ⟨by omega, .inr h⟩, fun h => h.2.resolve_left (by omega)⟩))), trivial⟩
  refine .go ?_; repeat constructor
  refine ES.condD rfl (fun h36 => ?_) (fun h36 => ?_)
  · rw [if_pos h36]
    refine .go ?_; (repeat constructor); refine EL.buildS (reCells .eol (.slice none 0 0)).toArray rfl rfl rfl rfl rfl (by kernel_rfl) rfl ?_; refine .sa ?_; refine .go ?_; repeat constructor
    exact PX.ret rfl Tryz.results77 (.cons (.blkA rfl rfl rfl (by repeat constructor) rfl) .nil) (fun w hs => ⟨p00, rfl, (leafOwn .eol rfl hs).ent (.i (by repeat constructor))⟩)
  rw [if_neg h36]
  refine .go ?_; (repeat constructor); refine .mv ?_; refine .mv ?_; refine EL.callM1 rfl rfl rfl ent94 rfl (hg1 ⟨a + 1, e0, pl, gr, sh, sz⟩ rfl rfl) (by repeat constructor) ?_; refine .go ?_; (repeat constructor); refine .mv ?_; refine .ei ?_; refine .go ?_; repeat constructor
  refine ES.condD rfl (fun h46 => ?_) (fun h46 => ?_)
  · rw [if_pos (by omega)]
    refine .go ?_; (repeat constructor); refine EL.buildZA rfl rfl rfl rfl rfl ?_; refine EL.callP rfl rfl rfl ent95 rfl (rnot_c zeroS) ?_; refine EL.buildS (reCells (.byte (notS zeroS)) (.slice none 0 0)).toArray rfl rfl rfl rfl rfl (by kernel_rfl) rfl ?_; refine .sa ?_; refine .go ?_; repeat constructor
    exact PX.ret rfl Tryz.results77 (.cons (.blkA rfl rfl rfl (by repeat constructor) rfl) .nil) (fun w hs => ⟨p00, rfl, (leafOwn (.byte (notS zeroS)) rfl hs).ent (.i (by repeat constructor))⟩)
  · rw [if_neg (by omega)]
    refine .go ?_; (repeat constructor); refine .mv ?_; refine EL.callP rfl rfl rfl ent96 rfl (dbytes_c b) ?_; refine .sa ?_; refine .go ?_; repeat constructor
    exact PX.ret rfl Tryz.results77 (.cons (.blkA rfl rfl rfl (by repeat constructor) rfl) .nil) (fun w hs => ⟨p00, rfl, (leafOwn (.byte (ofS [b])) rfl hs).ent (.i (by repeat constructor))⟩)
theorem grown_at (r : DR) (n : Int) (a : Nat) : (r.grown n a).at_ = r.at_ := by
  unfold DR.grown DR.fail
  dsimp only
  repeat (first | rfl | split)
theorem grown_closed (r : DR) (n : Int) (a : Nat) : (r.grown n a).closed = r.closed := by
  unfold DR.grown DR.fail
  dsimp only
  repeat (first | rfl | split)
structure RpSt where
  p : RE
  r : DR
  x : PX0
  m : Nat
structure RpI (t : List UInt8) (fin : RE × DR) (z : RpSt) : Prop where
  shut : z.r.closed.length = 10
  at_ : z.r.e = 0 → z.r.at_ ≤ t.length ∧ t.length ≤ z.m + z.r.at_
  ok : z.r.e = 0 → z.p.pok ∧ (posR z.p : Int) ≤ z.r.size ∧ z.r.size ≤ 256
  go : dReps t z.m z.p z.r = fin
theorem RpI.step {t : List UInt8} {fin : RE × DR} {p : RE} {x : PX0} {a a2 pl gr m lo : Nat} {hi sz : Int} {sh : List Bool} (hsh : sh.length = 10) (hpok : p.pok) (hpz : (posR p : Int) ≤ sz) (hsz : sz ≤ 256) (hl : lo ≤ 255) (hh : hi ≤ 255) (h1 : a < a2) (h2 : a2 ≤ t.length) (hm : t.length ≤ m + a2)
    (hgo : dReps t m (.rep lo hi p) (DR.grown ⟨a2, 0, pl, gr, sh, sz⟩ ((posR (.rep lo hi p) : Int) - posR p) a) = fin) : RpI t fin ⟨.rep lo hi p, DR.grown ⟨a2, 0, pl, gr, sh, sz⟩ ((posR (.rep lo hi p) : Int) - posR p) a, x, m⟩ := by
  refine ⟨by rw [grown_closed]; exact hsh, fun _ => by rw [grown_at]; exact ⟨h2, hm⟩, fun he => ?_, hgo⟩
  dsimp only at he ⊢
  obtain ⟨g1, g2⟩ := grown_ok (r := ⟨a2, 0, pl, gr, sh, sz⟩) rfl he
  rw [g2]
  dsimp only at g1 ⊢
  obtain ⟨p1, p2⟩ := rep_pok hpok (by omega) hl hh
  exact ⟨p1, by omega, g1⟩
theorem dreps_c (g : Nat) (t : List UInt8) (r : DR) (p : RE) (x : PX0) (n : Nat) (ht : t.length ≤ 1073741824) (hI : RpI t (dReps t n p r) ⟨p, r, x, n⟩) :
    TM 78 #[Pv g 0, .agg (RCl p x).toArray] g t r [HA.forest x.fp [p] (RCl p x)] (dReps t n p r) := by
  intro w0 B R w h
  replace h : Sat w0 B (DRB g t r :: HA.forest x.fp [p] (RCl p x) :: R) w := h
  generalize dReps t n p r = fin at hI ⊢
  refine calls_of_ES TB Tryz.func78 rfl _ Tryz.ntmps78 rfl h ?_; refine .go ?_; (repeat constructor); (refine .bx ?_; intro g3); (refine .al ?_; intro g4); refine .go ?_; repeat constructor
  refine ES.loop (σ := RpSt) (fun z => RpI t fin z) (fun z => [(0, Pv g 0), (3, Pv g3 0), (4, Pv g4 0)])
    (fun z => DRB g t z.r :: HA.blk g3 (.cells (RCl z.p z.x).toArray 46) :: HA.forest z.x.fp [z.p] (RCl z.p z.x) :: ZB g4 :: R) (fun z => t.length - z.r.at_) ⟨p, r, x, n⟩ hI ⟨rfl, rfl, rfl, trivial⟩ (.i (by repeat constructor)) ?_
  rintro ⟨p, ⟨a, e0, pl, gr, sh, sz⟩, x, m⟩ ⟨hsh, hat, hok, hgo⟩
  dsimp only at hsh hat hok hgo ⊢
  refine ES.imp (H' := RB g t a e0 pl gr (CT sh sz) :: HA.blk g3 (.cells (RCl p x).toArray 46) :: HA.forest x.fp [p] (RCl p x) :: ZB g4 :: R) (fun w hs => hs) ?_; refine .go ?_; (repeat constructor); refine .mv ?_; refine .nc ?_; refine .fa ?_; refine .lb ?_; refine .ei ?_; refine .go ?_; repeat constructor
  refine ES.condD rfl (fun he => ?_) (fun hne => ?_)
  rotate_left
  · rw [reps_bad _ _ _ (show (⟨a, e0, pl, gr, sh, sz⟩ : DR).e ≠ 0 from hne)] at hgo
    rw [← hgo]
    refine .go ?_; repeat constructor
    refine EL.ofRV (RV.loadBA (RCl p x) rfl rfl rfl rfl (by repeat constructor) rfl) rfl rfl rfl (by intro c h; cases h) ?_
    refine .sa ?_; refine .go ?_; repeat constructor
    exact PX.ret rfl Tryz.results78 (.cons (.blkA rfl rfl rfl (by repeat constructor) rfl) .nil) (fun w hs => ⟨x, rfl, hs.ent (.i (by repeat constructor))⟩)
  have he : e0 = 0 := he
  subst he
  obtain ⟨hpok, hpz, hsz⟩ := hok rfl
  obtain ⟨hat, hfu⟩ := hat rfl
  have hs1 := dsee_c g t a 0 pl gr (CT sh sz) [42] ht (by omega) (by simp)
  have hs2 := dsee_c g t a 0 pl gr (CT sh sz) [92, 123] ht (by omega) (by simp)
  rw [see_one] at hs1
  rw [see2_is] at hs2
  refine .go ?_; (repeat constructor); refine .mv ?_; refine .nc ?_; refine .fa ?_; refine .lb ?_; refine .as_ ?_; refine .go ?_; (repeat constructor); refine .as_ ?_; refine .as_ ?_; refine .go ?_; (repeat constructor); refine .mv ?_; refine EL.callM1 rfl rfl rfl ent76 rfl hs1 (by repeat constructor) ?_; refine .as_ ?_; refine .go ?_; repeat constructor
  refine ES.condD rfl (fun hst => ?_) (fun hst => ?_)
  · obtain ⟨k, rfl⟩ : ∃ k, m = k + 1 := ⟨m - 1, by omega⟩
    rw [dReps, if_neg (by simp), if_pos (by rw [Bool.and_eq_true, decide_eq_true_eq, decide_eq_true_eq]; exact ⟨hst.1, by rw [hst.2]; rfl⟩)] at hgo
    obtain ⟨p1, p2⟩ := rep_pok (lo := 0) (hi := (-1)) hpok (by omega) (by omega) (by omega)
    have hpc1 := fun (w' : World) (hk : KidsRd w' w'.heap.size p.kids x.ad) => dpos_c p hpok x.ad x.cap w' hk
    have hpc2 := fun (b : Nat) (w' : World) (hk : KidsRd w' w'.heap.size (RE.rep 0 (-1) p).kids (some ⟨b, 0, none⟩)) => dpos_c (.rep 0 (-1) p) p1 (some ⟨b, 0, none⟩) 1 w' hk
    have hgr := dgrown_c g t ⟨a + 1, 0, pl, gr, sh, sz⟩ ((posR (.rep 0 (-1) p) : Int) - posR p) a hsh (by simp only; omega) (by simp only; omega)
    refine .go ?_; (repeat constructor); refine .mv ?_; refine .nc ?_; refine .fa ?_; refine .lb ?_; refine .a1 ?_; refine .nc ?_; refine .fa ?_
    (refine EL.storeB rfl rfl rfl rfl rfl rfl (by repeat constructor) (by simp) ?_; refine EL.blkEq (g := g) (by repeat constructor) (congrArg (fun a => Obj.cells a 127 (0, 0)) (rd_set1 _ _ _ _ _ _ _)) ?_)
    refine .go ?_; (repeat constructor); refine .go ?_; repeat constructor
    refine EL.ofRV (RV.loadBA (RCl p x) rfl rfl rfl rfl (by repeat constructor) rfl) rfl rfl rfl (by intro c h; cases h) ?_
    refine EL.callPw rfl rfl rfl ent70 rfl (fun w' hs => hpc1 w' (kids_of hs (by repeat constructor))) ?_; refine .as_ ?_; refine .go ?_; (repeat constructor); refine .mv ?_; refine .mv ?_
    refine EL.ofRV (RV.loadBA (RCl p x) rfl rfl rfl rfl (by repeat constructor) rfl) rfl rfl rfl (by intro c h; cases h) ?_
    (refine .b1 ?_; intro b57); refine EL.buildS (reCells (.rep 0 (-1) p) (.slice (some ⟨b57, 0, none⟩) 1 1)).toArray rfl rfl rfl rfl rfl (by kernel_rfl) rfl ?_; refine .sa ?_; refine .go ?_; (repeat constructor); refine EL.imp (H' := RB g t (a + 1) 0 pl gr (CT sh sz) :: HA.blk g3 (.cells (RCl (.rep 0 (-1) p) ⟨some ⟨b57, 0, none⟩, 1, b57 :: x.fp⟩).toArray 46) :: HA.forest (b57 :: x.fp) [.rep 0 (-1) p] (RCl (.rep 0 (-1) p) ⟨some ⟨b57, 0, none⟩, 1, b57 :: x.fp⟩) :: ZB g4 :: R) (fun w hs => ?_) ?_
    · have h1 := Sat.seal (ks := [p]) (.rep 0 (-1) p) rfl (hs.ent (H' := HA.row (.slice (some ⟨b57, 0, none⟩) 1 1) 46 9 1 (RCl p x) :: HA.forest x.fp [p] (RCl p x) :: RB g t (a + 1) 0 pl gr (CT sh sz) :: HA.blk g3 (.cells (RCl (.rep 0 (-1) p) ⟨some ⟨b57, 0, none⟩, 1, b57 :: x.fp⟩).toArray 46) :: ZB g4 :: R) (.i (by repeat constructor)))
      exact h1.ent (.i (by repeat constructor))
    refine .go ?_; (repeat constructor); refine .mv ?_
    refine EL.ofRV (RV.loadBA (RCl (.rep 0 (-1) p) ⟨some ⟨b57, 0, none⟩, 1, b57 :: x.fp⟩) rfl rfl rfl rfl (by repeat constructor) rfl) rfl rfl rfl (by intro c h; cases h) ?_
    refine EL.callPw rfl rfl rfl ent70 rfl (fun w' hs => hpc2 b57 w' (kids_of (fp := b57 :: x.fp) (cap := 1) hs (by repeat constructor))) ?_; refine .mv ?_; refine EL.sub_ ((posR (.rep 0 (-1) p) : Int) - posR p) rfl rfl rfl rfl (wrap_i64 _ (by omega) (by omega)) ?_; refine .mv ?_; refine EL.callM1 rfl rfl rfl ent94 rfl hgr (by repeat constructor) ?_; refine .go ?_; repeat constructor
    exact .ly (σ := RpSt) ⟨.rep 0 (-1) p, DR.grown ⟨a + 1, 0, pl, gr, sh, sz⟩ ((posR (.rep 0 (-1) p) : Int) - posR p) a, ⟨some ⟨b57, 0, none⟩, 1, b57 :: x.fp⟩, k⟩ (RpI.step hsh hpok hpz hsz (by omega) (by omega) (by omega) (by omega) (by omega) hgo) (by rw [grown_at]; simp only; omega)
  · refine .go ?_; (repeat constructor); refine .mv ?_; refine EL.callM1 rfl rfl rfl ent76 rfl hs2 (by repeat constructor) ?_; refine .as_ ?_; refine .go ?_; repeat constructor
    have hst2 : ¬ (decide (a < t.length) && decide ((t.getD a 0).toNat = 42)) = true := by
      rw [Bool.and_eq_true, decide_eq_true_eq, decide_eq_true_eq]
      rintro ⟨h1, h2⟩
      exact hst ⟨h1, UInt8.toNat_inj.1 h2⟩
    refine ES.cond rfl (fun hiv => ?_) (fun hiv => ?_)
    · have h2 := ((see2_iff ..).1 hiv).1
      obtain ⟨k, rfl⟩ : ∃ k, m = k + 1 := ⟨m - 1, by omega⟩
      have hdi := diva_c g t (a + 2) 0 pl gr (CT sh sz) ht h2
      have hie : ivE t (a + 2) = match ivM t (a + 2) with
        | none => ivA t (a + 2)
        | some (_, _, n) => n := rfl
      rw [dReps, if_neg (by simp), if_neg hst2, if_pos hiv] at hgo
      dsimp only at hgo
      cases hv : ivM t (a + 2) with
      | none =>
        rw [hv] at hdi hie hgo
        dsimp only at hie hgo
        rw [hie] at hdi
        rw [← hgo]
        have hff := dfail_r g t ⟨ivA t (a + 2), 0, pl, gr, sh, sz⟩ 9 a
        refine .go ?_; (repeat constructor); refine .mv ?_; refine .nc ?_; refine .fa ?_; refine .lb ?_; refine EL.addN (n := 2) rfl rfl rfl rfl rfl (by omega) ?_; refine .nc ?_; refine .fa ?_
        (refine EL.storeB rfl rfl rfl rfl rfl rfl (by repeat constructor) (by simp) ?_; refine EL.blkEq (g := g) (by repeat constructor) (congrArg (fun a => Obj.cells a 127 (0, 0)) (rd_set1 _ _ _ _ _ _ _)) ?_)
        refine .go ?_; (repeat constructor); refine .as_ ?_; refine .go ?_; (repeat constructor); refine .mv ?_; refine EL.callM1 rfl rfl rfl ent97 rfl hdi (by repeat constructor) ?_; refine .mv ?_; refine .ex ?_; refine .ex ?_; refine .ex ?_; refine .as_ ?_; refine .as_ ?_; refine .as_ ?_; refine .go ?_; (repeat constructor); refine .mv ?_; refine .nt ?_; refine .go ?_; (repeat constructor); refine ES.condT rfl ?_; refine .go ?_; (repeat constructor); refine .mv ?_; refine .mv ?_; refine EL.callM1 rfl rfl rfl ent75 rfl hff (by repeat constructor) ?_; refine .go ?_; repeat constructor
        refine EL.ofRV (RV.loadBA (RCl p x) rfl rfl rfl rfl (by repeat constructor) rfl) rfl rfl rfl (by intro c h; cases h) ?_
        refine .sa ?_; refine .go ?_; repeat constructor
        exact PX.ret rfl Tryz.results78 (.cons (.blkA rfl rfl rfl (by repeat constructor) rfl) .nil) (fun w hs => ⟨x, rfl, hs.ent (.i (by repeat constructor))⟩)
      | some y =>
        obtain ⟨lo, hi, a2⟩ := y
        have hl := iv_le hv
        rw [hv] at hdi hie hgo
        dsimp only at hie hgo
        rw [hie] at hdi
        refine .go ?_; (repeat constructor); refine .mv ?_; refine .nc ?_; refine .fa ?_; refine .lb ?_; refine EL.addN (n := 2) rfl rfl rfl rfl rfl (by omega) ?_; refine .nc ?_; refine .fa ?_
        (refine EL.storeB rfl rfl rfl rfl rfl rfl (by repeat constructor) (by simp) ?_; refine EL.blkEq (g := g) (by repeat constructor) (congrArg (fun a => Obj.cells a 127 (0, 0)) (rd_set1 _ _ _ _ _ _ _)) ?_)
        refine .go ?_; (repeat constructor); refine .as_ ?_; refine .go ?_; (repeat constructor); refine .mv ?_; refine EL.callM1 rfl rfl rfl ent97 rfl hdi (by repeat constructor) ?_; refine .mv ?_; refine .ex ?_; refine .ex ?_; refine .ex ?_; refine .as_ ?_; refine .as_ ?_; refine .as_ ?_; refine .go ?_; (repeat constructor); refine .mv ?_; refine .nt ?_; refine .go ?_; (repeat constructor); refine ES.condF rfl ?_
        obtain ⟨p1, p2⟩ := rep_pok (lo := lo) (hi := hi) hpok (by omega) (by omega) (by omega)
        have hpc1 := fun (w' : World) (hk : KidsRd w' w'.heap.size p.kids x.ad) => dpos_c p hpok x.ad x.cap w' hk
        have hpc2 := fun (b : Nat) (w' : World) (hk : KidsRd w' w'.heap.size (RE.rep lo hi p).kids (some ⟨b, 0, none⟩)) => dpos_c (.rep lo hi p) p1 (some ⟨b, 0, none⟩) 1 w' hk
        have hgr := dgrown_c g t ⟨a2, 0, pl, gr, sh, sz⟩ ((posR (.rep lo hi p) : Int) - posR p) a hsh (by simp only; omega) (by simp only; omega)
        refine .go ?_; repeat constructor
        refine EL.ofRV (RV.loadBA (RCl p x) rfl rfl rfl rfl (by repeat constructor) rfl) rfl rfl rfl (by intro c h; cases h) ?_
        refine EL.callPw rfl rfl rfl ent70 rfl (fun w' hs => hpc1 w' (kids_of hs (by repeat constructor))) ?_; refine .as_ ?_; refine .go ?_; (repeat constructor); refine .mv ?_; refine .mv ?_
        refine EL.ofRV (RV.loadBA (RCl p x) rfl rfl rfl rfl (by repeat constructor) rfl) rfl rfl rfl (by intro c h; cases h) ?_
        (refine .b1 ?_; intro b57); refine EL.buildS (reCells (.rep lo hi p) (.slice (some ⟨b57, 0, none⟩) 1 1)).toArray rfl rfl rfl rfl rfl (by kernel_rfl) rfl ?_; refine .sa ?_; refine .go ?_; (repeat constructor); refine EL.imp (H' := RB g t (a2) 0 pl gr (CT sh sz) :: HA.blk g3 (.cells (RCl (.rep lo hi p) ⟨some ⟨b57, 0, none⟩, 1, b57 :: x.fp⟩).toArray 46) :: HA.forest (b57 :: x.fp) [.rep lo hi p] (RCl (.rep lo hi p) ⟨some ⟨b57, 0, none⟩, 1, b57 :: x.fp⟩) :: ZB g4 :: R) (fun w hs => ?_) ?_
        · have h1 := Sat.seal (ks := [p]) (.rep lo hi p) rfl (hs.ent (H' := HA.row (.slice (some ⟨b57, 0, none⟩) 1 1) 46 9 1 (RCl p x) :: HA.forest x.fp [p] (RCl p x) :: RB g t (a2) 0 pl gr (CT sh sz) :: HA.blk g3 (.cells (RCl (.rep lo hi p) ⟨some ⟨b57, 0, none⟩, 1, b57 :: x.fp⟩).toArray 46) :: ZB g4 :: R) (.i (by repeat constructor)))
          exact h1.ent (.i (by repeat constructor))
        refine .go ?_; (repeat constructor); refine .mv ?_
        refine EL.ofRV (RV.loadBA (RCl (.rep lo hi p) ⟨some ⟨b57, 0, none⟩, 1, b57 :: x.fp⟩) rfl rfl rfl rfl (by repeat constructor) rfl) rfl rfl rfl (by intro c h; cases h) ?_
        refine EL.callPw rfl rfl rfl ent70 rfl (fun w' hs => hpc2 b57 w' (kids_of (fp := b57 :: x.fp) (cap := 1) hs (by repeat constructor))) ?_; refine .mv ?_; refine EL.sub_ ((posR (.rep lo hi p) : Int) - posR p) rfl rfl rfl rfl (wrap_i64 _ (by omega) (by omega)) ?_; refine .mv ?_; refine EL.callM1 rfl rfl rfl ent94 rfl hgr (by repeat constructor) ?_; refine .go ?_; repeat constructor
        exact .ly (σ := RpSt) ⟨.rep lo hi p, DR.grown ⟨a2, 0, pl, gr, sh, sz⟩ ((posR (.rep lo hi p) : Int) - posR p) a, ⟨some ⟨b57, 0, none⟩, 1, b57 :: x.fp⟩, k⟩ (RpI.step hsh hpok hpz hsz (by omega) (by omega) (by omega) (by omega) (by omega) hgo) (by rw [grown_at]; simp only; omega)
    · have hstop : dReps t m p ⟨a, 0, pl, gr, sh, sz⟩ = (p, ⟨a, 0, pl, gr, sh, sz⟩) := by
        cases m with
        | zero => rfl
        | succ m => rw [dReps, if_neg (by simp), if_neg hst2, if_neg (by rw [hiv]; simp)]
      rw [hstop] at hgo
      rw [← hgo]
      refine .go ?_; repeat constructor
      refine EL.ofRV (RV.loadBA (RCl p x) rfl rfl rfl rfl (by repeat constructor) rfl) rfl rfl rfl (by intro c h; cases h) ?_
      refine .sa ?_; refine .go ?_; repeat constructor
      exact PX.ret rfl Tryz.results78 (.cons (.blkA rfl rfl rfl (by repeat constructor) rfl) .nil) (fun w hs => ⟨x, rfl, hs.ent (.i (by repeat constructor))⟩)
theorem fail_closed (r : DR) (e : Int) (a : Nat) : (r.fail e a).closed = r.closed := (fail_keeps r e a).1
theorem esc_closed (t : List UInt8) (r : DR) : (dEsc t r).2.closed = r.closed := by
  unfold dEsc
  dsimp only
  split
  · exact fail_closed _ _ _
  split
  · rw [grown_closed]; rfl
  split
  · rw [grown_closed]
    split
    · rfl
    · rw [fail_closed]; rfl
  split
  · rw [grown_closed, fail_closed]; rfl
  · rw [grown_closed]; rfl
theorem leaf_closed (t : List UInt8) (r : DR) (f : Bool) : (dLeaf t r f).2.closed = r.closed := by
  unfold dLeaf
  dsimp only
  split
  · exact fail_closed _ _ _
  split
  · exact esc_closed t r
  split
  · split
    · exact fail_closed _ _ _
    · rw [grown_closed]; rfl
  split
  · rfl
  split
  · rfl
  split
  · rw [grown_closed]; rfl
  · rw [grown_closed]; rfl
theorem reps_closed (t : List UInt8) : ∀ (n : Nat) (p : RE) (r : DR), (dReps t n p r).2.closed = r.closed
  | 0, p, r => rfl
  | n + 1, p, r => by
    rw [dReps]
    split
    · rfl
    split
    · rw [reps_closed t n, grown_closed]; rfl
    split
    · split
      · rw [fail_closed]; rfl
      · rw [reps_closed t n, grown_closed]; rfl
    · rfl
theorem full_closed (t : List UInt8) (y : RE × DR) : (dFull t y).2.closed = y.2.closed := by
  unfold dFull
  split
  · rfl
  · exact reps_closed t _ _ _
theorem row_closed (t : List UInt8) : ∀ (n : Nat) (in_ : Bool) (op : Nat) (ks : List RE) (r : DR), (dRow t n in_ op ks r).2.closed.length = r.closed.length
  | 0, _, _, _, _ => rfl
  | n + 1, in_, op, ks, r => by
    rw [dRow_step]
    split
    · rfl
    split
    · split
      · rw [fail_closed]
      · rfl
    split
    · show (if in_ = true then r else r.fail 10 r.at_).closed.length = _
      split
      · rfl
      · rw [fail_closed]
    · rw [row_closed t n, full_closed]
      unfold dPart
      split
      · split
        · rw [fail_closed]
        · rw [List.length_set, row_closed t n]
      · rw [leaf_closed]
theorem part_closed (t : List UInt8) (n : Nat) (r : DR) (f : Bool) : (dPart t n r f).2.closed.length = r.closed.length := by
  unfold dPart
  split
  · split
    · rw [fail_closed]
    · rw [List.length_set, row_closed t n]
  · rw [leaf_closed]
theorem dgroup_c (g : Nat) (t : List UInt8) (r : DR) (n : Nat) (first : Bool) (hr : DOk9 t r) (ht : t.length ≤ 1073741824) (hop : see2 t r.at_ 92 40 = true)
    (hrow : r.groups ≠ 9 → TM 47 #[Pv g 0, .bool true, Iv (r.at_ : Nat)] g t { r with groups := r.groups + 1, at_ := r.at_ + 2 } [] (dRow t n true r.at_ [] { r with groups := r.groups + 1, at_ := r.at_ + 2 })) :
    TM 91 #[Pv g 0] g t r [] (dPart t n r first) := by
  intro w0 B R w h
  have hdp : dPart t n r first = if r.groups = 9 then (.cat [], r.fail 4 r.at_)
    else (.group (r.groups + 1) (dRow t n true r.at_ [] { r with groups := r.groups + 1, at_ := r.at_ + 2 }).1, { (dRow t n true r.at_ [] { r with groups := r.groups + 1, at_ := r.at_ + 2 }).2 with closed := (dRow t n true r.at_ [] { r with groups := r.groups + 1, at_ := r.at_ + 2 }).2.closed.set (r.groups + 1) true }) := by unfold dPart; rw [if_pos hop]
  have hcl := row_closed t n true r.at_ [] { r with groups := r.groups + 1, at_ := r.at_ + 2 }
  have hat := ((see2_iff ..).1 hop).1
  rw [hdp]
  obtain ⟨a, e0, pl, gr, sh, sz⟩ := r
  obtain ⟨⟨hsh, hlo, hhi, _⟩, hg9⟩ := hr
  dsimp only at hsh hlo hhi hg9 hrow hcl hat ⊢
  replace h : Sat w0 B (RB g t a e0 pl gr (CT sh sz) :: R) w := h
  have hff := dfail_r g t ⟨a, e0, pl, gr, sh, sz⟩ 4 a
  refine calls_of_ES TB Tryz.func91 rfl _ Tryz.ntmps91 rfl h ?_; refine .go ?_; (repeat constructor); (refine .al ?_; intro g2); refine .go ?_; (repeat constructor); refine .mv ?_; refine .nc ?_; refine .fa ?_; refine .lb ?_; refine .as_ ?_; refine .go ?_; (repeat constructor); refine .mv ?_; refine .nc ?_; refine .fa ?_; refine .lb ?_; refine .ei ?_; refine .go ?_; repeat constructor
  refine ES.condD rfl (fun h9 => ?_) (fun h9 => ?_)
  · rw [if_pos (show gr = 9 by omega)]
    refine .go ?_; (repeat constructor); refine .mv ?_; refine .mv ?_; refine EL.callM1 rfl rfl rfl ent75 rfl hff (by repeat constructor) ?_; refine .go ?_; (repeat constructor); refine EL.buildZ rfl rfl rfl rfl rfl ?_; refine .sa ?_; refine .go ?_; repeat constructor
    exact PX.ret rfl Tryz.results91 (.cons (.blkA rfl rfl rfl (by repeat constructor) rfl) .nil) (fun w hs => ⟨p00, rfl, (leafOwn (.cat []) rfl hs).ent (.i (by repeat constructor))⟩)
  have hg8 : gr ≠ 9 := by omega
  rw [if_neg hg8]
  replace hrow := hrow hg8
  rw [hsh] at hcl
  generalize dRow t n true a [] ⟨a + 2, e0, pl, gr + 1, sh, sz⟩ = y at hrow hcl ⊢
  obtain ⟨q, ⟨a2, e2, pl2, gr2, sh2, sz2⟩⟩ := y
  dsimp only at hcl ⊢
  refine .go ?_; (repeat constructor); refine .mv ?_; refine .nc ?_; refine .fa ?_; refine .lb ?_; refine .a1 ?_; refine .nc ?_; refine .fa ?_
  (refine EL.storeB rfl rfl rfl rfl rfl rfl (by repeat constructor) (by simp) ?_; refine EL.blkEq (g := g) (by repeat constructor) (congrArg (fun a => Obj.cells a 127 (0, 0)) (rd_set4 _ _ _ _ _ _ _)) ?_)
  refine .go ?_; (repeat constructor); refine .mv ?_; refine .nc ?_; refine .fa ?_; refine .lb ?_; refine .as_ ?_; refine .go ?_; (repeat constructor); refine .mv ?_; refine .nc ?_; refine .fa ?_; refine .lb ?_; refine EL.addN (n := 2) rfl rfl rfl rfl rfl (by omega) ?_; refine .nc ?_; refine .fa ?_
  (refine EL.storeB rfl rfl rfl rfl rfl rfl (by repeat constructor) (by simp) ?_; refine EL.blkEq (g := g) (by repeat constructor) (congrArg (fun a => Obj.cells a 127 (0, 0)) (rd_set1 _ _ _ _ _ _ _)) ?_)
  refine .go ?_; (repeat constructor); refine .mv ?_; refine .mv ?_; (refine EL.callM rfl rfl rfl ent47 rfl hrow (by repeat constructor) ?_; intro x); (refine .al ?_; intro g5); refine .sa ?_; refine .go ?_; (repeat constructor); refine EL.imp (H' := HA.blk g5 (.cells (RCl q x).toArray 46) :: RB g t a2 e2 pl2 gr2 (CT sh2 sz2) :: HA.forest x.fp [q] (RCl q x) :: ZB g2 :: R) (fun w hs => hs.ent (.i (by repeat constructor))) ?_; refine .go ?_; (repeat constructor); refine .mv ?_; refine .mv ?_; refine .nc ?_; refine .fa ?_; refine EL.indexAddrA (i := gr + 1) rfl rfl rfl rfl rfl rfl rfl (by omega) ?_
  (refine EL.storeB rfl rfl rfl rfl rfl rfl (by repeat constructor) (by rw [rd_len _ _ _ _ _ _ _ hcl]; show 0 + 5 + (gr + 1) * 1 < 16; omega) ?_; refine EL.blkEq (g := g) (by repeat constructor) (congrArg (fun a => Obj.cells a 127 (0, 0)) (rd_shut_set t a2 e2 pl2 gr2 (gr + 1) _ sh2 sz2 true (by omega) (by show 0 + 5 + (gr + 1) * 1 = 5 + (gr + 1); omega))) ?_)
  refine .go ?_; (repeat constructor); refine .mv ?_
  refine EL.ofRV (RV.loadBA (RCl q x) rfl rfl rfl rfl (by repeat constructor) rfl) rfl rfl rfl (by intro c h; cases h) ?_
  (refine .b1 ?_; intro b47); refine EL.buildS (reCells (.group (gr + 1) q) (.slice (some ⟨b47, 0, none⟩) 1 1)).toArray rfl rfl rfl rfl rfl (by kernel_rfl) rfl ?_; refine .sa ?_; refine .go ?_; repeat constructor
  refine PX.ret rfl Tryz.results91 (.cons (.blkA rfl rfl rfl (by repeat constructor) rfl) .nil) (fun w hs => ⟨⟨some ⟨b47, 0, none⟩, 1, b47 :: x.fp⟩, rfl, ?_⟩)
  have h1 := Sat.seal (ks := [q]) (.group (gr + 1) q) rfl (hs.ent (H' := HA.row (.slice (some ⟨b47, 0, none⟩) 1 1) 46 9 1 (RCl q x) :: HA.forest x.fp [q] (RCl q x) :: RB g t a2 e2 pl2 gr2 (CT (sh2.set (gr + 1) true) sz2) :: R) (.i (by repeat constructor)))
  exact h1.ent (.i (by repeat constructor))
structure RowSt where
  ks : List RE
  r : DR
  kad : Option Addr
  kcap : Nat
  kcs : List Value
  fp : List Nat
  m : Nat
  bg : Bool
structure RowI (t : List UInt8) (in_ : Bool) (op N : Nat) (fin : RE × DR) (z : RowSt) : Prop where
  shut : z.r.closed.length = 10
  len : z.ks.length ≤ 65537
  fuel : z.m ≤ N
  ok : z.r.e = 0 → DOk9 t z.r ∧ z.ks.length ≤ z.r.at_ ∧ t.length < z.m + z.r.at_
  go : dRow t z.m in_ op z.ks z.r = fin
abbrev RowC (t : List UInt8) (n : Nat) : Prop := ∀ (g : Nat) (r : DR) (in_ : Bool) (op : Nat), r.e = 0 → DOk9 t r → t.length < n + r.at_ → TM 47 #[Pv g 0, .bool in_, Iv (op : Nat)] g t r [] (dRow t n in_ op [] r)
abbrev CKB (g : Nat) (ks : List RE) (kad : Option Addr) (kcap : Nat) : HA := HA.blk g (.cells (reCells (.cat ks) (.slice kad ks.length kcap)).toArray 46)
theorem sealRow {w0 w : World} {B : Nat} {R H : List HA} {kad : Option Addr} {kcap : Nat} {ks : List RE} {kcs : List Value} {fp : List Nat} (h : Sat w0 B H w) (he : Ent H (KR kad ks.length kcap kcs :: HA.forest fp ks kcs :: R)) :
    Sat w0 B (HA.forest ((Value.slice kad ks.length kcap).ownBlock.toList ++ fp) [.cat ks] (RCl (.cat ks) ⟨kad, kcap, (Value.slice kad ks.length kcap).ownBlock.toList ++ fp⟩) :: R) w := Sat.seal (.cat ks) rfl (h.ent he)
theorem anch_kind (p : RE) : isAnch p = decide (p.kind = 2 ∨ p.kind = 3) := by cases p <;> rfl
theorem nil_len (ks : List RE) : decide (ks = []) = decide ((ks.length : Int) = 0) := by cases ks <;> simp <;> omega
theorem drow_N (t : List UInt8) (ht : t.length ≤ 65536) : ∀ N n, n < N → RowC t n
  | 0, n, h => by omega
  | N + 1, n, hN => by
    intro g r in_ op he0 hok hfu w0 B R w h
    replace h : Sat w0 B (DRB g t r :: R) w := h
    have hin : ∀ in2 op2 ks (r2 : DR), r2.e = 0 → DOk9 t r2 → t.length < n + r2.at_ → (dRow t n in2 op2 ks r2).2.e = 0 → RowOk t ks r2 (dRow t n in2 op2 ks r2) := row_ok ht n
    obtain ⟨fin, hfin⟩ : ∃ fin, fin = dRow t n in_ op [] r := ⟨_, rfl⟩
    rw [← hfin]
    refine calls_of_ES TB Tryz.func47 rfl _ Tryz.ntmps47 rfl h ?_; refine .go ?_; (repeat constructor); (refine .al ?_; intro g6); refine .go ?_; (repeat constructor); refine EL.buildS #[_, .int .u64 0, .int .u64 0, .int .u64 0, .int .u64 0, .int .i64 0, .int .i64 0, .int .i64 0, .slice none 0 0] rfl rfl rfl rfl rfl rfl rfl ?_; (refine .al ?_; intro g7); refine .sa ?_; refine .go ?_; (repeat constructor); refine .as_ ?_; refine .go ?_; (repeat constructor); refine ES.imp (H' := DRB g t r :: CKB g7 [] none 0 :: KR none 0 0 [] :: HA.forest [] [] [] :: ZB g6 :: R) (fun w hs => ?_) ?_
    · have h1 := Sat.forest0 (hs.nilRow 46 9) [] [] (fun _ _ => .nil)
      exact h1.ent (.i (by repeat constructor))
    refine ES.loop (σ := RowSt) (fun z => RowI t in_ op n fin z) (fun z => [(0, Pv g 0), (1, .bool in_), (2, Iv (op : Nat)), (6, Pv g6 0), (7, Pv g7 0), (8, .bool z.bg)])
      (fun z => DRB g t z.r :: CKB g7 z.ks z.kad z.kcap :: KR z.kad z.ks.length z.kcap z.kcs :: HA.forest z.fp z.ks z.kcs :: ZB g6 :: R) (fun z => if z.r.e = 0 then t.length + 2 - z.r.at_ else 0) ⟨[], r, none, 0, [], [], n, true⟩ ⟨hok.shut, by simp, Nat.le_refl _, fun _ => ⟨hok, by simp, hfu⟩, hfin.symm⟩ ⟨rfl, rfl, rfl, rfl, rfl, rfl, trivial⟩ (.i (by repeat constructor)) ?_
    clear hfin hfu hok he0 h r
    rintro ⟨ks, ⟨a, e0, pl, gr, sh, sz⟩, kad, kcap, kcs, fp, m, bg⟩ ⟨hsh, hkl, hmn, hok, hgo⟩
    dsimp only at hsh hkl hmn hok hgo ⊢
    refine ES.imp (H' := RB g t a e0 pl gr (CT sh sz) :: CKB g7 ks kad kcap :: KR kad ks.length kcap kcs :: HA.forest fp ks kcs :: ZB g6 :: R) (fun w hs => hs) ?_; refine .go ?_; (repeat constructor); refine .mv ?_; refine .nc ?_; refine .fa ?_; refine .lb ?_; refine .ei ?_; refine .go ?_; repeat constructor
    refine ES.condD rfl (fun he => ?_) (fun hne => ?_)
    rotate_left
    · rw [row_bad _ _ _ _ _ (show (⟨a, e0, pl, gr, sh, sz⟩ : DR).e ≠ 0 from hne)] at hgo
      rw [← hgo]
      refine .go ?_; (repeat constructor); refine .lg ?_; refine .sa ?_; refine .go ?_; repeat constructor
      exact PX.ret rfl Tryz.results47 (.cons (.blkA rfl rfl rfl (by repeat constructor) rfl) .nil) (fun w hs => ⟨⟨kad, kcap, (Value.slice kad ks.length kcap).ownBlock.toList ++ fp⟩, rfl, (sealRow (R := RB g t a e0 pl gr (CT sh sz) :: R) hs (.i (by repeat constructor))).ent (.i (by repeat constructor))⟩)
    have he : e0 = 0 := he
    subst he
    obtain ⟨hok9, hka, hfu⟩ := hok rfl
    have hat : a ≤ t.length := hok9.at_
    (try dsimp only at hka hfu)
    obtain ⟨k, rfl⟩ : ∃ k, m = k + 1 := ⟨m - 1, by omega⟩
    rw [dRow_step, if_neg (by simp)] at hgo
    (try dsimp only at hgo)
    refine .g0 ?_; repeat constructor
    refine ES.draw (X := Unit) (fun _ => [(0, Pv g 0), (1, .bool in_), (2, Iv (op : Nat)), (6, Pv g6 0), (7, Pv g7 0), (8, .bool bg), (25, .bool (decide ((a : Int) = (t.length : Int))))]) (fun _ => RB g t a 0 pl gr (CT sh sz) :: CKB g7 ks kad kcap :: KR kad ks.length kcap kcs :: HA.forest fp ks kcs :: ZB g6 :: R) (RB g t a 0 pl gr (CT sh sz) :: CKB g7 ks kad kcap :: KR kad ks.length kcap kcs :: HA.forest fp ks kcs :: ZB g6 :: R) mixed (.i (by repeat constructor)) ?_ (fun _ => ?_)
    · refine .tk 0 rfl (RV.move rfl) ?_; refine .tk 1 rfl (RV.nilCheck rfl) ?_; refine .tk 2 rfl (RV.fieldAddr rfl rfl rfl rfl rfl rfl) ?_; refine .tk 3 rfl (RV.loadB rfl rfl rfl (by repeat constructor) rfl) ?_; refine .tk 4 rfl (RV.move rfl) ?_; refine .tk 5 rfl (RV.nilCheck rfl) ?_; refine .tk 6 rfl (RV.fieldAddr rfl rfl rfl rfl rfl rfl) ?_; refine .tk 7 rfl (RV.loadB rfl rfl rfl (by repeat constructor) rfl) ?_; refine .tk 8 rfl (RV.lenS rfl rfl rfl) ?_; refine .tk 9 rfl (RV.eqlI rfl rfl) ?_; refine .dn ?_
      exact .cy ()
    refine .go ?_; repeat constructor
    refine ES.condD rfl (fun hend => ?_) (fun hend => ?_)
    · rw [if_pos (by omega)] at hgo
      refine .go ?_; (repeat constructor); refine .mv ?_; refine .go ?_; repeat constructor
      cases in_ with
      | true =>
        rw [if_pos rfl] at hgo
        rw [← hgo]
        refine ES.condT rfl ?_; refine .go ?_; (repeat constructor); refine .mv ?_; refine .mv ?_; refine EL.callM1 rfl rfl rfl ent75 rfl (dfail_r g t ⟨a, 0, pl, gr, sh, sz⟩ 10 op) (by repeat constructor) ?_; refine .go ?_; (repeat constructor); refine .lg ?_; refine .sa ?_; refine .go ?_; repeat constructor
        exact PX.ret rfl Tryz.results47 (.cons (.blkA rfl rfl rfl (by repeat constructor) rfl) .nil) (fun w hs => ⟨⟨kad, kcap, (Value.slice kad ks.length kcap).ownBlock.toList ++ fp⟩, rfl, (sealRow (R := DRB g t (DR.fail ⟨a, 0, pl, gr, sh, sz⟩ 10 op) :: R) hs (.i (by repeat constructor))).ent (.i (by repeat constructor))⟩)
      | false =>
        rw [if_neg (by simp)] at hgo
        rw [← hgo]
        refine ES.condF rfl ?_; refine .go ?_; (repeat constructor); refine .lg ?_; refine .sa ?_; refine .go ?_; repeat constructor
        exact PX.ret rfl Tryz.results47 (.cons (.blkA rfl rfl rfl (by repeat constructor) rfl) .nil) (fun w hs => ⟨⟨kad, kcap, (Value.slice kad ks.length kcap).ownBlock.toList ++ fp⟩, rfl, (sealRow (R := RB g t a 0 pl gr (CT sh sz) :: R) hs (.i (by repeat constructor))).ent (.i (by repeat constructor))⟩)
    rw [if_neg (by omega)] at hgo
    have hlt : a < t.length := by omega
    have hs2 := dsee_c g t a 0 pl gr (CT sh sz) [92, 41] (by omega) (by omega) (by simp)
    rw [see2_is] at hs2
    refine .go ?_; (repeat constructor); refine .mv ?_; refine EL.callM1 rfl rfl rfl ent76 rfl hs2 (by repeat constructor) ?_; refine .go ?_; repeat constructor
    refine ES.cond rfl (fun hcl => ?_) (fun hcl => ?_)
    · rw [if_pos hcl] at hgo
      refine .go ?_; (repeat constructor); refine .mv ?_; refine .nt ?_; refine .go ?_; repeat constructor
      cases in_ with
      | true =>
        rw [if_pos rfl] at hgo
        rw [← hgo]
        refine ES.condF rfl ?_; refine .go ?_; (repeat constructor); refine .mv ?_; refine .nc ?_; refine .fa ?_; refine .lb ?_; refine EL.addN (n := 2) rfl rfl rfl rfl rfl (by omega) ?_; refine .nc ?_; refine .fa ?_
        (refine EL.storeB rfl rfl rfl rfl rfl rfl (by repeat constructor) (by simp) ?_; refine EL.blkEq (g := g) (by repeat constructor) (congrArg (fun a => Obj.cells a 127 (0, 0)) (rd_set1 _ _ _ _ _ _ _)) ?_)
        refine .go ?_; (repeat constructor); refine .lg ?_; refine .sa ?_; refine .go ?_; repeat constructor
        exact PX.ret rfl Tryz.results47 (.cons (.blkA rfl rfl rfl (by repeat constructor) rfl) .nil) (fun w hs => ⟨⟨kad, kcap, (Value.slice kad ks.length kcap).ownBlock.toList ++ fp⟩, rfl, (sealRow (R := RB g t (a + 2) 0 pl gr (CT sh sz) :: R) hs (.i (by repeat constructor))).ent (.i (by repeat constructor))⟩)
      | false =>
        rw [if_neg (by simp)] at hgo
        rw [← hgo]
        refine ES.condT rfl ?_; refine .go ?_; (repeat constructor); refine .mv ?_; refine .mv ?_; refine .nc ?_; refine .fa ?_; refine .lb ?_; refine EL.callM1 rfl rfl rfl ent75 rfl (dfail_r g t ⟨a, 0, pl, gr, sh, sz⟩ 10 a) (by repeat constructor) ?_; refine .go ?_; (repeat constructor); refine EL.imp (H' := RB g t a 10 a gr (CT sh sz) :: CKB g7 ks kad kcap :: KR kad ks.length kcap kcs :: HA.forest fp ks kcs :: ZB g6 :: R) (fun w hs => hs.ent (.i (by repeat constructor))) ?_; refine .go ?_; (repeat constructor); refine .mv ?_; refine .nc ?_; refine .fa ?_; refine .lb ?_; refine EL.addN (n := 2) rfl rfl rfl rfl rfl (by omega) ?_; refine .nc ?_; refine .fa ?_
        (refine EL.storeB rfl rfl rfl rfl rfl rfl (by repeat constructor) (by simp) ?_; refine EL.blkEq (g := g) (by repeat constructor) (congrArg (fun a => Obj.cells a 127 (0, 0)) (rd_set1 _ _ _ _ _ _ _)) ?_)
        refine .go ?_; (repeat constructor); refine .lg ?_; refine .sa ?_; refine .go ?_; repeat constructor
        exact PX.ret rfl Tryz.results47 (.cons (.blkA rfl rfl rfl (by repeat constructor) rfl) .nil) (fun w hs => ⟨⟨kad, kcap, (Value.slice kad ks.length kcap).ownBlock.toList ++ fp⟩, rfl, (sealRow (R := RB g t (a + 2) 10 a gr (CT sh sz) :: R) hs (.i (by repeat constructor))).ent (.i (by repeat constructor))⟩)
    rw [if_neg (by rw [hcl]; simp), nil_len] at hgo
    generalize hfst : decide ((ks.length : Int) = 0) = first at hgo
    have hgrp : see2 t a 92 40 = true → TM 91 #[Pv g 0] g t ⟨a, 0, pl, gr, sh, sz⟩ [] (dPart t k ⟨a, 0, pl, gr, sh, sz⟩ first) := fun hop =>
      dgroup_c g t ⟨a, 0, pl, gr, sh, sz⟩ k first hok9 (by omega) hop (fun h9 => drow_N t ht N k (by omega) g ⟨a + 2, 0, pl, gr + 1, sh, sz⟩ true a rfl ⟨⟨hsh, hok9.lo, hok9.hi, ((see2_iff ..).1 hop).1⟩, by have := hok9.groups; simp only at h9 this ⊢; omega⟩ (by simp only; omega))
    have hpc := dpart_c g t ⟨a, 0, pl, gr, sh, sz⟩ k first bg hok9.toDOk (by omega) hlt hgrp
    have hpo : (dPart t k ⟨a, 0, pl, gr, sh, sz⟩ first).2.e = 0 → PartOk t ⟨a, 0, pl, gr, sh, sz⟩ (dPart t k ⟨a, 0, pl, gr, sh, sz⟩ first) := fun he => part_ok (row_ok ht k) first rfl hok9 hlt hfu ht he
    have hpl := part_closed t k ⟨a, 0, pl, gr, sh, sz⟩ first
    have hpl : (dPart t k ⟨a, 0, pl, gr, sh, sz⟩ first).2.closed.length = 10 := hpl.trans hsh
    generalize dPart t k ⟨a, 0, pl, gr, sh, sz⟩ first = y at hgo hpc hpo hpl
    refine .go ?_; (repeat constructor); refine .mv ?_; refine .fa ?_; refine .lb ?_; refine .lL ?_; refine .ei ?_; refine .mv ?_
    (refine EL.rew (d := 53) (v' := .bool first) rfl (congrArg Value.bool hfst) ?_; refine EL.callM rfl rfl rfl ent77 rfl hpc (by repeat constructor) ?_; intro x)
    (refine .al ?_; intro g9); refine .sa ?_; refine .go ?_; repeat constructor
    refine EL.cutX (X := Unit) (fun _ => [(0, Pv g 0), (1, .bool in_), (2, Iv (op : Nat)), (6, Pv g6 0), (7, Pv g7 0), (8, .bool bg), (9, Pv g9 0), (63, .bool (!isAnch y.1))]) (fun _ => HA.blk g9 (.cells (RCl y.1 x).toArray 46) :: DRB g t y.2 :: HA.forest x.fp [y.1] (RCl y.1 x) :: CKB g7 ks kad kcap :: KR kad ks.length kcap kcs :: HA.forest fp ks kcs :: ZB g6 :: R) ?_ (fun _ => ?_)
    · have hkk : ∀ n : Nat, (((y.1.kind : Nat) : Int) = (n : Int)) ↔ y.1.kind = n := fun n => by omega
      refine .go ?_; (repeat constructor); refine .fa ?_; refine .lb ?_; refine .ni ?_; refine .mv ?_
      first | refine EL.splitD (d := 59) rfl (fun hp59 => ?_) (fun hp59 => ?_) | refine EL.splitN (d := 59) rfl (fun hp59 => ?_) (fun hp59 => ?_) | refine EL.splitB (d := 59) rfl (fun hp59 => ?_) (fun hp59 => ?_)
      · refine .fa ?_; refine .lb ?_; refine .ni ?_; refine .pt ?_
        exact .dx () ⟨rfl, rfl, rfl, rfl, rfl, rfl, rfl, getA rfl (congrArg Value.bool (by rw [anch_kind, Bool.eq_iff_iff]; simp only [decide_eq_true_eq, Bool.not_eq_true', decide_eq_false_iff_not, Bool.false_eq_true, false_iff, not_or] at *; omega)), trivial⟩
      · refine .ps ?_; refine .ps ?_; refine .ps ?_; refine .pf ?_
        exact .dx () ⟨rfl, rfl, rfl, rfl, rfl, rfl, rfl, getA rfl (congrArg Value.bool (by rw [anch_kind, Bool.eq_iff_iff]; simp only [decide_eq_true_eq, Bool.not_eq_true', decide_eq_false_iff_not, Bool.false_eq_true, false_iff, not_or] at *; omega)), trivial⟩
    obtain ⟨z, hz⟩ : ∃ z, z = dFull t y := ⟨_, rfl⟩
    have hzo : z.2.e = 0 → PartOk t ⟨a, 0, pl, gr, sh, sz⟩ z := fun he => by
      have hy : y.2.e = 0 := by
        by_cases hx : y.2.e = 0
        · exact hx
        · rw [hz, full_bad hx] at he; exact absurd he hx
      rw [hz] at he ⊢
      exact full_ok hok9.lo hy (hpo hy) he
    have hzl : z.2.closed.length = 10 := by rw [hz, full_closed]; exact hpl
    rw [← hz] at hgo
    refine ES.cutC (X := PX0 × Bool) (fun q => [(0, Pv g 0), (1, .bool in_), (2, Iv (op : Nat)), (6, Pv g6 0), (7, Pv g7 0), (8, .bool q.2), (9, Pv g9 0)]) (fun q => HA.blk g9 (.cells (RCl z.1 q.1).toArray 46) :: DRB g t z.2 :: HA.forest q.1.fp [z.1] (RCl z.1 q.1) :: CKB g7 ks kad kcap :: KR kad ks.length kcap kcs :: HA.forest fp ks kcs :: ZB g6 :: R) ?_ (fun q => ?_)
    · refine ES.cond rfl (fun hrp => ?_) (fun hno => ?_)
      · have hz2 : z = dReps t t.length y.1 y.2 := by rw [hz]; unfold dFull; rw [if_neg (by rw [Bool.not_eq_true'] at hrp; rw [hrp]; simp)]
        have hrc : TM 78 #[Pv g 0, .agg (RCl y.1 x).toArray] g t y.2 [HA.forest x.fp [y.1] (RCl y.1 x)] (dReps t t.length y.1 y.2) := dreps_c g t y.2 y.1 x t.length (by omega) ?hI
        case hI => exact ⟨hpl, fun hx => ⟨(hpo hx).ok.at_, by show t.length ≤ t.length + y.2.at_; omega⟩, fun hx => ⟨(hpo hx).pok, by have h1 := (hpo hx).size; have h2 := hok9.lo; simp only at h1 h2; show (posR y.1 : Int) ≤ y.2.size; omega, (hpo hx).ok.hi⟩, rfl⟩
        rw [← hz2] at hrc
        refine .go ?_; (repeat constructor); refine .mv ?_
        refine EL.ofRV (RV.loadBA (RCl y.1 x) rfl rfl rfl rfl (by repeat constructor) rfl) rfl rfl rfl (by intro c h; cases h) ?_
        (refine EL.callM rfl rfl rfl ent78 rfl hrc (by repeat constructor) ?_; intro x2); refine .sa ?_; refine .go ?_; (repeat constructor); refine .as_ ?_; refine .go ?_; repeat constructor
        exact .cy (x2, false)
      · have hz2 : z = y := by rw [hz]; unfold dFull; rw [if_pos (by simpa using hno)]
        rw [hz2]
        refine .go ?_; repeat constructor
        exact .cy (x, bg)
    obtain ⟨x2, bg2⟩ := q
    have hlen : (ks ++ [z.1]).length = ks.length + 1 := by simp
    refine .go ?_; (repeat constructor); refine .fa ?_; refine .lb ?_
    refine EL.ofRV (RV.loadBA (RCl z.1 x2) rfl rfl rfl rfl (by repeat constructor) rfl) rfl rfl rfl (by intro c h; cases h) ?_
    (refine .b1 ?_; intro b70)
    (refine EL.append1 rfl rfl rfl rfl rfl rfl rfl rfl rfl (by repeat constructor) (by repeat constructor) (by first | (intro u hu; simp [Value.cells] at hu; subst hu; rfl) | exact all1 rfl) (by rfl) (by unfold maxLen; omega) (by first | omega | (show 1 * _ ≤ _; omega) | (show 8 * _ ≤ _; omega) | (show 16 * _ ≤ _; omega) | (show 24 * _ ≤ _; omega) | (show _ * 1 ≤ _; omega) | (show _ * 8 ≤ _; omega) | (show _ * 16 ≤ _; omega) | (show _ * 24 ≤ _; omega) | exact Nat.le_trans (Nat.mul_le_mul_right _ (show _ ≤ 1073741824 by omega)) (by decide)) ?_; intro a71 c71)
    refine .fa ?_; refine .sb ?_
    skip
    refine EL.imp (H' := DRB g t z.2 :: CKB g7 (ks ++ [z.1]) (some ⟨a71, 0, none⟩) c71 :: KR (some ⟨a71, 0, none⟩) (ks ++ [z.1]).length c71 (kcs ++ RCl z.1 x2) :: HA.forest (fp ++ x2.fp) (ks ++ [z.1]) (kcs ++ RCl z.1 x2) :: ZB g6 :: R) (fun w hs => ?_) ?_
    · have h1 := Sat.forestApp (hs.ent (H' := HA.forest fp ks kcs :: HA.forest x2.fp [z.1] (RCl z.1 x2) :: DRB g t z.2 :: HA.blk g7 (.cells (reCells (.cat ks) (.slice (some ⟨a71, 0, none⟩) (ks.length + 1) c71)).toArray 46) :: KR (some ⟨a71, 0, none⟩) (ks.length + 1) c71 (kcs ++ RCl z.1 x2) :: ZB g6 :: R) (.i (by repeat constructor)))
      show Sat _ _ (DRB g t z.2 :: HA.blk g7 (.cells (reCells (.cat (ks ++ [z.1])) (.slice (some ⟨a71, 0, none⟩) (ks ++ [z.1]).length c71)).toArray 46) :: HA.row (.slice (some ⟨a71, 0, none⟩) (ks ++ [z.1]).length c71) 46 9 (ks ++ [z.1]).length (kcs ++ RCl z.1 x2) :: HA.forest (fp ++ x2.fp) (ks ++ [z.1]) (kcs ++ RCl z.1 x2) :: ZB g6 :: R) w
      rw [hlen]
      exact h1.ent (.i (by repeat constructor))
    refine .go ?_; repeat constructor
    refine .ly (σ := RowSt) ⟨ks ++ [z.1], z.2, some ⟨a71, 0, none⟩, c71, kcs ++ RCl z.1 x2, fp ++ x2.fp, k, bg2⟩ ⟨hzl, by simp only; omega, by simp only; omega, fun hx => ⟨(hzo hx).ok, by have := (hzo hx).at_; simp only at this ⊢; omega, by have := (hzo hx).at_; simp only at this ⊢; omega⟩, hgo⟩ ?_
    simp only
    split
    · rename_i hx
      have h1 := (hzo hx).at_
      have h2 := (hzo hx).ok.at_
      simp only at h1 h2
      rw [if_pos trivial]
      omega
    · rw [if_pos trivial]; omega
theorem drow_c (t : List UInt8) (ht : t.length ≤ 65536) (n : Nat) : RowC t n := drow_N t ht (n + 1) n (by omega)
theorem ddoc_c (t : List UInt8) (ht0 : t.length ≤ 4611686018427387904) (w : World) :
    Pure Tryz.prog 28 #[Sv t] (fun x : PX0 => .tuple #[.agg (RCl (docM t).tree x).toArray, Iv (docM t).e, Iv ((docM t).at_ : Nat)])
      (fun x => [HA.forest x.fp [(docM t).tree] (RCl (docM t).tree x)]) w := by
  have hd : docM t = if 512 < t.length then ⟨.cat [], 2, 0⟩ else if (dRow t (t.length + 1) false 0 [] dr0).2.e ≠ 0 then ⟨.cat [], (dRow t (t.length + 1) false 0 [] dr0).2.e, (dRow t (t.length + 1) false 0 [] dr0).2.place⟩ else ⟨(dRow t (t.length + 1) false 0 [] dr0).1, 0, 0⟩ := rfl
  refine calls_of_ES TB Tryz.func28 rfl _ Tryz.ntmps28 rfl (Sat.start w) ?_; refine .go ?_; (repeat constructor); (refine .al ?_; intro g2); refine .as_ ?_; refine .as_ ?_; refine .go ?_; (repeat constructor); refine .mv ?_; refine .lS ?_; refine .gt_ ?_; refine .go ?_; repeat constructor
  refine ES.condD rfl (fun hlong => ?_) (fun hshort => ?_)
  · rw [if_pos (by omega)] at hd
    rw [hd]
    refine .go ?_; (repeat constructor); refine EL.buildZ rfl rfl rfl rfl rfl ?_; refine .sa ?_; refine .as_ ?_; refine .as_ ?_; refine .go ?_; repeat constructor
    exact PX.ret rfl Tryz.results28 (.cons (.blkA rfl rfl rfl (by repeat constructor) rfl) (.cons (.tmp rfl) (.cons (.tmp rfl) .nil))) (fun w hs => ⟨p00, rfl, (leafOwn (.cat []) rfl hs).ent (.i (by repeat constructor))⟩)
  rw [if_neg (by omega)] at hd
  have hrow := fun g => drow_c t (by omega) (t.length + 1) g dr0 false 0 rfl ⟨⟨rfl, by decide, by decide, Nat.zero_le _⟩, by decide⟩ (by show t.length < t.length + 1 + 0; omega)
  generalize dRow t (t.length + 1) false 0 [] dr0 = y at hd hrow
  obtain ⟨q, ⟨a2, e2, pl2, gr2, sh2, sz2⟩⟩ := y
  dsimp only at hd
  refine .go ?_; (repeat constructor); refine .mv ?_; refine EL.buildS (rdC t 0 0 0 0 (CT (List.replicate 10 false) 0)).toArray rfl rfl rfl rfl rfl (by kernel_rfl) rfl ?_; (refine .bx ?_; intro g13); refine .as_ ?_; refine .go ?_; (repeat constructor); refine .mv ?_; (refine EL.callM rfl rfl rfl ent47 rfl (hrow g13) (by repeat constructor) ?_; intro x); (refine .al ?_; intro g6); refine .sa ?_; refine .go ?_; (repeat constructor); refine EL.imp (H' := HA.blk g6 (.cells (RCl q x).toArray 46) :: RB g13 t a2 e2 pl2 gr2 (CT sh2 sz2) :: HA.forest x.fp [q] (RCl q x) :: ZB g2 :: []) (fun w hs => hs.ent (.i (by repeat constructor))) ?_; refine .go ?_; (repeat constructor); refine .mv ?_; refine .nc ?_; refine .fa ?_; refine .lb ?_; refine .ni ?_; refine .go ?_; repeat constructor
  refine ES.condN rfl (fun hne => ?_) (fun he => ?_)
  · have hne : e2 ≠ 0 := hne
    rw [if_pos hne] at hd
    rw [hd]
    refine .g0 ?_; repeat constructor
    refine ES.draw (X := Unit) (fun _ => [(2, Pv g2 0), (3, Iv e2), (4, Iv (pl2 : Nat))]) (fun _ => ZB g2 :: []) (RB g13 t a2 e2 pl2 gr2 (CT sh2 sz2) :: []) mixed (.i (by repeat constructor)) ?_ (fun _ => ?_)
    · refine .tk 1 rfl (RV.move rfl) ?_; refine .tk 2 rfl (RV.nilCheck rfl) ?_; refine .tk 3 rfl (RV.fieldAddr rfl rfl rfl rfl rfl rfl) ?_; refine .tk 4 rfl (RV.loadB rfl rfl rfl (by repeat constructor) rfl) ?_; refine .tk 5 rfl (RV.move rfl) ?_; refine .tk 6 rfl (RV.nilCheck rfl) ?_; refine .tk 7 rfl (RV.fieldAddr rfl rfl rfl rfl rfl rfl) ?_; refine .tk 8 rfl (RV.loadB rfl rfl rfl (by repeat constructor) rfl) ?_; refine .ld 0 ?_; refine EL.buildZ rfl rfl rfl rfl rfl ?_; refine .nx ?_; refine .ld 9 ?_; refine .sa ?_; refine .nx ?_; refine .tk 10 rfl (RV.assign rfl) ?_; refine .tk 11 rfl (RV.assign rfl) ?_; refine .dn ?_
      exact .cy ()
    refine .go ?_; repeat constructor
    exact PX.ret rfl Tryz.results28 (.cons (.blkA rfl rfl rfl (by repeat constructor) rfl) (.cons (.tmp rfl) (.cons (.tmp rfl) .nil))) (fun w hs => ⟨p00, rfl, (leafOwn (.cat []) rfl hs).ent (.i (by repeat constructor))⟩)
  · have he : e2 = 0 := he
    rw [if_neg (by rw [he]; simp)] at hd
    rw [hd]
    refine .go ?_; repeat constructor
    refine EL.ofRV (RV.loadBA (RCl q x) rfl rfl rfl rfl (by repeat constructor) rfl) rfl rfl rfl (by intro c h; cases h) ?_
    refine .sa ?_; refine .as_ ?_; refine .as_ ?_; refine .go ?_; repeat constructor
    exact PX.ret rfl Tryz.results28 (.cons (.blkA rfl rfl rfl (by repeat constructor) rfl) (.cons (.tmp rfl) (.cons (.tmp rfl) .nil))) (fun w hs => ⟨x, rfl, hs.ent (.i (by repeat constructor))⟩)
def kidsFine (p : PS) : Prop := ∀ f ∈ p.top :: p.rest, ∀ k ∈ f.kids, k.fine
theorem put_fine {p : PS} {r : RE} {n : Nat} {sz : Nat} (h : kidsFine p) (hr : r.fine) : kidsFine { p with top := p.top.put r n, size := sz } := by
  intro f hf k hk
  rcases List.mem_cons.1 hf with rfl | hf
  · simp only [put_kids, List.mem_append, List.mem_singleton] at hk
    rcases hk with hk | rfl
    · exact h p.top (by simp) k hk
    · exact hr
  · exact h f (by simp [hf]) k hk
theorem takeM_fine {p : PS} {N : Nat} (hN : N ≤ 1024) {k : Tok} (hp : POk p N) (hk : TokOk p k) (h6 : k.kind ≤ 6) (he : (takeM p k).2 = 0) (h : kidsFine p) : kidsFine (takeM p k).1 := by
  rcases (by omega : k.kind = 0 ∨ k.kind = 1 ∨ k.kind = 2 ∨ k.kind = 3 ∨ k.kind = 4 ∨ k.kind = 5 ∨ k.kind = 6) with h0 | h0 | h0 | h0 | h0 | h0 | h0
  · rw [takeM_0 h0]
    exact put_fine h (by simp [RE.fine])
  · rw [takeM_1 h0]
    exact put_fine h (by simp [RE.fine])
  · rw [takeM_2 h0]
    exact put_fine h (by simp [RE.fine])
  · rw [takeM_3 h0] at he ⊢
    split at he
    · cases he
    · rename_i hg
      rw [if_neg hg]
      intro f hf
      rcases List.mem_cons.1 hf with rfl | hf
      · simp
      · exact h f hf
  · rw [takeM_4 h0] at he ⊢
    obtain ⟨top, rest, groups, shut, size⟩ := p
    cases rest with
    | nil => cases he
    | cons f r =>
      dsimp only
      have hn := hp.ok.num top (by simp)
      have hkl := hp.kids top (by simp)
      intro f' hf k' hk'
      rcases List.mem_cons.1 hf with rfl | hf
      · simp only [put_kids, List.mem_append, List.mem_singleton] at hk'
        rcases hk' with hk' | rfl
        · exact h f (by simp) k' hk'
        · refine ⟨hn, by omega, (fineL_iff _).2 (fun k2 hk2 => h top (by simp) k2 hk2)⟩
      · exact h f' (by simp [hf]) k' hk'
  · rw [takeM_5 h0] at he ⊢
    obtain ⟨hne, q1, q2, q3, q4, q5⟩ := hk.rep h0
    dsimp only
    have hl := dropLast_last p.top.kids .bol hne
    intro f hf k' hk'
    rcases List.mem_cons.1 hf with rfl | hf
    · simp only [List.mem_append, List.mem_singleton] at hk'
      rcases hk' with hk' | rfl
      · exact h p.top (by simp) k' (by rw [hl]; exact List.mem_append_left _ hk')
      · have hlast : p.top.kids.getLastD .bol ∈ p.top.kids := by
          have hm : p.top.kids.getLastD .bol ∈ p.top.kids.dropLast ++ [p.top.kids.getLastD .bol] := List.mem_append_right _ List.mem_cons_self
          rwa [← hl] at hm
        refine ⟨by omega, q3, q4, fun hh => ?_, h p.top (by simp) _ hlast⟩
        have := q5 hh
        omega
    · exact h f (by simp [hf]) k' hk'
  · rw [takeM_6 h0] at he ⊢
    split at he
    · rename_i hs
      rw [if_pos hs]
      have := hk.back h0
      exact put_fine h ⟨by omega, by omega⟩
    · cases he
theorem parseGo_fine : ∀ (ks : List Tok) (p : PS) (N : Nat), N + ks.length ≤ 1024 → POk p N → TksOk ks p → kidsFine p → (parseGo ks p).tree.fine
  | [], p, N, hN, hp, _, h => by
    rw [parseGo]
    unfold endM
    split
    · exact ⟨by have := hp.kids p.top (by simp); omega, (fineL_iff _).2 (fun k hk => h p.top (by simp) k hk)⟩
    · exact ⟨by simp, trivial⟩
  | k :: ks, p, N, hN, hp, hk, h => by
    rw [parseGo]
    simp only [List.length_cons] at hN
    obtain ⟨h1, h2, h3, h4⟩ := hk
    split
    · exact ⟨by simp, trivial⟩
    · rename_i he
      have he := Classical.not_not.1 he
      have h6 : k.kind ≤ 6 := by
        rcases Nat.lt_or_ge k.kind 7 with hh | hh
        · omega
        · rw [takeM_7 hh] at he; exact absurd he (h3 (by omega))
      exact parseGo_fine ks _ (N + 1) (by omega) (takeM_ok hp h1 he h6) (h4 he) (takeM_fine (by omega) hp h1 h6 he h)
theorem parse_fine (t : List UInt8) : (parseM t).tree.fine := by
  unfold parseM
  split
  · exact ⟨by simp, trivial⟩
  · rename_i ht
    have := toks_len t t.length 0 true true
    exact parseGo_fine _ _ 0 (by unfold toksM; omega) ps0_pok (parse_toks_ok t) (by intro f hf k hk; simp [ps0] at hf; subst hf; simp at hk)
end Go.Proofs.YthcbjbkheodejaaGreat
namespace Go.Proofs.YthcbjbkheodejaaGreat
open Go Go.RowKit Sl
set_option maxRecDepth 100000
set_option maxHeartbeats 8000000
attribute [local irreducible] ES EL PX wps
abbrev w64 (x : Int) : Int := IntKind.i64.wrap x
structure Me where
  pos : Int
  grp : Int
  least : Int
  most : Int
  back : Bool
  bol : Bool
  eol : Bool
def Me.cells (m : Me) : List Value := [Iv m.pos, Iv m.grp, Iv m.least, Iv m.most, .bool m.back, .bool m.bol, .bool m.eol]
def Me.zero : Me := ⟨0, 0, 0, 0, false, false, false⟩
def moreM (a b : Int) : Int := if a < 0 ∨ b < 0 then -1 else w64 (a + b)
def manyM (a h : Int) : Int := if a = 0 ∨ h = 0 then 0 else if a < 0 ∨ h < 0 then -1 else w64 (a * h)
def Me.plus (m n : Me) : Me := ⟨w64 (m.pos + n.pos), w64 (m.grp + n.grp), w64 (m.least + n.least), moreM m.most n.most, m.back || n.back, m.bol || n.bol, m.eol || n.eol⟩
def timesI (lo : Nat) (hi : Int) : Int := if hi < 0 then max (lo : Int) 1 else hi
def finM (k lo : Nat) (hi : Int) (m : Me) : Me :=
  if k = 1 then { m with pos := 1, least := 1, most := 1 }
  else if k = 2 then { m with bol := true }
  else if k = 3 then { m with eol := true }
  else if k = 4 then { m with grp := w64 (m.grp + 1) }
  else if k = 6 then { m with pos := 1, most := -1, back := true }
  else if k = 5 then { m with pos := w64 (m.pos * timesI lo hi), least := w64 (m.least * lo), most := manyM m.most hi }
  else m
mutual
def measM : RE → Me
  | .byte _ => finM 1 0 0 Me.zero
  | .bol => finM 2 0 0 Me.zero
  | .eol => finM 3 0 0 Me.zero
  | .back _ => finM 6 0 0 Me.zero
  | .cat ks => measL ks Me.zero
  | .group _ k => finM 4 0 0 (Me.zero.plus (measM k))
  | .rep lo hi k => finM 5 lo hi (Me.zero.plus (measM k))
def measL : List RE → Me → Me
  | [], m => m
  | k :: ks, m => measL ks (m.plus (measM k))
end
theorem meas_eq (r : RE) : measM r = finM r.kind r.lo r.hi (measL r.kids Me.zero) := by
  cases r <;> simp only [RE.kind, RE.lo, RE.hi, RE.kids] <;> rw [measM] <;> first | rfl | (rw [measL]; rfl) | (rw [measL, measL])
theorem more_c (a b : Int) (w : World) : Pure Tryz.prog 60 #[Iv a, Iv b] (fun _ : Unit => Iv (moreM a b)) (fun _ => []) w := by
  refine calls_of_ES TB Tryz.func60 rfl _ Tryz.ntmps60 rfl (Sat.start w) ?_; refine .go ?_; (repeat constructor); refine .as_ ?_; refine .go ?_; repeat constructor
  refine EL.cutX (X := Unit) (fun _ => [(0, Iv a), (1, Iv b), (10, .bool (decide (a < 0 ∨ b < 0)))]) (fun _ => []) ?_ (fun _ => ?_)
  · refine .go ?_; (repeat constructor); refine .mv ?_; refine .ls ?_; refine .mv ?_
    first | refine EL.splitD (d := 7) rfl (fun hp7 => ?_) (fun hp7 => ?_) | refine EL.splitN (d := 7) rfl (fun hp7 => ?_) (fun hp7 => ?_) | refine EL.splitB (d := 7) rfl (fun hp7 => ?_) (fun hp7 => ?_)
    · refine .ps ?_; refine .ps ?_; refine .pt ?_
      exact .dx () ⟨rfl, rfl, getA rfl (congrArg Value.bool (by rw [Bool.eq_iff_iff]; simp only [decide_eq_true_eq, true_iff]; omega)), trivial⟩
    · refine .mv ?_; refine .ls ?_; refine .pf ?_
      exact .dx () ⟨rfl, rfl, getA rfl (congrArg Value.bool (by rw [Bool.eq_iff_iff]; simp only [decide_eq_true_eq, true_iff]; omega)), trivial⟩
  refine ES.condD rfl (fun h => ?_) (fun h => ?_)
  · refine .go ?_; (repeat constructor); refine .as_ ?_; refine .go ?_; repeat constructor
    exact PX.ret rfl Tryz.results60 (.cons (.tmp rfl) .nil) (fun w hs => ⟨(), by unfold moreM; rw [if_pos h]; rfl, hs.ent (.i (by repeat constructor))⟩)
  · refine .go ?_; (repeat constructor); refine .mv ?_; refine .mv ?_; refine EL.add (w64 (a + b)) rfl rfl rfl rfl rfl ?_; refine .as_ ?_; refine .go ?_; repeat constructor
    exact PX.ret rfl Tryz.results60 (.cons (.tmp rfl) .nil) (fun w hs => ⟨(), by unfold moreM; rw [if_neg h]; rfl, hs.ent (.i (by repeat constructor))⟩)
theorem many_c (a b : Int) (w : World) : Pure Tryz.prog 61 #[Iv a, Iv b] (fun _ : Unit => Iv (manyM a b)) (fun _ => []) w := by
  refine calls_of_ES TB Tryz.func61 rfl _ Tryz.ntmps61 rfl (Sat.start w) ?_; refine .go ?_; (repeat constructor); refine .as_ ?_; refine .go ?_; repeat constructor
  refine EL.cutX (X := Unit) (fun _ => [(0, Iv a), (1, Iv b), (5, .bool (decide (a = 0 ∨ b = 0)))]) (fun _ => []) ?_ (fun _ => ?_)
  · refine .go ?_; (repeat constructor); refine .mv ?_; refine .ei ?_; refine .mv ?_
    first | refine EL.splitD (d := 8) rfl (fun hp8 => ?_) (fun hp8 => ?_) | refine EL.splitN (d := 8) rfl (fun hp8 => ?_) (fun hp8 => ?_) | refine EL.splitB (d := 8) rfl (fun hp8 => ?_) (fun hp8 => ?_)
    · refine .ps ?_; refine .ps ?_; refine .pt ?_; refine .as_ ?_
      exact .dx () ⟨rfl, rfl, getA rfl (congrArg Value.bool (by rw [Bool.eq_iff_iff]; simp only [decide_eq_true_eq, true_iff]; omega)), trivial⟩
    · refine .mv ?_; refine .ei ?_; refine .pf ?_; refine .as_ ?_
      exact .dx () ⟨rfl, rfl, getA rfl (congrArg Value.bool (by rw [Bool.eq_iff_iff]; simp only [decide_eq_true_eq, true_iff]; omega)), trivial⟩
  refine ES.condD rfl (fun h => ?_) (fun h => ?_)
  · refine .go ?_; (repeat constructor); refine .as_ ?_; refine .go ?_; repeat constructor
    exact PX.ret rfl Tryz.results61 (.cons (.tmp rfl) .nil) (fun w hs => ⟨(), by unfold manyM; rw [if_pos h]; rfl, hs.ent (.i (by repeat constructor))⟩)
  refine .go ?_; repeat constructor
  refine EL.cutX (X := Unit) (fun _ => [(0, Iv a), (1, Iv b), (12, .bool (decide (a < 0 ∨ b < 0)))]) (fun _ => []) ?_ (fun _ => ?_)
  · refine .go ?_; (repeat constructor); refine .mv ?_; refine .ls ?_; refine .mv ?_
    first | refine EL.splitD (d := 15) rfl (fun hp15 => ?_) (fun hp15 => ?_) | refine EL.splitN (d := 15) rfl (fun hp15 => ?_) (fun hp15 => ?_) | refine EL.splitB (d := 15) rfl (fun hp15 => ?_) (fun hp15 => ?_)
    · refine .ps ?_; refine .ps ?_; refine .pt ?_; refine .as_ ?_
      exact .dx () ⟨rfl, rfl, getA rfl (congrArg Value.bool (by rw [Bool.eq_iff_iff]; simp only [decide_eq_true_eq, true_iff]; omega)), trivial⟩
    · refine .mv ?_; refine .ls ?_; refine .pf ?_; refine .as_ ?_
      exact .dx () ⟨rfl, rfl, getA rfl (congrArg Value.bool (by rw [Bool.eq_iff_iff]; simp only [decide_eq_true_eq, true_iff]; omega)), trivial⟩
  refine ES.condD rfl (fun h2 => ?_) (fun h2 => ?_)
  · refine .go ?_; (repeat constructor); refine .as_ ?_; refine .go ?_; repeat constructor
    exact PX.ret rfl Tryz.results61 (.cons (.tmp rfl) .nil) (fun w hs => ⟨(), by unfold manyM; rw [if_neg h, if_pos h2]; rfl, hs.ent (.i (by repeat constructor))⟩)
  · refine .go ?_; (repeat constructor); refine .mv ?_; refine .mv ?_; refine EL.mul (w64 (a * b)) rfl rfl rfl rfl rfl ?_; refine .as_ ?_; refine .go ?_; repeat constructor
    exact PX.ret rfl Tryz.results61 (.cons (.tmp rfl) .nil) (fun w hs => ⟨(), by unfold manyM; rw [if_neg h, if_neg h2]; rfl, hs.ent (.i (by repeat constructor))⟩)
structure MS where
  i : Nat
  m : Me
theorem of_n (n : Nat) : ∀ r : RE, r.sz ≤ n → r.fine → ∀ (ad : Option Addr) (cap : Nat) (w : World), KidsRd w w.heap.size r.kids ad →
    Pure Tryz.prog 39 #[.agg (reCells r (.slice ad r.kids.length cap)).toArray] (fun _ : Unit => .agg (measM r).cells.toArray) (fun _ => []) w := by
  induction n with
  | zero => intro r hr; exact absurd (sz_pos r) (by omega)
  | succ n ih =>
    intro r hsz hfine ad cap w hkids
    have hkl := fine_len hfine
    rw [meas_eq r]
    obtain ⟨KM, hKM⟩ : ∃ KM, KM = measL r.kids Me.zero := ⟨_, rfl⟩
    rw [← hKM]
    refine calls_of_ES TB Tryz.func39 rfl _ Tryz.ntmps39 rfl (Sat.start w) ?_; refine .go ?_; (repeat constructor); (refine .bx ?_; intro g1); (refine .al ?_; intro g2); refine .go ?_; (repeat constructor); (refine .al ?_; intro g3); refine .go ?_; (repeat constructor); refine .fa ?_; refine .lb ?_; refine .lL ?_; refine .mv ?_; refine .go ?_; repeat constructor
    refine ES.loop (σ := MS) (fun z => z.i ≤ r.kids.length ∧ measL (r.kids.drop z.i) z.m = KM) (fun z => [(1, Pv g1 0), (2, Pv g2 0), (3, Pv g3 0), (9, .slice ad r.kids.length cap), (10, Iv (r.kids.length : Nat)), (11, Iv (z.i : Nat))])
      (fun z => HA.blk g3 (.cells z.m.cells.toArray 66) :: HA.blk g2 (.cells Me.zero.cells.toArray 66) :: HA.blk g1 (.cells (reCells r (.slice ad r.kids.length cap)).toArray 46) :: []) (fun z => r.kids.length - z.i) ⟨0, Me.zero⟩ ⟨Nat.zero_le _, by rw [List.drop_zero]; exact hKM.symm⟩ ⟨rfl, rfl, rfl, rfl, rfl, rfl, trivial⟩ (.i (by repeat constructor)) ?_
    rintro ⟨i, m⟩ ⟨hi, hgo⟩
    dsimp only at hi hgo ⊢
    refine .go ?_; (repeat constructor); refine .ls ?_; refine .go ?_; repeat constructor
    refine ES.condD rfl (fun hlt => ?_) (fun hge => ?_)
    · have hlt' : i < r.kids.length := by omega
      obtain ⟨k, hki⟩ : ∃ k, r.kids[i]? = some k := ⟨_, List.getElem?_eq_getElem hlt'⟩
      have hmem := List.mem_of_getElem? hki
      have hks := kids_lt hmem
      obtain ⟨kg, ko, rfl, hkn⟩ := hkids i k hki
      obtain ⟨kad, kcap, hkrd, hkk⟩ := hkn.kids
      have hkrd2 : Rd w w.heap.size (some ⟨kg, ko + i * 9, none⟩) (reCells k (.slice kad k.kids.length kcap)) := hkrd.rd
      rw [List.drop_eq_getElem_cons hlt', show r.kids[i] = k from (List.getElem?_eq_some_iff.1 hki).2, measL] at hgo
      have hrec := ih k (by omega) (fine_kid hfine hmem) kad kcap
      generalize measM k = n at hgo hrec
      refine .go ?_; (repeat constructor); refine EL.indexAddrL rfl rfl rfl rfl rfl rfl rfl (by omega) ?_
      refine EL.loadOldA (j := 0) (vs := reCells k (.slice kad k.kids.length kcap)) rfl rfl rfl rfl rfl (by simp [reCells]) rfl hkrd2 (fun i u hi => by rw [Nat.zero_add]; exact hi) ?_
      (refine .al ?_; intro g5); refine .sa ?_; refine .go ?_; (repeat constructor); refine .go ?_; (repeat constructor); refine .lg ?_
      refine EL.callPw rfl rfl rfl ent39 rfl (fun w' hs => hrec w' (fun i' k' hi' => by obtain ⟨g', o', e1, e2⟩ := hkk (by intro e; rw [e] at hi'; simp at hi'); exact ⟨g', o', e1, NodeRd.sat (e2 i' k' hi') hs⟩)) ?_
      (refine .al ?_; intro g6); refine .sa ?_; refine .go ?_; (repeat constructor); refine .go ?_; (repeat constructor); refine .fa ?_; refine .lb ?_; refine .fa ?_; refine .lb ?_; refine EL.add (w64 (m.pos + n.pos)) rfl rfl rfl rfl rfl ?_; refine .fa ?_; refine .sb ?_; refine .go ?_; (repeat constructor); refine .fa ?_; refine .lb ?_; refine .fa ?_; refine .lb ?_; refine EL.add (w64 (m.grp + n.grp)) rfl rfl rfl rfl rfl ?_; refine .fa ?_; refine .sb ?_; refine .go ?_; (repeat constructor); refine .fa ?_; refine .lb ?_; refine .fa ?_; refine .lb ?_; refine EL.add (w64 (m.least + n.least)) rfl rfl rfl rfl rfl ?_; refine .fa ?_; refine .sb ?_; refine .go ?_; (repeat constructor); refine .fa ?_; refine .lb ?_; refine .fa ?_; refine .lb ?_; refine EL.callP rfl rfl rfl ent60 rfl (more_c m.most n.most) ?_; refine .fa ?_; refine .sb ?_; refine .go ?_; repeat constructor
      refine EL.cutX (X := Unit) (fun _ => [(1, Pv g1 0), (2, Pv g2 0), (3, Pv g3 0), (9, .slice (some ⟨kg, ko, none⟩) r.kids.length cap), (10, Iv (r.kids.length : Nat)), (11, Iv (i : Nat)), (6, Pv g6 0)]) (fun _ => HA.blk g3 (.cells #[Iv (w64 (m.pos + n.pos)), Iv (w64 (m.grp + n.grp)), Iv (w64 (m.least + n.least)), Iv (moreM m.most n.most), .bool (m.back || n.back), .bool (m.bol), .bool (m.eol)] 66) :: HA.blk g6 (.cells n.cells.toArray 66) :: HA.blk g2 (.cells Me.zero.cells.toArray 66) :: HA.blk g1 (.cells (reCells r (.slice (some ⟨kg, ko, none⟩) r.kids.length cap)).toArray 46) :: []) ?_ (fun _ => ?_)
      · refine .go ?_; (repeat constructor); refine .fa ?_; refine .lb ?_; refine .mv ?_
        first | refine EL.splitD (d := 43) rfl (fun hp43 => ?_) (fun hp43 => ?_) | refine EL.splitN (d := 43) rfl (fun hp43 => ?_) (fun hp43 => ?_) | refine EL.splitB (d := 43) rfl (fun hp43 => ?_) (fun hp43 => ?_)
        · refine .ps ?_; refine .ps ?_; refine .pt ?_; refine .fa ?_; refine .sb ?_
          exact EL.endX () ⟨rfl, rfl, rfl, rfl, rfl, rfl, rfl, trivial⟩ (by rw [hp43]; exact (.i (by repeat constructor)))
        · refine .fa ?_; refine .lb ?_; refine .pf ?_; refine .fa ?_; refine .sb ?_
          exact EL.endX () ⟨rfl, rfl, rfl, rfl, rfl, rfl, rfl, trivial⟩ (by rw [hp43]; exact (.i (by repeat constructor)))
      refine .go ?_; repeat constructor
      refine EL.cutX (X := Unit) (fun _ => [(1, Pv g1 0), (2, Pv g2 0), (3, Pv g3 0), (9, .slice (some ⟨kg, ko, none⟩) r.kids.length cap), (10, Iv (r.kids.length : Nat)), (11, Iv (i : Nat)), (6, Pv g6 0)]) (fun _ => HA.blk g3 (.cells #[Iv (w64 (m.pos + n.pos)), Iv (w64 (m.grp + n.grp)), Iv (w64 (m.least + n.least)), Iv (moreM m.most n.most), .bool (m.back || n.back), .bool (m.bol || n.bol), .bool (m.eol)] 66) :: HA.blk g6 (.cells n.cells.toArray 66) :: HA.blk g2 (.cells Me.zero.cells.toArray 66) :: HA.blk g1 (.cells (reCells r (.slice (some ⟨kg, ko, none⟩) r.kids.length cap)).toArray 46) :: []) ?_ (fun _ => ?_)
      · refine .go ?_; (repeat constructor); refine .fa ?_; refine .lb ?_; refine .mv ?_
        first | refine EL.splitD (d := 50) rfl (fun hp50 => ?_) (fun hp50 => ?_) | refine EL.splitN (d := 50) rfl (fun hp50 => ?_) (fun hp50 => ?_) | refine EL.splitB (d := 50) rfl (fun hp50 => ?_) (fun hp50 => ?_)
        · refine .ps ?_; refine .ps ?_; refine .pt ?_; refine .fa ?_; refine .sb ?_
          exact EL.endX () ⟨rfl, rfl, rfl, rfl, rfl, rfl, rfl, trivial⟩ (by rw [hp50]; exact (.i (by repeat constructor)))
        · refine .fa ?_; refine .lb ?_; refine .pf ?_; refine .fa ?_; refine .sb ?_
          exact EL.endX () ⟨rfl, rfl, rfl, rfl, rfl, rfl, rfl, trivial⟩ (by rw [hp50]; exact (.i (by repeat constructor)))
      refine .go ?_; repeat constructor
      refine EL.cutX (X := Unit) (fun _ => [(1, Pv g1 0), (2, Pv g2 0), (3, Pv g3 0), (9, .slice (some ⟨kg, ko, none⟩) r.kids.length cap), (10, Iv (r.kids.length : Nat)), (11, Iv (i : Nat)), (6, Pv g6 0)]) (fun _ => HA.blk g3 (.cells #[Iv (w64 (m.pos + n.pos)), Iv (w64 (m.grp + n.grp)), Iv (w64 (m.least + n.least)), Iv (moreM m.most n.most), .bool (m.back || n.back), .bool (m.bol || n.bol), .bool (m.eol || n.eol)] 66) :: HA.blk g6 (.cells n.cells.toArray 66) :: HA.blk g2 (.cells Me.zero.cells.toArray 66) :: HA.blk g1 (.cells (reCells r (.slice (some ⟨kg, ko, none⟩) r.kids.length cap)).toArray 46) :: []) ?_ (fun _ => ?_)
      · refine .go ?_; (repeat constructor); refine .fa ?_; refine .lb ?_; refine .mv ?_
        first | refine EL.splitD (d := 57) rfl (fun hp57 => ?_) (fun hp57 => ?_) | refine EL.splitN (d := 57) rfl (fun hp57 => ?_) (fun hp57 => ?_) | refine EL.splitB (d := 57) rfl (fun hp57 => ?_) (fun hp57 => ?_)
        · refine .ps ?_; refine .ps ?_; refine .pt ?_; refine .fa ?_; refine .sb ?_
          exact EL.endX () ⟨rfl, rfl, rfl, rfl, rfl, rfl, rfl, trivial⟩ (by rw [hp57]; exact (.i (by repeat constructor)))
        · refine .fa ?_; refine .lb ?_; refine .pf ?_; refine .fa ?_; refine .sb ?_
          exact EL.endX () ⟨rfl, rfl, rfl, rfl, rfl, rfl, rfl, trivial⟩ (by rw [hp57]; exact (.i (by repeat constructor)))
      refine .go ?_; (repeat constructor); refine .a1 ?_; refine .mv ?_; refine .go ?_; repeat constructor
      exact .ly ⟨i + 1, m.plus n⟩ ⟨hlt', hgo⟩ (by simp only; omega)
    · obtain rfl : i = r.kids.length := by omega
      rw [List.drop_length, measL] at hgo
      subst hgo
      refine .go ?_; (repeat constructor); refine .fa ?_; refine .lb ?_
      repeat (first | apply EL.nil | apply ES.seq | apply ES.skip)
      refine ES.cutC (X := Unit) (fun _ => [(1, Pv g1 0), (2, Pv g2 0), (3, Pv g3 0)]) (fun _ => HA.blk g3 (.cells (finM r.kind r.lo r.hi m).cells.toArray 66) :: HA.blk g2 (.cells Me.zero.cells.toArray 66) :: HA.blk g1 (.cells (reCells r (.slice ad r.kids.length cap)).toArray 46) :: []) ?_ (fun _ => ?_)
      · refine .go ?_; (repeat constructor); refine .ei ?_; refine .as_ ?_; refine .go ?_; repeat constructor
        refine ES.condD rfl (fun h1 => ?_) (fun h1 => ?_)
        · have hk : r.kind = 1 := by have h : ((r.kind : Nat) : Int) = 1 := h1; omega
          have e : finM r.kind r.lo r.hi m = { m with pos := 1, least := 1, most := 1 } := by rw [hk]; rfl
          rw [e]
          refine .go ?_; (repeat constructor); refine .fa ?_; refine .sb ?_; refine .fa ?_; refine .sb ?_; refine .fa ?_; refine .sb ?_; refine .go ?_; repeat constructor
          exact .cy ()
        have hk1 : ¬ r.kind = 1 := by have h : ¬ ((r.kind : Nat) : Int) = 1 := h1; omega
        refine .go ?_; (repeat constructor); refine .ei ?_; refine .as_ ?_; refine .go ?_; repeat constructor
        refine ES.condD rfl (fun h2 => ?_) (fun h2 => ?_)
        · have hk : r.kind = 2 := by have h : ((r.kind : Nat) : Int) = 2 := h2; omega
          have e : finM r.kind r.lo r.hi m = { m with bol := true } := by rw [hk]; rfl
          rw [e]
          refine .go ?_; (repeat constructor); refine .fa ?_; refine .sb ?_; refine .go ?_; repeat constructor
          exact .cy ()
        have hk2 : ¬ r.kind = 2 := by have h : ¬ ((r.kind : Nat) : Int) = 2 := h2; omega
        refine .go ?_; (repeat constructor); refine .ei ?_; refine .as_ ?_; refine .go ?_; repeat constructor
        refine ES.condD rfl (fun h3 => ?_) (fun h3 => ?_)
        · have hk : r.kind = 3 := by have h : ((r.kind : Nat) : Int) = 3 := h3; omega
          have e : finM r.kind r.lo r.hi m = { m with eol := true } := by rw [hk]; rfl
          rw [e]
          refine .go ?_; (repeat constructor); refine .fa ?_; refine .sb ?_; refine .go ?_; repeat constructor
          exact .cy ()
        have hk3 : ¬ r.kind = 3 := by have h : ¬ ((r.kind : Nat) : Int) = 3 := h3; omega
        refine .go ?_; (repeat constructor); refine .ei ?_; refine .as_ ?_; refine .go ?_; repeat constructor
        refine ES.condD rfl (fun h4 => ?_) (fun h4 => ?_)
        · have hk : r.kind = 4 := by have h : ((r.kind : Nat) : Int) = 4 := h4; omega
          have e : finM r.kind r.lo r.hi m = { m with grp := w64 (m.grp + 1) } := by rw [hk]; rfl
          rw [e]
          refine .go ?_; (repeat constructor); refine .fa ?_; refine .lb ?_; refine EL.add (w64 (m.grp + 1)) rfl rfl rfl rfl rfl ?_; refine .fa ?_; refine .sb ?_; refine .go ?_; repeat constructor
          exact .cy ()
        have hk4 : ¬ r.kind = 4 := by have h : ¬ ((r.kind : Nat) : Int) = 4 := h4; omega
        refine .go ?_; (repeat constructor); refine .ei ?_; refine .as_ ?_; refine .go ?_; repeat constructor
        refine ES.condD rfl (fun h6 => ?_) (fun h6 => ?_)
        · have hk : r.kind = 6 := by have h : ((r.kind : Nat) : Int) = 6 := h6; omega
          have e : finM r.kind r.lo r.hi m = { m with pos := 1, most := -1, back := true } := by rw [hk]; rfl
          rw [e]
          refine .go ?_; (repeat constructor); refine .fa ?_; refine .sb ?_; refine .fa ?_; refine .sb ?_; refine .fa ?_; refine .sb ?_; refine .go ?_; repeat constructor
          exact .cy ()
        have hk6 : ¬ r.kind = 6 := by have h : ¬ ((r.kind : Nat) : Int) = 6 := h6; omega
        refine .go ?_; (repeat constructor); refine .ei ?_; refine .as_ ?_; refine .go ?_; repeat constructor
        refine ES.condD rfl (fun h5 => ?_) (fun h5 => ?_)
        rotate_left
        · have hk5 : ¬ r.kind = 5 := by have h : ¬ ((r.kind : Nat) : Int) = 5 := h5; omega
          have e : finM r.kind r.lo r.hi m = m := by unfold finM; rw [if_neg hk1, if_neg hk2, if_neg hk3, if_neg hk4, if_neg hk6, if_neg hk5]
          rw [e]
          refine .go ?_; repeat constructor
          exact .cy ()
        have hk : r.kind = 5 := by have h : ((r.kind : Nat) : Int) = 5 := h5; omega
        have e : finM r.kind r.lo r.hi m = { m with pos := w64 (m.pos * timesI r.lo r.hi), least := w64 (m.least * r.lo), most := manyM m.most r.hi } := by rw [hk]; rfl
        rw [e]
        refine .go ?_; (repeat constructor); refine .fa ?_; refine .lb ?_; refine .as_ ?_; refine .go ?_; (repeat constructor); refine .mv ?_; refine .ls ?_; refine .go ?_; repeat constructor
        refine ES.cutC (X := Unit) (fun _ => [(1, Pv g1 0), (2, Pv g2 0), (3, Pv g3 0), (7, Iv (timesI r.lo r.hi))]) (fun _ => HA.blk g3 (.cells m.cells.toArray 66) :: HA.blk g2 (.cells Me.zero.cells.toArray 66) :: HA.blk g1 (.cells (reCells r (.slice ad r.kids.length cap)).toArray 46) :: []) ?_ (fun _ => ?_)
        · refine ES.condD rfl (fun hneg => ?_) (fun hpos => ?_)
          · refine .go ?_; (repeat constructor); refine .fa ?_; refine .lb ?_
            refine EL.ofRV (RV.maxI rfl rfl) rfl rfl rfl (by intro c h; cases h) ?_
            refine .as_ ?_; refine .go ?_; repeat constructor
            exact .cx () ⟨rfl, rfl, rfl, getA rfl (congrArg Iv (by unfold timesI; rw [if_pos hneg])), trivial⟩
          · refine .go ?_; repeat constructor
            exact .cx () ⟨rfl, rfl, rfl, getA rfl (congrArg Iv (by unfold timesI; rw [if_neg hpos])), trivial⟩
        refine .go ?_; (repeat constructor); refine .fa ?_; refine .lb ?_; refine .mv ?_; refine EL.mul (w64 (m.pos * timesI r.lo r.hi)) rfl rfl rfl rfl rfl ?_; refine .fa ?_; refine .sb ?_; refine .go ?_; (repeat constructor); refine .fa ?_; refine .lb ?_; refine .fa ?_; refine .lb ?_; refine EL.mul (w64 (m.least * r.lo)) rfl rfl rfl rfl rfl ?_; refine .fa ?_; refine .sb ?_; refine .go ?_; (repeat constructor); refine .fa ?_; refine .lb ?_; refine .fa ?_; refine .lb ?_; refine EL.callP rfl rfl rfl ent61 rfl (many_c m.most r.hi) ?_; refine .fa ?_; refine .sb ?_; refine .go ?_; repeat constructor
        exact .cy ()
      refine .go ?_; (repeat constructor); refine .lg ?_; refine .sa ?_; refine .go ?_; repeat constructor
      exact PX.ret rfl Tryz.results39 (.cons (.blkA rfl rfl rfl (by repeat constructor) rfl) .nil) (fun w hs => ⟨(), rfl, hs.ent (.i (by repeat constructor))⟩)
theorem meas_c (r : RE) (hf : r.fine) (ad : Option Addr) (cap : Nat) (w : World) (h : KidsRd w w.heap.size r.kids ad) : Pure Tryz.prog 39 #[.agg (reCells r (.slice ad r.kids.length cap)).toArray] (fun _ : Unit => .agg (measM r).cells.toArray) (fun _ => []) w := of_n r.sz r (Nat.le_refl _) hf ad cap w h
def ofM (t : List UInt8) : Me × Int × Nat := if (parseM t).e ≠ 0 then (Me.zero, (parseM t).e, (parseM t).at_) else (measM (parseM t).tree, 0, 0)
theorem measOf_c (t : List UInt8) (ht : t.length ≤ 4611686018427387904) (w : World) (hG : GR w w.heap.size) :
    Pure Tryz.prog 21 #[Sv t] (fun _ : Unit => .tuple #[.agg (ofM t).1.cells.toArray, .agg #[Iv (ofM t).2.1, Iv ((ofM t).2.2 : Nat)]]) (fun _ => []) w := by
  have hw : ofM t = if (parseM t).e ≠ 0 then (Me.zero, (parseM t).e, (parseM t).at_) else (measM (parseM t).tree, 0, 0) := rfl
  have hpf := parse_fine t
  have hpc := fun w hG => parse_c t ht w hG
  generalize parseM t = p at hw hpf hpc
  obtain ⟨tree, pe, pat⟩ := p
  dsimp only at hw hpf hpc
  refine calls_of_ES TB Tryz.func21 rfl _ Tryz.ntmps21 rfl (Sat.start w) ?_; refine .go ?_; (repeat constructor); (refine .al ?_; intro g2); (refine .al ?_; intro g3); refine .go ?_; (repeat constructor); refine .mv ?_; (refine EL.callXw rfl rfl rfl ent20 rfl (fun w hs => hpc w (GR.sat hG hs)) ?_; intro px); refine .mv ?_; refine .ex ?_; refine .ex ?_; (refine .al ?_; intro g4); (refine .al ?_; intro g5); refine .sa ?_; refine .sa ?_; refine .go ?_; (repeat constructor); refine .go ?_; (repeat constructor); refine .fa ?_; refine .lb ?_; refine .ni ?_; refine .go ?_; repeat constructor
  refine ES.condN rfl (fun hne => ?_) (fun he => ?_)
  · rw [if_pos hne] at hw
    rw [hw]
    refine .g0 ?_; repeat constructor
    refine ES.draw (X := Unit) (fun _ => [(2, Pv g2 0), (3, Pv g3 0)]) (fun _ => HA.blk g2 (.cells Me.zero.cells.toArray 66) :: HA.blk g3 (.cells #[Iv pe, Iv (pat : Nat)] 33) :: []) (HA.blk g5 (.cells #[Iv pe, Iv (pat : Nat)] 33) :: []) mixed (.i (by repeat constructor)) ?_ (fun _ => ?_)
    · refine .tk 1 rfl (RV.loadAggB rfl rfl rfl (by repeat constructor) rfl) ?_; refine .ld 0 ?_; refine EL.buildZ rfl rfl rfl rfl rfl ?_; refine .nx ?_; refine .ld 2 ?_; refine .sa ?_; refine .nx ?_; refine ED.last 3 rfl (by decide +kernel) (by decide +kernel) (by decide +kernel) ?_; refine .sa ?_; refine EL.endQ ?_
      exact .cy ()
    refine .go ?_; repeat constructor
    exact PX.ret rfl Tryz.results21 (.cons (.blkA rfl rfl rfl (by repeat constructor) rfl) (.cons (.blkA rfl rfl rfl (by repeat constructor) rfl) .nil)) (fun w hs => ⟨(), rfl, hs.ent (.i (by repeat constructor))⟩)
  rw [if_neg (fun h => h he)] at hw
  rw [hw]
  refine .go ?_; (repeat constructor); refine .lg ?_; refine EL.callPw rfl rfl rfl ent39 rfl (fun w hs => meas_c tree hpf px.ad px.cap w (kids_of hs (by repeat constructor))) ?_; refine EL.buildZ rfl rfl rfl rfl rfl ?_; refine .sa ?_; refine .sa ?_; refine .go ?_; repeat constructor
  exact PX.ret rfl Tryz.results21 (.cons (.blkA rfl rfl rfl (by repeat constructor) rfl) (.cons (.blkA rfl rfl rfl (by repeat constructor) rfl) .nil)) (fun w hs => ⟨(), rfl, hs.ent (.i (by repeat constructor))⟩)
end Go.Proofs.YthcbjbkheodejaaGreat
