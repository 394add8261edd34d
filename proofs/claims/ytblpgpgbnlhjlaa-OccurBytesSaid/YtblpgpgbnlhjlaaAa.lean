/- Layer 7 (nfa): nodes of trees in memory; Thin, Least. -/
import Derived.Test.YtblpgpgbnlhjlaaPl
import Derived.Test.YtblpgpgbnlhjlaaVa
namespace Go.Proofs.Ytblpgpgbnlhjlaa
open Go Go.RowKit Sl
set_option maxRecDepth 100000
set_option maxHeartbeats 8000000
set_option linter.unusedVariables false
set_option linter.unusedSimpArgs false
attribute [local irreducible] ES EL PX wps

/-! a tree that a pointer leads to -/
def Node (S : Nat → Prop) (w : World) (g off : Nat) (r : RE) : Prop :=
  ∃ ad cap cs0, Reads S w (some ⟨g, off, none⟩) (reCells r (.slice ad r.kids.length cap)) ∧ Forest S w r.kids cs0 ∧ Reads S w ad cs0 ∧ r.kids.length ≤ cap
abbrev NodeRd (w : World) (B g off : Nat) (r : RE) : Prop := Node (· < B) w g off r
theorem Node.mono {S S' : Nat → Prop} {w : World} {g off : Nat} {r : RE} (h : Node S w g off r) (hs : ∀ g, S g → S' g) : Node S' w g off r := by
  obtain ⟨ad, cap, cs0, h1, h2, h3, h4⟩ := h
  exact ⟨ad, cap, cs0, h1.mono hs, h2.mono hs, h3.mono hs, h4⟩
theorem Node.loc {S : Nat → Prop} {w w' : World} {g off : Nat} {r : RE} (h : Node S w g off r) (hl : ∀ g, S g → w'.heap[g]? = w.heap[g]?) : Node S w' g off r := by
  obtain ⟨ad, cap, cs0, h1, h2, h3, h4⟩ := h
  exact ⟨ad, cap, cs0, h1.loc hl, h2.loc hl, h3.loc hl, h4⟩
theorem NodeRd.beneath {w0 w : World} {B B' g off : Nat} {r : RE} (h : NodeRd w0 B g off r) (hb : Below B w0 w) (hB : B ≤ B') : NodeRd w B' g off r :=
  (h.loc (fun g hg => hb.block g hg)).mono (fun g hg => Nat.lt_of_lt_of_le hg hB)
theorem NodeRd.sat {w0 w : World} {B g off : Nat} {H : List HA} {r : RE} (h : NodeRd w0 B g off r) (hs : Sat w0 B H w) : NodeRd w w.heap.size g off r := h.beneath hs.below hs.base
theorem Reads.take9 {S : Nat → Prop} {w : World} {g off : Nat} {cs : List Value} (h : Reads S w (some ⟨g, off, none⟩) cs) (i : Nat) (hi : i * 9 < cs.length) : Reads S w (some ⟨g, off + i * 9, none⟩) ((cs.drop (i * 9)).take 9) := by
  intro _
  obtain ⟨g', off', h1, h2, ca, ta, h3, h4⟩ := h (fun e => by subst e; simp at hi)
  simp only [Option.some.injEq, Addr.mk.injEq] at h1
  obtain ⟨rfl, rfl, _⟩ := h1
  refine ⟨g, off + i * 9, rfl, h2, ca, ta, h3, fun j v hj => ?_⟩
  rw [List.getElem?_take] at hj
  split at hj
  · rw [List.getElem?_drop] at hj
    have := h4 _ v hj
    rwa [← Nat.add_assoc] at this
  · cases hj
/-- A row of trees, read. -/
theorem Node.of_row {S : Nat → Prop} {w : World} {g off i : Nat} {ks : List RE} {cs : List Value} {k : RE} (hf : Forest S w ks cs) (hr : Reads S w (some ⟨g, off, none⟩) cs) (hi : ks[i]? = some k) : Node S w g (off + i * 9) k := by
  obtain ⟨ad, cap, cs0, h1, h2, h3, h4⟩ := hf.get i k hi
  have hlt : i < ks.length := (List.getElem?_eq_some_iff.1 hi).1
  have hr9 := hr.take9 i (by rw [hf.len]; omega)
  rw [h1] at hr9
  exact ⟨ad, cap, cs0, hr9, h2, h3, h4⟩
/-- The kids of a node: where they lie. -/
theorem Node.kids {S : Nat → Prop} {w : World} {g off : Nat} {r : RE} (h : Node S w g off r) : ∃ ad cap, Reads S w (some ⟨g, off, none⟩) (reCells r (.slice ad r.kids.length cap)) ∧ (r.kids ≠ [] → ∃ g' o', ad = some ⟨g', o', none⟩ ∧ ∀ i k, r.kids[i]? = some k → Node S w g' (o' + i * 9) k) := by
  obtain ⟨ad, cap, cs0, h1, h2, h3, _⟩ := h
  refine ⟨ad, cap, h1, fun hne => ?_⟩
  have hl := h2.len
  have hpos : 0 < r.kids.length := List.length_pos_iff.2 hne
  obtain ⟨g', o', rfl, _⟩ := h3 (fun e => by rw [e] at hl; simp at hl; omega)
  exact ⟨g', o', rfl, fun i k hi => Node.of_row h2 h3 hi⟩
/-- The kids of a tree that is handed as a value. -/
abbrev KidsRd (w : World) (B : Nat) (ks : List RE) (ad : Option Addr) : Prop := ∀ i k, ks[i]? = some k → ∃ g o, ad = some ⟨g, o, none⟩ ∧ NodeRd w B g (o + i * 9) k
theorem Node.kids2 {S : Nat → Prop} {w : World} {g off : Nat} {r : RE} (h : Node S w g off r) : ∃ ad cap, Reads S w (some ⟨g, off, none⟩) (reCells r (.slice ad r.kids.length cap)) ∧ (∀ i k, r.kids[i]? = some k → ∃ g' o', ad = some ⟨g', o', none⟩ ∧ Node S w g' (o' + i * 9) k) ∧ r.kids.length ≤ cap := by
  obtain ⟨ad, cap, cs0, h1, h2, h3, h4⟩ := h
  refine ⟨ad, cap, h1, fun i k hi => ?_, h4⟩
  have hl := h2.len
  have hlt : i < r.kids.length := (List.getElem?_eq_some_iff.1 hi).1
  obtain ⟨g', o', rfl, _⟩ := h3 (fun e => by rw [e] at hl; simp at hl; omega)
  exact ⟨g', o', rfl, Node.of_row h2 h3 hi⟩
/-- The kids of a tree that is owned. -/
theorem kids_of {w0 w : World} {B : Nat} {H : List HA} {r : RE} {ad : Option Addr} {cap : Nat} {fp : List Nat} (hs : Sat w0 B H w) (h2 : Mem H (HA.forest fp [r] (reCells r (.slice ad r.kids.length cap)))) : KidsRd w w.heap.size r.kids ad := by
  have hf := Forest.sat hs h2
  obtain ⟨ad', cap', cs0, e1, e2, e3, _⟩ := hf.get 0 r rfl
  have e4 : reCells r (.slice ad r.kids.length cap) = reCells r (.slice ad' r.kids.length cap') := by
    rw [← e1]; simp [reCells]
  simp only [reCells, List.cons.injEq, Value.slice.injEq, and_true, true_and] at e4
  obtain ⟨rfl, rfl⟩ := e4
  intro i k hi
  have hl := e2.len
  have hlt : i < r.kids.length := (List.getElem?_eq_some_iff.1 hi).1
  obtain ⟨g, o, rfl, _⟩ := e3 (fun e => by rw [e] at hl; simp at hl; omega)
  exact ⟨g, o, rfl, Node.of_row e2 e3 hi⟩
/-- A tree that is owned, and a copy of its root. -/
theorem node_of {w0 w : World} {B g e : Nat} {H : List HA} {r : RE} {ad : Option Addr} {cap : Nat} {fp : List Nat} (hs : Sat w0 B H w) (h1 : Mem H (HA.blk g (.cells (reCells r (.slice ad r.kids.length cap)).toArray e))) (h2 : Mem H (HA.forest fp [r] (reCells r (.slice ad r.kids.length cap)))) : NodeRd w w.heap.size g 0 r := by
  have hb : w.heap[g]? = some (.cells (reCells r (.slice ad r.kids.length cap)).toArray e (0, 0)) := hs.all _ h1.mem
  have hlt : g < w.heap.size := (Array.getElem?_eq_some_iff.1 hb).1
  have hf := Forest.sat hs h2
  obtain ⟨ad', cap', cs0, e1, e2, e3, e5⟩ := hf.get 0 r rfl
  have e4 : reCells r (.slice ad r.kids.length cap) = reCells r (.slice ad' r.kids.length cap') := by
    rw [← e1]; simp [reCells]
  simp only [reCells, List.cons.injEq, Value.slice.injEq, and_true, true_and] at e4
  obtain ⟨rfl, rfl⟩ := e4
  exact ⟨ad, cap, cs0, fun _ => ⟨g, 0, rfl, hlt, _, e, hb, fun j v hj => by rw [Nat.zero_add]; simpa using hj⟩, e2, e3, e5⟩
mutual
def RE.sz : RE → Nat
  | .cat ks => szL ks + 1
  | .group _ k => k.sz + 1
  | .rep _ _ k => k.sz + 1
  | _ => 1
def szL : List RE → Nat
  | [] => 0
  | k :: ks => k.sz + szL ks
end
theorem sz_mem : ∀ {ks : List RE} {k : RE}, k ∈ ks → k.sz ≤ szL ks
  | k' :: ks, k, h => by
    rw [szL]
    rcases List.mem_cons.1 h with rfl | h
    · omega
    · have := sz_mem h; omega
theorem sz_pos (r : RE) : 0 < r.sz := by cases r <;> simp [RE.sz]
theorem kids_lt {r k : RE} (h : k ∈ r.kids) : k.sz < r.sz := by
  cases r <;> simp only [RE.kids, List.mem_cons, List.not_mem_nil, or_false] at h
  · have := sz_mem h
    simp only [RE.sz]; omega
  · subst h; simp only [RE.sz]; omega
  · subst h; simp only [RE.sz]; omega
/-- Trees of one node are one. -/
theorem wv_inj {x y : UInt64} (h : Wv x = Wv y) : x = y := by
  simp only [Value.int.injEq, true_and] at h
  exact UInt64.toNat_inj.1 (by omega)
theorem iv_inj {x y : Nat} (h : Iv (x : Nat) = Iv (y : Nat)) : x = y := by
  simp only [Value.int.injEq, true_and] at h
  omega
theorem bs_inj {s t : BS} (ha : s.a = t.a) (hb : s.b = t.b) (hc : s.c = t.c) (hd : s.d = t.d) : s = t := by
  cases s; cases t; simp_all
theorem re_ext {r r' : RE} (h1 : r.kind = r'.kind) (h2 : r.set = r'.set) (h3 : r.lo = r'.lo) (h4 : r.hi = r'.hi) (h5 : r.num = r'.num) (h6 : r.kids = r'.kids) : r = r' := by
  cases r <;> cases r' <;> simp_all [RE.kind, RE.set, RE.lo, RE.hi, RE.num, RE.kids]
theorem Reads.one {S S' : Nat → Prop} {w : World} {g off : Nat} {cs cs' : List Value} (h : Reads S w (some ⟨g, off, none⟩) cs) (h' : Reads S' w (some ⟨g, off, none⟩) cs') (hl : cs.length = cs'.length) : cs = cs' := by
  apply List.ext_getElem hl
  intro i h1 h2
  have e1 := h.cell i _ (List.getElem?_eq_getElem h1)
  have e2 := h'.cell i _ (List.getElem?_eq_getElem h2)
  rw [e1] at e2
  exact Option.some.inj e2
theorem node_inj {S S' : Nat → Prop} {w : World} (n : Nat) : ∀ (g off : Nat) (r r' : RE), r.sz ≤ n → Node S w g off r → Node S' w g off r' → r = r' := by
  induction n with
  | zero => intro g off r r' hr; exact absurd (sz_pos r) (by omega)
  | succ n ih =>
    intro g off r r' hr h h'
    obtain ⟨ad, cap, hrd, hk⟩ := h.kids
    obtain ⟨ad', cap', hrd', hk'⟩ := h'.kids
    have he := hrd.one hrd' rfl
    simp only [reCells, List.cons.injEq, and_true] at he
    obtain ⟨h1, h2, h3, h4, h5, h6, h7, h8, h9⟩ := he
    simp only [Value.slice.injEq] at h9
    obtain ⟨rfl, hl, rfl⟩ := h9
    refine re_ext (iv_inj h1) (bs_inj (wv_inj h2) (wv_inj h3) (wv_inj h4) (wv_inj h5)) (iv_inj h6) (by simpa using h7) (iv_inj h8) ?_
    apply List.ext_getElem hl
    intro i a1 a2
    obtain ⟨g1, o1, e1, q1⟩ := hk (by intro e; rw [e] at a1; simp at a1)
    obtain ⟨g2, o2, e2, q2⟩ := hk' (by intro e; rw [e] at a2; simp at a2)
    rw [e1] at e2
    simp only [Option.some.injEq, Addr.mk.injEq] at e2
    obtain ⟨rfl, rfl, _⟩ := e2
    refine ih g1 (o1 + i * 9) _ _ ?_ (q1 i _ (List.getElem?_eq_getElem a1)) (q2 i _ (List.getElem?_eq_getElem a2))
    have := kids_lt (List.getElem_mem a1)
    omega
theorem Node.inj {S S' : Nat → Prop} {w : World} {g off : Nat} {r r' : RE} (h : Node S w g off r) (h' : Node S' w g off r') : r = r' := node_inj r.sz g off r r' (Nat.le_refl _) h h'
/-! bounds of a tree -/
mutual
def RE.fine : RE → Prop
  | .cat ks => ks.length ≤ 1024 ∧ fineL ks
  | .group n k => n ≤ 9 ∧ k.fine
  | .rep lo hi k => lo ≤ 255 ∧ -1 ≤ hi ∧ hi ≤ 255 ∧ (0 ≤ hi → (lo : Int) ≤ hi) ∧ k.fine
  | .back n => 1 ≤ n ∧ n ≤ 9
  | _ => True
def fineL : List RE → Prop
  | [] => True
  | k :: ks => k.fine ∧ fineL ks
end
theorem fineL_iff : ∀ ks : List RE, fineL ks ↔ ∀ k ∈ ks, k.fine
  | [] => by simp [fineL]
  | k :: ks => by rw [fineL, fineL_iff ks]; simp
theorem fine_kid {r k : RE} (h : r.fine) (hk : k ∈ r.kids) : k.fine := by
  cases r <;> simp only [RE.kids, List.mem_cons, List.not_mem_nil, or_false] at hk
  · exact (fineL_iff _).1 h.2 k hk
  · subst hk; exact h.2
  · subst hk; exact h.2.2.2.2
theorem fine_len {r : RE} (h : r.fine) : r.kids.length ≤ 1024 := by
  cases r <;> simp only [RE.kids, List.length_nil, List.length_singleton] <;> first | omega | exact h.1
theorem thinL_all : ∀ ks : List RE, thinL ks = ks.all RE.thin
  | [] => rfl
  | k :: ks => by rw [thinL, List.all_cons, thinL_all ks]
theorem thin_eq (r : RE) : r.thin = if r.kind = 1 ∨ r.kind = 6 then false else if r.kind = 5 ∧ r.hi = 0 then true else r.kids.all RE.thin := by
  cases r with
  | cat ks => simp [RE.thin, RE.kind, RE.kids, thinL_all]
  | byte s => simp [RE.thin, RE.kind]
  | bol => simp [RE.thin, RE.kind, RE.kids]
  | eol => simp [RE.thin, RE.kind, RE.kids]
  | group n k => simp [RE.thin, RE.kind, RE.kids]
  | rep lo hi k => simp only [RE.thin, RE.kind, RE.kids, RE.hi]; by_cases h : hi = 0 <;> simp [h]
  | back n => simp [RE.thin, RE.kind]
theorem all_take {α : Type _} (p : α → Bool) (l : List α) (i : Nat) (k : α) (hi : l[i]? = some k) : (l.take (i + 1)).all p = ((l.take i).all p && p k) := by
  have hlt : i < l.length := (List.getElem?_eq_some_iff.1 hi).1
  rw [List.take_succ_eq_append_getElem hlt, (List.getElem?_eq_some_iff.1 hi).2]
  simp
theorem all_false {α : Type _} (p : α → Bool) (l : List α) (i : Nat) (k : α) (hi : l[i]? = some k) (h : p k = false) : l.all p = false := by
  rw [Bool.eq_false_iff]
  intro h2
  have := List.all_eq_true.1 h2 k (List.mem_of_getElem? hi)
  rw [h] at this; cases this
theorem thin_n (n : Nat) : ∀ (r : RE), r.sz ≤ n → r.fine → ∀ (g off : Nat) (w : World), NodeRd w w.heap.size g off r → Pure Try.prog 83 #[Pv g off] (fun _ : Unit => .bool r.thin) (fun _ => []) w := by
  induction n with
  | zero => intro r hr; exact absurd (sz_pos r) (by omega)
  | succ n ih =>
    intro r hr hfine g off w hn
    have hkl := fine_len hfine
    obtain ⟨ad, cap, hrd, hkids⟩ := hn.kids
    have hrd := hrd.rd
    have hte := thin_eq r
    refine calls_of_ES TB Try.func83 rfl _ Try.ntmps83 rfl (Sat.start w) ?_
    refine .go ?_; repeat constructor
    refine EL.assign rfl rfl rfl ?_
    refine .go ?_; repeat constructor
    refine EL.cutX (X := Unit) (fun _ => [(0, Pv g off), (4, .bool (decide (r.kind = 1 ∨ r.kind = 6)))]) (fun _ => []) ?_ (fun _ => ?_)
    · refine .go ?_; repeat constructor
      refine EL.move rfl rfl rfl ?_
      refine EL.nilCheck rfl rfl rfl ?_
      refine EL.fieldAddr rfl rfl rfl rfl rfl rfl rfl rfl ?_
      refine EL.loadOld rfl rfl rfl rfl rfl hrd rfl ?_
      refine EL.eqlI rfl rfl rfl rfl ?_
      refine EL.move rfl rfl rfl ?_
      first | refine EL.splitD (d := 10) rfl (fun hp10 => ?_) (fun hp10 => ?_) | refine EL.splitN (d := 10) rfl (fun hp10 => ?_) (fun hp10 => ?_) | refine EL.splitB (d := 10) rfl (fun hp10 => ?_) (fun hp10 => ?_)
      · refine EL.pass rfl rfl rfl ?_
        refine EL.pass rfl rfl rfl ?_
        refine EL.pass rfl rfl rfl ?_
        refine EL.pass rfl rfl rfl ?_
        refine EL.pass rfl rfl rfl ?_
        refine EL.pickT rfl rfl rfl rfl ?_
        refine EL.assign rfl rfl rfl ?_
        exact EL.endX () ⟨rfl, getA rfl (congrArg Value.bool (by rw [Bool.eq_iff_iff]; simp only [decide_eq_true_eq, true_iff]; omega)), trivial⟩ (.i (by repeat constructor))
      · refine EL.move rfl rfl rfl ?_
        refine EL.nilCheck rfl rfl rfl ?_
        refine EL.fieldAddr rfl rfl rfl rfl rfl rfl rfl rfl ?_
        refine EL.loadOld rfl rfl rfl rfl rfl hrd rfl ?_
        refine EL.eqlI rfl rfl rfl rfl ?_
        refine EL.pickF rfl rfl rfl rfl ?_
        refine EL.assign rfl rfl rfl ?_
        exact EL.endX () ⟨rfl, getA rfl (congrArg Value.bool (by rw [Bool.eq_iff_iff]; simp only [decide_eq_true_eq, true_iff]; omega)), trivial⟩ (.i (by repeat constructor))
    refine ES.condD rfl (fun h1 => ?_) (fun h1 => ?_)
    · rw [if_pos h1] at hte
      rw [hte]
      refine .go ?_; repeat constructor
      refine EL.assign rfl rfl rfl ?_
      refine .go ?_; repeat constructor
      exact PX.ret rfl Try.results83 (.cons (.tmp rfl) .nil) (fun w hs => ⟨(), rfl, hs.ent (.i (by repeat constructor))⟩)
    rw [if_neg h1] at hte
    refine .go ?_; repeat constructor
    refine EL.cutX (X := Unit) (fun _ => [(0, Pv g off), (17, .bool (decide (r.kind = 5 ∧ r.hi = 0)))]) (fun _ => []) ?_ (fun _ => ?_)
    · refine .go ?_; repeat constructor
      refine EL.move rfl rfl rfl ?_
      refine EL.nilCheck rfl rfl rfl ?_
      refine EL.fieldAddr rfl rfl rfl rfl rfl rfl rfl rfl ?_
      refine EL.loadOld rfl rfl rfl rfl rfl hrd rfl ?_
      refine EL.eqlI rfl rfl rfl rfl ?_
      refine EL.move rfl rfl rfl ?_
      first | refine EL.splitD (d := 23) rfl (fun hp23 => ?_) (fun hp23 => ?_) | refine EL.splitN (d := 23) rfl (fun hp23 => ?_) (fun hp23 => ?_) | refine EL.splitB (d := 23) rfl (fun hp23 => ?_) (fun hp23 => ?_)
      · refine EL.move rfl rfl rfl ?_
        refine EL.nilCheck rfl rfl rfl ?_
        refine EL.fieldAddr rfl rfl rfl rfl rfl rfl rfl rfl ?_
        refine EL.loadOld rfl rfl rfl rfl rfl hrd rfl ?_
        refine EL.eqlI rfl rfl rfl rfl ?_
        refine EL.pickT rfl rfl rfl rfl ?_
        refine EL.assign rfl rfl rfl ?_
        exact EL.endX () ⟨rfl, getA rfl (congrArg Value.bool (by rw [Bool.eq_iff_iff]; simp only [decide_eq_true_eq, Bool.false_eq_true, false_iff]; omega)), trivial⟩ (.i (by repeat constructor))
      · refine EL.pass rfl rfl rfl ?_
        refine EL.pass rfl rfl rfl ?_
        refine EL.pass rfl rfl rfl ?_
        refine EL.pass rfl rfl rfl ?_
        refine EL.pass rfl rfl rfl ?_
        refine EL.pickF rfl rfl rfl rfl ?_
        refine EL.assign rfl rfl rfl ?_
        exact EL.endX () ⟨rfl, getA rfl (congrArg Value.bool (by rw [Bool.eq_iff_iff]; simp only [decide_eq_true_eq, Bool.false_eq_true, false_iff]; omega)), trivial⟩ (.i (by repeat constructor))
    refine ES.condD rfl (fun h2 => ?_) (fun h2 => ?_)
    · rw [if_pos h2] at hte
      rw [hte]
      refine .go ?_; repeat constructor
      refine EL.assign rfl rfl rfl ?_
      refine .go ?_; repeat constructor
      exact PX.ret rfl Try.results83 (.cons (.tmp rfl) .nil) (fun w hs => ⟨(), rfl, hs.ent (.i (by repeat constructor))⟩)
    rw [if_neg h2] at hte
    refine .go ?_; repeat constructor
    refine EL.move rfl rfl rfl ?_
    refine EL.nilCheck rfl rfl rfl ?_
    refine EL.fieldAddr rfl rfl rfl rfl rfl rfl rfl rfl ?_
    refine EL.loadOld rfl rfl rfl rfl rfl hrd rfl ?_
    refine EL.lenL rfl rfl rfl rfl rfl ?_
    refine EL.move rfl rfl rfl ?_
    refine .go ?_; repeat constructor
    refine ES.loop (σ := Nat) (fun i => i ≤ r.kids.length ∧ (r.kids.take i).all RE.thin = true) (fun i => [(0, Pv g off), (34, Iv (r.kids.length : Nat)), (35, Iv (i : Nat))]) (fun _ => []) (fun i => r.kids.length - i) 0 ⟨Nat.zero_le _, rfl⟩ ⟨rfl, rfl, rfl, trivial⟩ (.i (by repeat constructor)) ?_
    rintro i ⟨hi, hall⟩
    dsimp only at hi hall ⊢
    refine .go ?_; repeat constructor
    refine EL.lss rfl rfl rfl rfl ?_
    refine .go ?_; repeat constructor
    refine ES.condD rfl (fun hlt => ?_) (fun hge => ?_)
    · have hlt' : i < r.kids.length := by omega
      obtain ⟨g', o', rfl, hk⟩ := hkids (by intro e; rw [e] at hlt'; simp at hlt')
      obtain ⟨k, hki⟩ : ∃ k, r.kids[i]? = some k := ⟨_, List.getElem?_eq_getElem hlt'⟩
      have hkn := hk i k hki
      have hks := kids_lt (List.mem_of_getElem? hki)
      refine .go ?_; repeat constructor
      refine EL.move rfl rfl rfl ?_
      refine EL.assign rfl rfl rfl ?_
      refine .go ?_; repeat constructor
      refine EL.move rfl rfl rfl ?_
      refine EL.nilCheck rfl rfl rfl ?_
      refine EL.fieldAddr rfl rfl rfl rfl rfl rfl rfl rfl ?_
      refine EL.loadOld rfl rfl rfl rfl rfl hrd rfl ?_
      refine EL.move rfl rfl rfl ?_
      refine EL.indexAddrL rfl rfl rfl rfl rfl rfl rfl (by omega) ?_
      refine EL.callPw rfl rfl rfl ent83 rfl (fun w hs => ih k (by omega) (fine_kid hfine (List.mem_of_getElem? hki)) g' (o' + i * 9) w (NodeRd.sat hkn hs)) ?_
      refine EL.not rfl rfl rfl ?_
      refine .go ?_; repeat constructor
      refine ES.cond rfl (fun hf => ?_) (fun ht => ?_)
      · rw [Bool.not_eq_true'] at hf
        rw [hte, all_false _ _ _ _ hki hf]
        refine .go ?_; repeat constructor
        refine EL.assign rfl rfl rfl ?_
        refine .go ?_; repeat constructor
        exact PX.ret rfl Try.results83 (.cons (.tmp rfl) .nil) (fun w hs => ⟨(), rfl, hs.ent (.i (by repeat constructor))⟩)
      · rw [Bool.not_eq_false'] at ht
        refine .go ?_; repeat constructor
        refine EL.add1 rfl rfl rfl rfl (by omega) ?_
        refine EL.move rfl rfl rfl ?_
        refine .go ?_; repeat constructor
        exact PX.loop (i + 1) ⟨hlt', by rw [all_take _ _ _ _ hki, hall, ht]; rfl⟩ (by omega) ⟨rfl, rfl, rfl, trivial⟩ (.i (by repeat constructor))
    · rw [hte, show r.kids.all RE.thin = true by rw [List.take_of_length_le (by omega)] at hall; exact hall]
      refine .go ?_; repeat constructor
      refine EL.assign rfl rfl rfl ?_
      refine .go ?_; repeat constructor
      exact PX.ret rfl Try.results83 (.cons (.tmp rfl) .nil) (fun w hs => ⟨(), rfl, hs.ent (.i (by repeat constructor))⟩)
theorem thin_c (r : RE) (hf : r.fine) (g off : Nat) (w : World) (h : NodeRd w w.heap.size g off r) : Pure Try.prog 83 #[Pv g off] (fun _ : Unit => .bool r.thin) (fun _ => []) w := thin_n r.sz r (Nat.le_refl _) hf g off w h
theorem rep_kids {r : RE} (h : r.kind = 5) : ∃ k, r = .rep r.lo r.hi k := by
  cases r <;> first | (simp [RE.kind] at h; done) | exact ⟨_, rfl⟩
theorem least_c (lo : Nat) (hi : Int) (k : RE) (hf : (RE.rep lo hi k).fine) (g off : Nat) (w : World) (h : NodeRd w w.heap.size g off (.rep lo hi k)) : Pure Try.prog 82 #[Pv g off] (fun _ : Unit => Iv (leastM lo k : Nat)) (fun _ => []) w := by
  obtain ⟨ad, cap, hrd, hkids⟩ := h.kids
  have hrd := hrd.rd
  obtain ⟨g', o', rfl, hk⟩ := hkids (by simp [RE.kids])
  have hkn : NodeRd w w.heap.size g' o' k := by have := hk 0 k rfl; rwa [Nat.zero_mul, Nat.add_zero] at this
  have hlo := hf.1
  have hle : leastM lo k = if k.thin = true then min lo 1 else lo := rfl
  refine calls_of_ES TB Try.func82 rfl _ Try.ntmps82 rfl (Sat.start w) ?_
  refine .go ?_; repeat constructor
  refine EL.assign rfl rfl rfl ?_
  refine .go ?_; repeat constructor
  refine EL.move rfl rfl rfl ?_
  refine EL.nilCheck rfl rfl rfl ?_
  refine EL.fieldAddr rfl rfl rfl rfl rfl rfl rfl rfl ?_
  refine EL.loadOld rfl rfl rfl rfl rfl hrd rfl ?_
  refine EL.indexAddrL (i := 0) rfl rfl rfl rfl rfl rfl rfl (by simp [RE.kids]) ?_
  refine EL.callPw rfl rfl rfl ent83 rfl (fun w hs => thin_c k hf.2.2.2.2 g' o' w (NodeRd.sat hkn hs)) ?_
  refine .go ?_; repeat constructor
  refine ES.cond rfl (fun ht => ?_) (fun hf => ?_)
  · rw [if_pos ht] at hle
    rw [hle]
    refine .go ?_; repeat constructor
    refine EL.move rfl rfl rfl ?_
    refine EL.nilCheck rfl rfl rfl ?_
    refine EL.fieldAddr rfl rfl rfl rfl rfl rfl rfl rfl ?_
    refine EL.loadOld rfl rfl rfl rfl rfl hrd rfl ?_
    refine EL.ofRV (RV.minI rfl rfl) rfl rfl rfl (by intro c h; cases h) ?_
    refine EL.assign rfl rfl rfl ?_
    refine .go ?_; repeat constructor
    exact PX.ret rfl Try.results82 (.cons (.tmp rfl) .nil) (fun w hs => ⟨(), by show Ending.returned (Iv (min (lo : Int) 1)) = Ending.returned (Iv ((min lo 1 : Nat) : Int)); congr 2; omega, hs.ent (.i (by repeat constructor))⟩)
  · rw [if_neg (by rw [hf]; decide)] at hle
    rw [hle]
    refine .go ?_; repeat constructor
    refine EL.move rfl rfl rfl ?_
    refine EL.nilCheck rfl rfl rfl ?_
    refine EL.fieldAddr rfl rfl rfl rfl rfl rfl rfl rfl ?_
    refine EL.loadOld rfl rfl rfl rfl rfl hrd rfl ?_
    refine EL.assign rfl rfl rfl ?_
    refine .go ?_; repeat constructor
    exact PX.ret rfl Try.results82 (.cons (.tmp rfl) .nil) (fun w hs => ⟨(), rfl, hs.ent (.i (by repeat constructor))⟩)
theorem kind_1 {r : RE} (h : r.kind = 1) : ∃ b, r = .byte b := by cases r <;> first | (simp [RE.kind] at h; done) | exact ⟨_, rfl⟩
theorem kind_2 {r : RE} (h : r.kind = 2) : r = .bol := by cases r <;> first | (simp [RE.kind] at h; done) | rfl
theorem kind_3 {r : RE} (h : r.kind = 3) : r = .eol := by cases r <;> first | (simp [RE.kind] at h; done) | rfl
theorem kind_6 {r : RE} (h : r.kind = 6) : ∃ n, r = .back n := by cases r <;> first | (simp [RE.kind] at h; done) | exact ⟨_, rfl⟩
theorem kind_5 {r : RE} (h : r.kind = 5) : ∃ lo hi k, r = .rep lo hi k := by cases r <;> first | (simp [RE.kind] at h; done) | exact ⟨_, _, _, rfl⟩
theorem kind_le (r : RE) : r.kind ≤ 6 := by cases r <;> simp [RE.kind]
theorem set_cells (r : RE) (kv : Value) : ∀ i u, [Wv r.set.a, Wv r.set.b, Wv r.set.c, Wv r.set.d][i]? = some u → (reCells r kv)[1 + i]? = some u := by
  intro i u hi
  rw [Nat.add_comm]
  simp only [reCells, List.getElem?_cons_succ]
  rcases i with _ | _ | _ | _ | i <;> simp_all
end Go.Proofs.Ytblpgpgbnlhjlaa
