/- Trees in memory: the cells of a row of trees, what they lead to. -/
import Derived.Test.YtblpgpgbnlhjlaaPa
import Derived.Test.YtblpgpgbnlhjlaaSln
namespace Go.Proofs.Ytblpgpgbnlhjlaa
open Go Go.RowKit Sl
set_option maxRecDepth 100000
set_option maxHeartbeats 8000000
set_option linter.unusedVariables false
set_option linter.unusedSimpArgs false
attribute [local irreducible] ES EL PX wps

def reCells (r : RE) (kv : Value) : List Value := [Iv (r.kind : Nat), Wv r.set.a, Wv r.set.b, Wv r.set.c, Wv r.set.d, Iv (r.lo : Nat), Iv r.hi, Iv (r.num : Nat), kv]
/-- Cells that can be read from an address on, in blocks of S. -/
def Reads (S : Nat → Prop) (w : World) (ad : Option Addr) (cs : List Value) : Prop :=
  cs ≠ [] → ∃ g off, ad = some ⟨g, off, none⟩ ∧ S g ∧ ∃ ca ta, w.heap[g]? = some (.cells ca ta (0, 0)) ∧ ∀ j v, cs[j]? = some v → ca[off + j]? = some v
theorem Reads.nil {S : Nat → Prop} {w : World} {ad : Option Addr} : Reads S w ad [] := fun h => absurd rfl h
theorem Reads.mono {S S' : Nat → Prop} {w : World} {ad : Option Addr} {cs : List Value} (h : Reads S w ad cs) (hs : ∀ g, S g → S' g) : Reads S' w ad cs := fun hne => by
  obtain ⟨g, off, h1, h2, h3⟩ := h hne
  exact ⟨g, off, h1, hs g h2, h3⟩
theorem Reads.loc {S : Nat → Prop} {w w' : World} {ad : Option Addr} {cs : List Value} (h : Reads S w ad cs) (hl : ∀ g, S g → w'.heap[g]? = w.heap[g]?) : Reads S w' ad cs := fun hne => by
  obtain ⟨g, off, h1, h2, ca, ta, h3, h4⟩ := h hne
  exact ⟨g, off, h1, h2, ca, ta, by rw [hl g h2]; exact h3, h4⟩
theorem Reads.cell {S : Nat → Prop} {w : World} {g off : Nat} {cs : List Value} (h : Reads S w (some ⟨g, off, none⟩) cs) (j : Nat) (v : Value) (hj : cs[j]? = some v) : w.cell? ⟨g, off + j, none⟩ = some v := by
  obtain ⟨g', off', h1, _, ca, ta, h3, h4⟩ := h (fun e => by subst e; simp at hj)
  simp only [Option.some.injEq, Addr.mk.injEq] at h1
  obtain ⟨rfl, rfl, _⟩ := h1
  simp only [World.cell?, h3]
  exact h4 j v hj
theorem Reads.rd {w : World} {B : Nat} {ad : Option Addr} {cs : List Value} (h : Reads (· < B) w ad cs) : Rd w B ad cs := fun hne => by
  obtain ⟨g, off, h1, h2, ca, ta, h3, h4⟩ := h hne
  exact ⟨g, off, h1, h2, fun j v hj => by simp only [World.cell?, h3]; exact h4 j v hj⟩
theorem row_reads {w : World} {e sz g n cap : Nat} {cs : List Value} (h : w.ownsRow 0 e sz (.slice (some ⟨g, 0, none⟩) n cap) n cs) : ∃ ca ta, w.heap[g]? = some (.cells ca ta (0, 0)) ∧ ∀ j v, cs[j]? = some v → ca[0 + j]? = some v := by
  obtain ⟨_, (⟨h', _⟩ | ⟨g', cap', cur, hv, _, hh, _, _, _, ht⟩)⟩ := h
  · cases h'
  · simp only [Value.slice.injEq, Option.some.injEq, Addr.mk.injEq] at hv
    obtain ⟨⟨rfl, _⟩, _, _⟩ := hv
    refine ⟨cur, e, hh, fun j v hj => ?_⟩
    rw [← ht] at hj
    rw [Nat.zero_add]
    rw [List.getElem?_take] at hj
    split at hj
    · simpa using hj
    · cases hj
/-- A row of trees: its cells. -/
inductive Forest (S : Nat → Prop) (w : World) : List RE → List Value → Prop
  | nil : Forest S w [] []
  | cons (r : RE) (ks : List RE) (ad : Option Addr) (cap : Nat) (cs0 cs : List Value) (hc : r.kids.length ≤ cap) (h0 : Forest S w r.kids cs0) (hr : Reads S w ad cs0) (h : Forest S w ks cs) : Forest S w (r :: ks) (reCells r (.slice ad r.kids.length cap) ++ cs)
theorem Forest.len {S : Nat → Prop} {w : World} {ks : List RE} {cs : List Value} (h : Forest S w ks cs) : cs.length = ks.length * 9 := by
  induction h with
  | nil => rfl
  | cons r ks ad cap cs0 cs hc h0 hr h ih0 ih => simp only [List.length_append, ih, List.length_cons, reCells, List.length_nil]; omega
theorem Forest.mono {S S' : Nat → Prop} {w : World} {ks : List RE} {cs : List Value} (h : Forest S w ks cs) (hs : ∀ g, S g → S' g) : Forest S' w ks cs := by
  induction h with
  | nil => exact .nil
  | cons r ks ad cap cs0 cs hc h0 hr h ih0 ih => exact .cons r ks ad cap cs0 cs hc ih0 (hr.mono hs) ih
theorem Forest.loc {S : Nat → Prop} {w w' : World} {ks : List RE} {cs : List Value} (h : Forest S w ks cs) (hl : ∀ g, S g → w'.heap[g]? = w.heap[g]?) : Forest S w' ks cs := by
  induction h with
  | nil => exact .nil
  | cons r ks ad cap cs0 cs hc h0 hr h ih0 ih => exact .cons r ks ad cap cs0 cs hc ih0 (hr.loc hl) ih
theorem Forest.append {S : Nat → Prop} {w : World} {ks ks' : List RE} {cs cs' : List Value} (h : Forest S w ks cs) (h' : Forest S w ks' cs') : Forest S w (ks ++ ks') (cs ++ cs') := by
  induction h with
  | nil => exact h'
  | cons r ks ad cap cs0 cs hc h0 hr h ih0 ih => rw [List.append_assoc]; exact .cons r _ ad cap cs0 _ hc h0 hr ih
theorem Forest.one {S : Nat → Prop} {w : World} (r : RE) (ad : Option Addr) (cap : Nat) (cs0 : List Value) (hc : r.kids.length ≤ cap) (h0 : Forest S w r.kids cs0) (hr : Reads S w ad cs0) : Forest S w [r] (reCells r (.slice ad r.kids.length cap)) := by
  have := Forest.cons r [] ad cap cs0 [] hc h0 hr .nil
  simpa using this
/-- A tree without kids. -/
theorem Forest.leaf {S : Nat → Prop} {w : World} (r : RE) (h : r.kids = []) : Forest S w [r] (reCells r (.slice none 0 0)) := by
  have := Forest.one (S := S) (w := w) r none 0 [] (by rw [h]; exact Nat.le_refl _) (by rw [h]; exact .nil) Reads.nil
  rw [h] at this; exact this
theorem drop9 (c cs : List Value) (h : c.length = 9) (i : Nat) : (c ++ cs).drop ((i + 1) * 9) = cs.drop (i * 9) := by
  rw [List.drop_append, List.drop_of_length_le (by omega), List.nil_append]
  congr 1; omega
theorem take9 (c cs : List Value) (h : c.length = 9) (i : Nat) : (c ++ cs).take ((i + 1) * 9) = c ++ cs.take (i * 9) := by
  rw [List.take_append, List.take_of_length_le (by omega)]
  congr 2; omega
/-- The tree at a place of a row. -/
theorem Forest.get {S : Nat → Prop} {w : World} {ks : List RE} {cs : List Value} (h : Forest S w ks cs) : ∀ (i : Nat) (r : RE), ks[i]? = some r → ∃ ad cap cs0, (cs.drop (i * 9)).take 9 = reCells r (.slice ad r.kids.length cap) ∧ Forest S w r.kids cs0 ∧ Reads S w ad cs0 ∧ r.kids.length ≤ cap := by
  induction h with
  | nil => intro i r hi; simp at hi
  | cons r ks ad cap cs0 cs hc h0 hr h ih0 ih =>
    intro i r' hi
    cases i with
    | zero =>
      simp only [List.getElem?_cons_zero, Option.some.injEq] at hi
      subst hi
      exact ⟨ad, cap, cs0, by simp [reCells], h0, hr, hc⟩
    | succ i =>
      simp only [List.getElem?_cons_succ] at hi
      obtain ⟨ad', cap', cs1, h1, h2, h3⟩ := ih i r' hi
      refine ⟨ad', cap', cs1, ?_, h2, h3⟩
      rw [drop9 _ _ rfl]
      exact h1
theorem Forest.drop {S : Nat → Prop} {w : World} {ks : List RE} {cs : List Value} (h : Forest S w ks cs) : ∀ i, Forest S w (ks.drop i) (cs.drop (i * 9)) := by
  induction h with
  | nil => intro i; simp; exact .nil
  | cons r ks ad cap cs0 cs hc h0 hr h ih0 ih =>
    intro i
    cases i with
    | zero => simp only [List.drop_zero, Nat.zero_mul]; exact .cons r ks ad cap cs0 cs hc h0 hr h
    | succ i =>
      rw [drop9 _ _ rfl]
      exact ih i
theorem Forest.take {S : Nat → Prop} {w : World} {ks : List RE} {cs : List Value} (h : Forest S w ks cs) : ∀ i, Forest S w (ks.take i) (cs.take (i * 9)) := by
  induction h with
  | nil => intro i; simp; exact .nil
  | cons r ks ad cap cs0 cs hc h0 hr h ih0 ih =>
    intro i
    cases i with
    | zero => simp only [List.take_zero, Nat.zero_mul]; exact .nil
    | succ i =>
      rw [take9 _ _ rfl]
      exact Forest.cons r _ ad cap cs0 _ hc h0 hr (ih i)
/-- What a row of trees leads to, owned. -/
def HA.forest (fp : List Nat) (ks : List RE) (cs : List Value) : HA := ⟨fp, fun w => Forest (· ∈ fp) w ks cs, fun w w' h hw => hw.loc (fun g hg => h g hg)⟩
theorem Sat.rule {w0 w : World} {B : Nat} {Hs R : List HA} {A : HA} (h : Sat w0 B (Hs ++ R) w) (hf : (fps Hs).Perm A.fp) (hA : (∀ X ∈ Hs, X.holds w) → A.holds w) : Sat w0 B (A :: R) w := by
  have hp : (fps (Hs ++ R)).Perm (fps (A :: R)) := by rw [fps_append, fps_cons]; exact hf.append_right _
  refine ⟨h.below, h.base, hp.nodup_iff.1 h.nodup, fun g hg => h.lo g (hp.mem_iff.2 hg), fun X hX => ?_⟩
  rcases List.mem_cons.1 hX with rfl | hX
  · exact hA (fun Y hY => h.all Y (by simp [hY]))
  · exact h.all X (by simp [hX])
theorem Sat.forest0 {w0 w : World} {B : Nat} {H : List HA} (h : Sat w0 B H w) (ks : List RE) (cs : List Value) (hf : ∀ S w, Forest S w ks cs) : Sat w0 B (HA.forest [] ks cs :: H) w :=
  Sat.rule (Hs := []) h (by simp only [fps, List.flatMap_cons, List.flatMap_nil, HA.forest, HA.row, List.append_nil]; exact List.Perm.refl _) (fun _ => hf _ _)
/-- Two rows of trees behind one another. -/
theorem Sat.forestApp {w0 w : World} {B : Nat} {R : List HA} {fp fp' : List Nat} {ks ks' : List RE} {cs cs' : List Value} (h : Sat w0 B (HA.forest fp ks cs :: HA.forest fp' ks' cs' :: R) w) : Sat w0 B (HA.forest (fp ++ fp') (ks ++ ks') (cs ++ cs') :: R) w :=
  Sat.rule (Hs := [HA.forest fp ks cs, HA.forest fp' ks' cs']) h (by simp only [fps, List.flatMap_cons, List.flatMap_nil, HA.forest, HA.row, List.append_nil]; exact List.Perm.refl _) (fun hh => by
    have h1 : Forest (· ∈ fp) w ks cs := hh (HA.forest fp ks cs) (by simp)
    have h2 : Forest (· ∈ fp') w ks' cs' := hh (HA.forest fp' ks' cs') (by simp)
    exact (h1.mono (fun g hg => by simp [hg])).append (h2.mono (fun g hg => by simp [hg])))
/-- A row that is done becomes a tree's kids. -/
theorem Sat.seal {w0 w : World} {B : Nat} {R : List HA} {fp : List Nat} {ks : List RE} {cs : List Value} {ad : Option Addr} {n cap e : Nat} (r : RE) (hr : r.kids = ks) (h : Sat w0 B (HA.row (.slice ad n cap) e 9 ks.length cs :: HA.forest fp ks cs :: R) w) :
    Sat w0 B (HA.forest ((Value.slice ad n cap).ownBlock.toList ++ fp) [r] (reCells r (.slice ad ks.length cap)) :: R) w :=
  Sat.rule (Hs := [HA.row (.slice ad n cap) e 9 ks.length cs, HA.forest fp ks cs]) h (by simp only [fps, List.flatMap_cons, List.flatMap_nil, HA.forest, HA.row, List.append_nil]; exact List.Perm.refl _) (fun hh => by
    have h1 : w.ownsRow 0 e 9 (.slice ad n cap) ks.length cs := hh (HA.row (.slice ad n cap) e 9 ks.length cs) (by simp)
    have h2 : Forest (· ∈ fp) w ks cs := hh (HA.forest fp ks cs) (by simp)
    subst hr
    refine Forest.one r ad cap cs (row_form h1).2.1 (h2.mono (fun g hg => by simp [hg])) (fun hne => ?_)
    obtain ⟨hl2, _, _, hl, hform⟩ := row_form h1
    obtain ⟨g, rfl⟩ := hform (by
      rcases Nat.eq_zero_or_pos r.kids.length with h0 | h0
      · rw [h0] at hl; exact absurd (List.eq_nil_of_length_eq_zero (by omega)) hne
      · exact h0)
    exact ⟨g, 0, rfl, by simp [Value.ownBlock], row_reads (by obtain rfl := hl2; exact h1)⟩)
theorem Sat.forestEq {w0 w : World} {B : Nat} {R : List HA} {fp : List Nat} {ks ks' : List RE} {cs cs' : List Value} (h : Sat w0 B (HA.forest fp ks cs :: R) w) (hf : ∀ S w, Forest S w ks cs → Forest S w ks' cs') : Sat w0 B (HA.forest fp ks' cs' :: R) w :=
  Sat.rule (Hs := [HA.forest fp ks cs]) h (by simp only [fps, List.flatMap_cons, List.flatMap_nil, HA.forest, HA.row, List.append_nil]; exact List.Perm.refl _) (fun hh => hf _ _ (hh (HA.forest fp ks cs) (by simp)))
/-- Trees that stood before: in blocks below B. -/
abbrev ForestRd (w : World) (B : Nat) (ks : List RE) (cs : List Value) : Prop := Forest (· < B) w ks cs
theorem Forest.sat {w0 w : World} {B : Nat} {H : List HA} {fp : List Nat} {ks : List RE} {cs : List Value} (hs : Sat w0 B H w) (hm : Mem H (HA.forest fp ks cs)) : ForestRd w w.heap.size ks cs := by
  have h : Forest (· ∈ fp) w ks cs := hs.all _ hm.mem
  exact h.mono (fun g hg => (hs.lo g (List.mem_flatMap.2 ⟨_, hm.mem, hg⟩)).2)
theorem Forest.beneath {w0 w : World} {B B' : Nat} {ks : List RE} {cs : List Value} (h : ForestRd w0 B ks cs) (hb : Below B w0 w) (hB : B ≤ B') : ForestRd w B' ks cs :=
  (h.loc (fun g hg => hb.block g hg)).mono (fun g hg => Nat.lt_of_lt_of_le hg hB)
theorem Forest.satRd {w0 w : World} {B : Nat} {H : List HA} {ks : List RE} {cs : List Value} (h : ForestRd w0 B ks cs) (hs : Sat w0 B H w) : ForestRd w w.heap.size ks cs := h.beneath hs.below hs.base
end Go.Proofs.Ytblpgpgbnlhjlaa
