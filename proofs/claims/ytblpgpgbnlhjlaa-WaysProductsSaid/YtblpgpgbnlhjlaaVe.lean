/- Layer 9 (ways): the walk of row. -/
import Derived.Test.YtblpgpgbnlhjlaaVd
namespace Go.Proofs.Ytblpgpgbnlhjlaa
open Go Go.RowKit Sl
set_option maxRecDepth 100000
set_option maxHeartbeats 8000000
set_option linter.unusedVariables false
set_option linter.unusedSimpArgs false
attribute [local irreducible] ES EL PX wps

theorem PlainAt.of_node {w0 w : World} {B g off : Nat} {H : List HA} {r : RE} (h : NodeRd w0 B g off r) (hs : Sat w0 B H w) : PlainAt w g := by
  obtain ⟨ad, cap, hrd, _⟩ := h.kids
  obtain ⟨g', off', h1, h2, ca, ta, h3, _⟩ := hrd (by simp [reCells])
  simp only [Option.some.injEq, Addr.mk.injEq] at h1
  obtain ⟨rfl, _, _⟩ := h1
  exact ⟨ca, ta, by rw [hs.below.block g h2]; exact h3⟩
theorem memo_plain {w0 w : World} {B : Nat} {H : List HA} {s : List UInt8} {es : List ME} (hok : MemoOk w0 B s es) (hs : Sat w0 B H w) : ∀ m ∈ es, PlainAt w m.key.g := fun m hm => by
  obtain ⟨r, a, h⟩ := hok m hm
  exact PlainAt.of_node h.node hs
theorem memo_len {w0 : World} {B : Nat} {s : List UInt8} {es : List ME} (hok : MemoOk w0 B s es) : ∀ m ∈ es, m.key.is.length = 1 := fun m hm => by
  obtain ⟨r, a, h⟩ := hok m hm
  rw [h.is]; rfl
/-- What is found is the part's row. -/
theorem memo_hit {w0 : World} {B : Nat} {s : List UInt8} {es : List ME} (hok : MemoOk w0 B s es) {g off a : Nat} {r : RE} (hn : NodeRd w0 B g off r) {m : ME} (h : memoGet ⟨g, off, [(a : Int)]⟩ es = some m) : m ∈ es ∧ EntOk w0 B s m r a := by
  have h1 := List.mem_of_find?_eq_some h
  have h2 := List.find?_some h
  have h3 : (⟨g, off, [(a : Int)]⟩ : MK) = m.key := of_decide_eq_true h2
  obtain ⟨r', a', he⟩ := hok m h1
  have hi := he.is
  rw [← h3] at hi
  simp only [List.cons.injEq, and_true] at hi
  obtain rfl : a = a' := by omega
  have hnd := he.node
  rw [← h3] at hnd
  obtain rfl := hn.inj hnd
  exact ⟨h1, he⟩
theorem memoGet_app (k : MK) (es new : List ME) : memoGet k (es ++ new) = match memoGet k es with | some m => some m | none => memoGet k new := by
  unfold memoGet
  rw [List.find?_append]
  cases es.find? (fun m => decide (k = m.key)) <;> rfl
/-- A part is not found among the rows of smaller parts. -/
theorem memo_new {w0 : World} {B : Nat} {s : List UInt8} {es : List ME} {g off a b : Nat} {r : RE} (hn : NodeRd w0 B g off r) (G : Grow w0 B s es b) (hb : b < r.sz) (h : memoGet ⟨g, off, [(a : Int)]⟩ es = none) : memoGet ⟨g, off, [(a : Int)]⟩ G.es' = none := by
  rw [G.eq, memoGet_app, h]
  cases hm : memoGet ⟨g, off, [(a : Int)]⟩ G.new with
  | none => rfl
  | some m =>
    have h1 := List.mem_of_find?_eq_some hm
    have h2 := List.find?_some hm
    have h3 : (⟨g, off, [(a : Int)]⟩ : MK) = m.key := of_decide_eq_true h2
    obtain ⟨r', a', he, hsz⟩ := G.small m h1
    have hnd := he.node
    rw [← h3] at hnd
    obtain rfl := hn.inj hnd
    omega
theorem rowW_cat (s : List UInt8) (r : RE) (a : Nat) (h : r.kind = 0 ∨ r.kind = 4) : rowW s r a = catR capW s r.kids (unitR a) := by
  cases r <;> simp [RE.kind] at h
  · show rowR capW s _ a = _; rw [rowR]; rfl
  · show rowR capW s _ a = _; rw [rowR]; simp only [RE.kids]; rw [catR, catR]
theorem kind_1 {r : RE} (h : r.kind = 1) : ∃ b, r = .byte b := by cases r <;> first | (simp [RE.kind] at h; done) | exact ⟨_, rfl⟩
theorem kind_2 {r : RE} (h : r.kind = 2) : r = .bol := by cases r <;> first | (simp [RE.kind] at h; done) | rfl
theorem kind_3 {r : RE} (h : r.kind = 3) : r = .eol := by cases r <;> first | (simp [RE.kind] at h; done) | rfl
theorem kind_6 {r : RE} (h : r.kind = 6) : ∃ n, r = .back n := by cases r <;> first | (simp [RE.kind] at h; done) | exact ⟨_, rfl⟩
theorem kind_5 {r : RE} (h : r.kind = 5) : ∃ lo hi k, r = .rep lo hi k := by cases r <;> first | (simp [RE.kind] at h; done) | exact ⟨_, _, _, rfl⟩
theorem kind_le (r : RE) : r.kind ≤ 6 := by cases r <;> simp [RE.kind]
theorem set_cells (r : RE) (kv : Value) : ∀ i u, [Wv r.set.a, Wv r.set.b, Wv r.set.c, Wv r.set.d][i]? = some u → (reCells r kv)[1 + i]? = some u := by
  intro i u hi
  rw [Nat.add_comm]
  simp only [reCells, List.getElem?_cons_succ]
  rcases i with _ | _ | _ | _ | i <;> simp_all
theorem unit_at (a : Nat) : unitR a a = 1 := if_pos rfl
theorem unit_le (a q : Nat) : unitR a q ≤ 4097 := by unfold unitR; split <;> omega
structure WSt (w0 : World) (B : Nat) (s : List UInt8) (es : List ME) (b : Nat) where
  g : Nat
  cap : Nat
  G : Grow w0 B s es b
structure KSt (w0 : World) (B : Nat) (s : List UInt8) (es : List ME) (b : Nat) where
  i : Nat
  g : Nat
  cap : Nat
  v : Row
  G : Grow w0 B s es b
theorem row_n (n : Nat) : ∀ (r : RE), r.sz ≤ n → r.fine → ∀ (s : List UInt8), s.length ≤ 1024 → ∀ (gc gm : Nat) (w0 : World) (B g off : Nat), NodeRd w0 B g off r → RowCt s gc gm w0 B r g off := by
  induction n with
  | zero => intro r hr; exact absurd (sz_pos r) (by omega)
  | succ n ih =>
    intro r hr hfine s hs gc gm w0 B g off hn a es ha hok R w h
    replace h : Sat w0 B (CB gc gm s :: MH gm es :: R) w := h
    have hn0 := hn
    obtain ⟨ad, cap, hrd, hkids⟩ := hn.kids
    have hrd := hrd.rd
    have hfl := fine_len hfine
    refine calls_of_ES TB Try.func41 rfl _ Try.ntmps41 rfl h ?_
    refine .go ?_; repeat constructor
    refine EL.assign rfl rfl rfl ?_
    refine .go ?_; repeat constructor
    refine EL.move rfl rfl rfl ?_
    refine EL.move rfl rfl rfl ?_
    (apply EL.build2; exact rfl; exact rfl; exact rfl; exact rfl; exact rfl; exact rfl; exact rfl; exact rfl; exact rfl; exact rfl)
    (refine EL.alloc rfl rfl rfl ?_; intro g7)
    (apply EL.storeAll; exact rfl; exact rfl; exact rfl; exact rfl; exact rfl; (case p => repeat constructor); exact rfl; (case h1 => exact (by first | rfl | exact all1 rfl | (intro u hu; simp only [List.mem_cons, List.not_mem_nil, or_false] at hu; rcases hu with rfl | rfl | rfl | rfl <;> rfl) | (intro u hu; simp at hu; rcases hu with rfl | rfl | rfl | rfl <;> rfl) | (intro u hu; simp at hu; rcases hu with rfl | rfl | rfl <;> rfl) | (intro u hu; simp at hu; rcases hu with rfl | rfl <;> rfl) | (intro u hu; simp at hu; obtain ⟨_, _, rfl⟩ := hu; rfl))))
    refine .go ?_; repeat constructor
    cases hmg : memoGet ⟨g, off, [(a : Int)]⟩ es with
    | some m =>
      obtain ⟨hmem, hent⟩ := memo_hit hok hn hmg
      refine ES.draw (X := Unit) (fun _ => [(8, m.val), (9, .bool true)]) (fun _ => CB gc gm s :: MH gm es :: R) (CB gc gm s :: MH gm es :: HA.blk g7 (.cells #[Pv g off, Iv (a : Nat)] 153) :: R) mixed (.i (by repeat constructor)) ?_ (fun _ => ?_)
      · refine ED.take 0 rfl (by decide +kernel) CutX.no_panic (by decide +kernel) rfl rfl rfl (RV.move rfl) ?_
        refine ED.take 1 rfl (by decide +kernel) CutX.no_panic (by decide +kernel) rfl rfl rfl (RV.nilCheck rfl) ?_
        refine ED.take 2 rfl (by decide +kernel) CutX.no_panic (by decide +kernel) rfl rfl rfl (RV.fieldAddr rfl rfl rfl rfl rfl rfl) ?_
        refine ED.take 3 rfl (by decide +kernel) CutX.no_panic (by decide +kernel) rfl rfl rfl (RV.loadB rfl rfl rfl (by repeat constructor) rfl) ?_
        refine ED.take 4 rfl (by decide +kernel) CutX.no_panic (by decide +kernel) rfl rfl rfl (RV.loadAggB rfl rfl rfl (by repeat constructor) rfl) ?_
        refine ED.take 5 rfl (by decide +kernel) CutX.no_panic (by decide +kernel) rfl rfl rfl (RV.lookupHit (k := ⟨g, off, [(a : Int)]⟩) (n := 1) rfl rfl rfl rfl rfl rfl keyW (by repeat constructor) rfl (memo_len hok) (fun w hs => ⟨PlainAt.of_node hn hs, memo_plain hok hs⟩) hmg) ?_
        refine ED.take 6 rfl (by decide +kernel) CutX.no_panic (by decide +kernel) rfl rfl rfl (RV.move rfl) ?_
        refine ED.take 7 rfl (by decide +kernel) CutX.no_panic (by decide +kernel) rfl rfl rfl (RV.extract rfl rfl) ?_
        refine ED.take 8 rfl (by decide +kernel) CutX.no_panic (by decide +kernel) rfl rfl rfl (RV.extract rfl rfl) ?_
        refine ED.take 9 rfl (by decide +kernel) CutX.no_panic (by decide +kernel) rfl rfl rfl (RV.assign rfl) ?_
        refine ED.take 10 rfl (by decide +kernel) CutX.no_panic (by decide +kernel) rfl rfl rfl (RV.assign rfl) ?_
        refine ED.done (by decide +kernel) ?_
        exact PX.cutX () ⟨rfl, rfl, trivial⟩ (.i (by repeat constructor))
      refine .go ?_; repeat constructor
      refine EL.move rfl rfl rfl ?_
      refine .go ?_; repeat constructor
      refine ES.condT rfl ?_
      refine .go ?_; repeat constructor
      refine EL.move rfl rfl rfl ?_
      refine EL.assign rfl rfl rfl ?_
      refine .go ?_; repeat constructor
      exact PX.ret rfl Try.results41 (.cons (.tmp rfl) .nil) (fun w hs => ⟨⟨Grow.zero hok, m, hmem, hent⟩, rfl, hs.ent (.i (by repeat constructor))⟩)
    | none =>
      refine ES.draw (X := Unit) (fun _ => [(0, Pv gc 0), (1, Pv g off), (2, Iv (a : Nat)), (7, Pv g7 0), (9, .bool false)]) (fun _ => CB gc gm s :: MH gm es :: HA.blk g7 (.cells #[Pv g off, Iv (a : Nat)] 153) :: R) (CB gc gm s :: MH gm es :: HA.blk g7 (.cells #[Pv g off, Iv (a : Nat)] 153) :: R) mixed (.i (by repeat constructor)) ?_ (fun _ => ?_)
      · refine ED.take 0 rfl (by decide +kernel) CutX.no_panic (by decide +kernel) rfl rfl rfl (RV.move rfl) ?_
        refine ED.take 1 rfl (by decide +kernel) CutX.no_panic (by decide +kernel) rfl rfl rfl (RV.nilCheck rfl) ?_
        refine ED.take 2 rfl (by decide +kernel) CutX.no_panic (by decide +kernel) rfl rfl rfl (RV.fieldAddr rfl rfl rfl rfl rfl rfl) ?_
        refine ED.take 3 rfl (by decide +kernel) CutX.no_panic (by decide +kernel) rfl rfl rfl (RV.loadB rfl rfl rfl (by repeat constructor) rfl) ?_
        refine ED.take 4 rfl (by decide +kernel) CutX.no_panic (by decide +kernel) rfl rfl rfl (RV.loadAggB rfl rfl rfl (by repeat constructor) rfl) ?_
        refine ED.take 5 rfl (by decide +kernel) CutX.no_panic (by decide +kernel) rfl rfl rfl (RV.lookupMiss (k := ⟨g, off, [(a : Int)]⟩) (n := 1) rfl rfl rfl rfl rfl rfl keyW (by repeat constructor) rfl (memo_len hok) (fun w hs => ⟨PlainAt.of_node hn hs, memo_plain hok hs⟩) hmg) ?_
        refine ED.take 6 rfl (by decide +kernel) CutX.no_panic (by decide +kernel) rfl rfl rfl (RV.move rfl) ?_
        refine ED.take 7 rfl (by decide +kernel) CutX.no_panic (by decide +kernel) rfl rfl rfl (RV.extract rfl rfl) ?_
        refine ED.take 8 rfl (by decide +kernel) CutX.no_panic (by decide +kernel) rfl rfl rfl (RV.extract rfl rfl) ?_
        refine ED.take 9 rfl (by decide +kernel) CutX.no_panic (by decide +kernel) rfl rfl rfl (RV.assign rfl) ?_
        refine ED.take 10 rfl (by decide +kernel) CutX.no_panic (by decide +kernel) rfl rfl rfl (RV.assign rfl) ?_
        refine ED.done (by decide +kernel) ?_
        exact PX.cutX () ⟨rfl, rfl, rfl, rfl, rfl, trivial⟩ (.i (by repeat constructor))
      refine .go ?_; repeat constructor
      refine EL.move rfl rfl rfl ?_
      refine .go ?_; repeat constructor
      refine ES.condF rfl ?_
      refine .go ?_; repeat constructor
      refine EL.move rfl rfl rfl ?_
      refine EL.nilCheck rfl rfl rfl ?_
      refine EL.fieldAddr rfl rfl rfl rfl rfl rfl rfl rfl ?_
      (apply EL.loadB; exact rfl; exact rfl; exact rfl; exact rfl; exact rfl; (case hm => repeat constructor); exact rfl)
      refine EL.lenS rfl rfl rfl rfl rfl ?_
      refine EL.assign rfl rfl rfl ?_
      refine .go ?_; repeat constructor
      refine EL.move rfl rfl rfl ?_
      refine EL.add1 rfl rfl rfl rfl (by omega) ?_
      refine EL.makeSlice (n := s.length + 1) rfl rfl rfl rfl rfl rfl (by first | omega | (show 1 * _ ≤ _; omega) | (show 8 * _ ≤ _; omega) | (show 16 * _ ≤ _; omega) | (show 24 * _ ≤ _; omega) | (show _ * 1 ≤ _; omega) | (show _ * 8 ≤ _; omega) | (show _ * 16 ≤ _; omega) | (show _ * 24 ≤ _; omega) | exact Nat.le_trans (Nat.mul_le_mul_right _ (show _ ≤ 1073741824 by omega)) (by decide)) (by unfold maxLen; omega) ?_
      intro g35
      refine EL.rowEq (v := .slice (some ⟨g35, 0, none⟩) (s.length + 1) (s.length + 1)) (by repeat constructor) ((made1 _ _).trans (rowC_zero s.length)) ?_
      have hu1 : (rowC (fun _ => 0) s.length).set a (Iv 1) = rowC (unitR a) s.length := (rowC_set _ 1 ha).trans (rowC_ext (fun q _ => by show (if q = a then 1 else 0) = unitR a q; rfl))
      refine EL.assign rfl rfl rfl ?_
      refine .go ?_; repeat constructor
      refine EL.move rfl rfl rfl ?_
      refine EL.move rfl rfl rfl ?_
      refine EL.indexAddrL1 rfl rfl rfl rfl rfl rfl rfl rfl (by omega) ?_
      (refine EL.storeR rfl rfl rfl rfl rfl rfl (by repeat constructor) (by rw [rowC_len]; omega) ?_; refine EL.rowEq (v := .slice (some ⟨g35, 0, none⟩) (s.length + 1) (s.length + 1)) (by repeat constructor) hu1 ?_)
      refine .go ?_; repeat constructor
      refine EL.move rfl rfl rfl ?_
      refine EL.nilCheck rfl rfl rfl ?_
      refine EL.fieldAddr rfl rfl rfl rfl rfl rfl rfl rfl ?_
      refine EL.loadOld rfl rfl rfl rfl rfl hrd rfl ?_
      repeat (first | apply EL.nil | apply ES.seq | apply ES.skip)
      obtain ⟨b, hb⟩ : ∃ b, r.sz = b + 1 := ⟨r.sz - 1, by have := sz_pos r; omega⟩
      refine ES.cutC (X := WSt w0 B s es b) (fun x => [(0, Pv gc 0), (7, Pv g7 0), (11, .slice (some ⟨x.g, 0, none⟩) (s.length + 1) x.cap)]) (fun x => CB gc gm s :: MH gm x.G.es' :: HA.blk g7 (.cells #[Pv g off, Iv (a : Nat)] 153) :: VR x.g x.cap s.length (rowW s r a) :: R) ?_ (fun x => ?_)
      · refine .go ?_; repeat constructor
        refine EL.eqlI rfl rfl rfl rfl ?_
        refine EL.assign rfl rfl rfl ?_
        refine .go ?_; repeat constructor
        refine ES.condD rfl (fun h1 => ?_) (fun h1 => ?_)
        · obtain ⟨bs, rfl⟩ := kind_1 (show r.kind = 1 by omega)
          have hz : (rowC (unitR a) s.length).set a (Iv 0) = rowC (fun _ => 0) s.length := (rowC_set _ 0 ha).trans (rowC_ext (fun q _ => by
            show (if q = a then 0 else unitR a q) = 0
            split
            · rfl
            · rename_i hne; exact if_neg hne))
          refine .go ?_; repeat constructor
          refine EL.move rfl rfl rfl ?_
          refine EL.move rfl rfl rfl ?_
          refine EL.indexAddrL1 rfl rfl rfl rfl rfl rfl rfl rfl (by omega) ?_
          (refine EL.storeR rfl rfl rfl rfl rfl rfl (by repeat constructor) (by rw [rowC_len]; omega) ?_; refine EL.rowEq (v := .slice (some ⟨g35, 0, none⟩) (s.length + 1) (s.length + 1)) (by repeat constructor) hz ?_)
          refine .go ?_; repeat constructor
          refine ES.draw (X := Unit) (fun _ => [(0, Pv gc 0), (2, Iv (a : Nat)), (7, Pv g7 0), (11, .slice (some ⟨g35, 0, none⟩) (s.length + 1) (s.length + 1)), (81, .bool (decide (a < s.length ∧ hasS bs (s.getD a 0).toNat = true)))]) (fun _ => CB gc gm s :: MH gm es :: HA.blk g7 (.cells #[Pv g off, Iv (a : Nat)] 153) :: VR g35 (s.length + 1) s.length (fun _ => 0) :: R)
            (CB gc gm s :: MH gm es :: HA.blk g7 (.cells #[Pv g off, Iv (a : Nat)] 153) :: VR g35 (s.length + 1) s.length (fun _ => 0) :: R) mixed (.i (by repeat constructor)) ?_ (fun _ => ?_)
          · refine ED.take 0 rfl (by decide +kernel) CutX.no_panic (by decide +kernel) rfl rfl rfl (RV.move rfl) ?_
            refine ED.take 1 rfl (by decide +kernel) CutX.no_panic (by decide +kernel) rfl rfl rfl (RV.move rfl) ?_
            refine ED.take 2 rfl (by decide +kernel) CutX.no_panic (by decide +kernel) rfl rfl rfl (RV.lss rfl rfl) ?_
            refine ED.take 3 rfl (by decide +kernel) CutX.no_panic (by decide +kernel) rfl rfl rfl (RV.move rfl) ?_
            first | refine ED.part (d := 69) rfl (fun hp69 => ?_) (fun hp69 => ?_) | refine ED.partN (d := 69) rfl (fun hp69 => ?_) (fun hp69 => ?_) | refine ED.partB (d := 69) rfl (fun hp69 => ?_) (fun hp69 => ?_)
            · refine ED.take 4 rfl (by decide +kernel) CutX.no_panic (by decide +kernel) rfl rfl rfl (RV.move rfl) ?_
              refine ED.take 5 rfl (by decide +kernel) CutX.no_panic (by decide +kernel) rfl rfl rfl (RV.nilCheck rfl) ?_
              refine ED.take 6 rfl (by decide +kernel) CutX.no_panic (by decide +kernel) rfl rfl rfl (RV.fieldAddr rfl rfl rfl rfl rfl rfl) ?_
              refine ED.take 7 rfl (by decide +kernel) CutX.no_panic (by decide +kernel) rfl rfl rfl (RV.loadOldA (vs := [Wv bs.a, Wv bs.b, Wv bs.c, Wv bs.d]) rfl rfl rfl rfl (by simp) hrd (set_cells (.byte bs) _)) ?_
              refine ED.take 8 rfl (by decide +kernel) CutX.no_panic (by decide +kernel) rfl rfl rfl (RV.move rfl) ?_
              refine ED.take 9 rfl (by decide +kernel) CutX.no_panic (by decide +kernel) rfl rfl rfl (RV.nilCheck rfl) ?_
              refine ED.take 10 rfl (by decide +kernel) CutX.no_panic (by decide +kernel) rfl rfl rfl (RV.fieldAddr rfl rfl rfl rfl rfl rfl) ?_
              refine ED.take 11 rfl (by decide +kernel) CutX.no_panic (by decide +kernel) rfl rfl rfl (RV.loadB rfl rfl rfl (by repeat constructor) rfl) ?_
              refine ED.take 12 rfl (by decide +kernel) CutX.no_panic (by decide +kernel) rfl rfl rfl (RV.move rfl) ?_
              refine ED.take 13 rfl (by decide +kernel) CutX.no_panic (by decide +kernel) rfl rfl rfl (RV.indexSN rfl rfl rfl rfl (by omega)) ?_
              refine ED.loud 14 rfl (by decide +kernel) ?_
              refine EL.callP rfl rfl rfl ent60 rfl (has_c bs (s.getD a 0)) ?_
              refine ED.next (.i (by repeat constructor)) ?_
              refine ED.take 15 rfl (by decide +kernel) CutX.no_panic (by decide +kernel) rfl rfl rfl (RV.pickT rfl rfl) ?_
              refine ED.done (by decide +kernel) ?_
              exact PX.cutX () ⟨rfl, rfl, rfl, rfl, getA rfl (congrArg Value.bool (by rw [Bool.eq_iff_iff]; simp only [decide_eq_true_eq, Bool.false_eq_true, false_iff]; first | exact ⟨fun h => ⟨by omega, h⟩, fun h => h.2⟩ | (intro h; omega))), trivial⟩ (.i (by repeat constructor))
            · refine ED.pass 4 rfl (by decide +kernel) CutX.no_panic (by decide +kernel) rfl rfl rfl ?_
              refine ED.pass 5 rfl (by decide +kernel) CutX.no_panic (by decide +kernel) rfl rfl rfl ?_
              refine ED.pass 6 rfl (by decide +kernel) CutX.no_panic (by decide +kernel) rfl rfl rfl ?_
              refine ED.pass 7 rfl (by decide +kernel) CutX.no_panic (by decide +kernel) rfl rfl rfl ?_
              refine ED.pass 8 rfl (by decide +kernel) CutX.no_panic (by decide +kernel) rfl rfl rfl ?_
              refine ED.pass 9 rfl (by decide +kernel) CutX.no_panic (by decide +kernel) rfl rfl rfl ?_
              refine ED.pass 10 rfl (by decide +kernel) CutX.no_panic (by decide +kernel) rfl rfl rfl ?_
              refine ED.pass 11 rfl (by decide +kernel) CutX.no_panic (by decide +kernel) rfl rfl rfl ?_
              refine ED.pass 12 rfl (by decide +kernel) CutX.no_panic (by decide +kernel) rfl rfl rfl ?_
              refine ED.pass 13 rfl (by decide +kernel) CutX.no_panic (by decide +kernel) rfl rfl rfl ?_
              refine ED.pass 14 rfl (by decide +kernel) CutX.no_panic (by decide +kernel) rfl rfl rfl ?_
              refine ED.take 15 rfl (by decide +kernel) CutX.no_panic (by decide +kernel) rfl rfl rfl (RV.pickF rfl rfl) ?_
              refine ED.done (by decide +kernel) ?_
              exact PX.cutX () ⟨rfl, rfl, rfl, rfl, getA rfl (congrArg Value.bool (by rw [Bool.eq_iff_iff]; simp only [decide_eq_true_eq, Bool.false_eq_true, false_iff]; first | exact ⟨fun h => ⟨by omega, h⟩, fun h => h.2⟩ | (intro h; omega))), trivial⟩ (.i (by repeat constructor))
          refine ES.condD rfl (fun hy => ?_) (fun hno => ?_)
          · have e1 : (rowC (fun _ => 0) s.length).set (a + 1) (Iv 1) = rowC (rowW s (.byte bs) a) s.length := (rowC_set _ 1 (by omega)).trans (rowC_ext (fun q _ => by
              show (if q = a + 1 then 1 else 0) = if a < s.length ∧ hasS bs (s.getD a 0).toNat = true ∧ q = a + 1 then 1 else 0
              by_cases e : q = a + 1
              · rw [if_pos e, if_pos ⟨hy.1, hy.2, e⟩]
              · rw [if_neg e, if_neg (fun h => e h.2.2)]))
            refine .go ?_; repeat constructor
            refine EL.move rfl rfl rfl ?_
            refine EL.move rfl rfl rfl ?_
            refine EL.add1 rfl rfl rfl rfl (by omega) ?_
            refine EL.indexAddrL1 rfl rfl rfl rfl rfl rfl rfl rfl (by omega) ?_
            (refine EL.storeR rfl rfl rfl rfl rfl rfl (by repeat constructor) (by rw [rowC_len]; omega) ?_; refine EL.rowEq (v := .slice (some ⟨g35, 0, none⟩) (s.length + 1) (s.length + 1)) (by repeat constructor) e1 ?_)
            refine .go ?_; repeat constructor
            exact PX.cutX ⟨g35, s.length + 1, Grow.zero hok⟩ ⟨rfl, rfl, rfl, trivial⟩ (.i (by repeat constructor))
          · have e1 : rowC (fun _ => 0) s.length = rowC (rowW s (.byte bs) a) s.length := rowC_ext (fun q _ => by
              show 0 = if a < s.length ∧ hasS bs (s.getD a 0).toNat = true ∧ q = a + 1 then 1 else 0
              rw [if_neg (fun h => hno ⟨h.1, h.2.1⟩)])
            refine .go ?_; repeat constructor
            exact PX.cutX ⟨g35, s.length + 1, Grow.zero hok⟩ ⟨rfl, rfl, rfl, trivial⟩ (by rw [← VR_eq (g := g35) (cap := s.length + 1) e1]; exact (.i (by repeat constructor)))
        refine .go ?_; repeat constructor
        refine EL.eqlI rfl rfl rfl rfl ?_
        refine EL.assign rfl rfl rfl ?_
        refine .go ?_; repeat constructor
        refine ES.condD rfl (fun h2 => ?_) (fun h2 => ?_)
        · obtain rfl := kind_2 (show r.kind = 2 by omega)
          have hval : Iv (min ((unitR a a : Nat) : Int) (1 - min (a : Int) 1)) = Iv ((if a = 0 then 1 else 0 : Nat) : Int) := congrArg Iv (by rw [unit_at]; split <;> omega)
          have e1 : (rowC (unitR a) s.length).set a (Iv ((if a = 0 then 1 else 0 : Nat) : Int)) = rowC (rowW s .bol a) s.length := (rowC_set _ _ ha).trans (rowC_ext (fun q _ => by
            show (if q = a then (if a = 0 then 1 else 0) else unitR a q) = if a = 0 ∧ q = a then 1 else 0
            unfold unitR
            split <;> split <;> simp_all))
          refine .go ?_; repeat constructor
          refine EL.move rfl rfl rfl ?_
          refine EL.move rfl rfl rfl ?_
          refine EL.move rfl rfl rfl ?_
          refine EL.move rfl rfl rfl ?_
          refine EL.indexAddrL1 rfl rfl rfl rfl rfl rfl rfl rfl (by omega) ?_
          refine EL.loadR rfl rfl rfl rfl rfl (by repeat constructor) (rowC_get _ ha) ?_
          refine EL.move rfl rfl rfl ?_
          refine EL.ofRV (RV.minI rfl rfl) rfl rfl rfl (by intro c h; cases h) ?_
          refine EL.sub_ (1 - min (a : Int) 1) rfl rfl rfl rfl (wrap_i64 _ (by omega) (by omega)) ?_
          refine EL.ofRV (RV.minI rfl rfl) rfl rfl rfl (by intro c h; cases h) ?_
          refine EL.indexAddrL1 rfl rfl rfl rfl rfl rfl rfl rfl (by omega) ?_
          (refine EL.storeR rfl rfl rfl rfl rfl rfl (by repeat constructor) (by rw [rowC_len]; omega) ?_; refine EL.rowEq (v := .slice (some ⟨g35, 0, none⟩) (s.length + 1) (s.length + 1)) (by repeat constructor) ((congrArg (fun u => (rowC _ _).set a u) hval).trans e1) ?_)
          refine .go ?_; repeat constructor
          exact PX.cutX ⟨g35, s.length + 1, Grow.zero hok⟩ ⟨rfl, rfl, rfl, trivial⟩ (.i (by repeat constructor))
        refine .go ?_; repeat constructor
        refine EL.eqlI rfl rfl rfl rfl ?_
        refine EL.assign rfl rfl rfl ?_
        refine .go ?_; repeat constructor
        refine ES.condD rfl (fun h3 => ?_) (fun h3 => ?_)
        · obtain rfl := kind_3 (show r.kind = 3 by omega)
          have hval : Iv (min ((unitR a a : Nat) : Int) (1 - min ((s.length : Int) - (a : Int)) 1)) = Iv ((if a = s.length then 1 else 0 : Nat) : Int) := congrArg Iv (by rw [unit_at]; split <;> omega)
          have e1 : (rowC (unitR a) s.length).set a (Iv ((if a = s.length then 1 else 0 : Nat) : Int)) = rowC (rowW s .eol a) s.length := (rowC_set _ _ ha).trans (rowC_ext (fun q _ => by
            show (if q = a then (if a = s.length then 1 else 0) else unitR a q) = if a = s.length ∧ q = a then 1 else 0
            unfold unitR
            split <;> split <;> simp_all))
          refine .go ?_; repeat constructor
          refine EL.move rfl rfl rfl ?_
          refine EL.move rfl rfl rfl ?_
          refine EL.move rfl rfl rfl ?_
          refine EL.move rfl rfl rfl ?_
          refine EL.indexAddrL1 rfl rfl rfl rfl rfl rfl rfl rfl (by omega) ?_
          refine EL.loadR rfl rfl rfl rfl rfl (by repeat constructor) (rowC_get _ ha) ?_
          refine EL.move rfl rfl rfl ?_
          refine EL.move rfl rfl rfl ?_
          refine EL.sub_ ((s.length : Int) - (a : Int)) rfl rfl rfl rfl (wrap_i64 _ (by omega) (by omega)) ?_
          refine EL.ofRV (RV.minI rfl rfl) rfl rfl rfl (by intro c h; cases h) ?_
          refine EL.sub_ (1 - min ((s.length : Int) - (a : Int)) 1) rfl rfl rfl rfl (wrap_i64 _ (by omega) (by omega)) ?_
          refine EL.ofRV (RV.minI rfl rfl) rfl rfl rfl (by intro c h; cases h) ?_
          refine EL.indexAddrL1 rfl rfl rfl rfl rfl rfl rfl rfl (by omega) ?_
          (refine EL.storeR rfl rfl rfl rfl rfl rfl (by repeat constructor) (by rw [rowC_len]; omega) ?_; refine EL.rowEq (v := .slice (some ⟨g35, 0, none⟩) (s.length + 1) (s.length + 1)) (by repeat constructor) ((congrArg (fun u => (rowC _ _).set a u) hval).trans e1) ?_)
          refine .go ?_; repeat constructor
          exact PX.cutX ⟨g35, s.length + 1, Grow.zero hok⟩ ⟨rfl, rfl, rfl, trivial⟩ (.i (by repeat constructor))
        refine .go ?_; repeat constructor
        refine EL.eqlI rfl rfl rfl rfl ?_
        refine EL.assign rfl rfl rfl ?_
        refine .go ?_; repeat constructor
        refine ES.condD rfl (fun h6 => ?_) (fun h6 => ?_)
        · obtain ⟨bn, rfl⟩ := kind_6 (show r.kind = 6 by omega)
          refine .go ?_; repeat constructor
          refine EL.move rfl rfl rfl ?_
          refine EL.assign rfl rfl rfl ?_
          refine .go ?_; repeat constructor
          have e0 : rowC (unitR a) s.length = rowC (fun q => if a ≤ q ∧ q < a then 1 else unitR a q) s.length := rowC_ext (fun q _ => (if_neg (by omega)).symm)
          refine ES.loop (σ := Nat) (fun j => a ≤ j ∧ j ≤ s.length + 1) (fun j => [(0, Pv gc 0), (7, Pv g7 0), (10, Iv (s.length : Nat)), (11, .slice (some ⟨g35, 0, none⟩) (s.length + 1) (s.length + 1)), (12, Iv (j : Nat))])
            (fun j => CB gc gm s :: MH gm es :: HA.blk g7 (.cells #[Pv g off, Iv (a : Nat)] 153) :: VR g35 (s.length + 1) s.length (fun q => if a ≤ q ∧ q < j then 1 else unitR a q) :: R) (fun j => s.length + 1 - j) a ⟨Nat.le_refl _, by omega⟩ ⟨rfl, rfl, rfl, rfl, rfl, trivial⟩ (by rw [← VR_eq (g := g35) (cap := s.length + 1) e0]; exact (.i (by repeat constructor))) ?_
          rintro j ⟨hj1, hj2⟩
          refine .go ?_; repeat constructor
          refine EL.move rfl rfl rfl ?_
          refine EL.move rfl rfl rfl ?_
          refine EL.leq rfl rfl rfl rfl ?_
          refine .go ?_; repeat constructor
          refine ES.condD rfl (fun hlt => ?_) (fun hge => ?_)
          · have hjn : j ≤ s.length := by omega
            have e2 : (rowC (fun q => if a ≤ q ∧ q < j then 1 else unitR a q) s.length).set j (Iv 1) = rowC (fun q => if a ≤ q ∧ q < j + 1 then 1 else unitR a q) s.length := (rowC_set _ 1 hjn).trans (rowC_ext (fun q _ => by
              show (if q = j then 1 else if a ≤ q ∧ q < j then 1 else unitR a q) = if a ≤ q ∧ q < j + 1 then 1 else unitR a q
              by_cases e : q = j
              · rw [if_pos e, if_pos (by omega)]
              · rw [if_neg e]
                by_cases e2 : a ≤ q ∧ q < j
                · rw [if_pos e2, if_pos (by omega)]
                · rw [if_neg e2, if_neg (by omega)]))
            refine .go ?_; repeat constructor
            refine EL.move rfl rfl rfl ?_
            refine EL.move rfl rfl rfl ?_
            refine EL.indexAddrL1 rfl rfl rfl rfl rfl rfl rfl rfl (by omega) ?_
            (refine EL.storeR rfl rfl rfl rfl rfl rfl (by repeat constructor) (by rw [rowC_len]; omega) ?_; refine EL.rowEq (v := .slice (some ⟨g35, 0, none⟩) (s.length + 1) (s.length + 1)) (by repeat constructor) e2 ?_)
            refine .go ?_; repeat constructor
            refine EL.move rfl rfl rfl ?_
            refine EL.add1 rfl rfl rfl rfl (by omega) ?_
            refine EL.assign rfl rfl rfl ?_
            refine .go ?_; repeat constructor
            exact PX.loop (j + 1) ⟨by omega, by omega⟩ (by omega) ⟨rfl, rfl, rfl, rfl, rfl, trivial⟩ (.i (by repeat constructor))
          · have e3 : rowC (fun q => if a ≤ q ∧ q < j then 1 else unitR a q) s.length = rowC (rowW s (.back bn) a) s.length := rowC_ext (fun q hq => by
              show (if a ≤ q ∧ q < j then 1 else unitR a q) = if a ≤ q then 1 else 0
              unfold unitR
              by_cases e : a ≤ q
              · rw [if_pos ⟨e, by omega⟩, if_pos e]
              · rw [if_neg (by omega), if_neg (by omega), if_neg e])
            refine .go ?_; repeat constructor
            exact PX.cutX ⟨g35, s.length + 1, Grow.zero hok⟩ ⟨rfl, rfl, rfl, trivial⟩ (by rw [← VR_eq (g := g35) (cap := s.length + 1) e3]; exact (.i (by repeat constructor)))
        refine .go ?_; repeat constructor
        refine EL.eqlI rfl rfl rfl rfl ?_
        refine EL.assign rfl rfl rfl ?_
        refine .go ?_; repeat constructor
        refine ES.condD rfl (fun h5 => ?_) (fun h5 => ?_)
        · obtain ⟨lo, hi, k, rfl⟩ := kind_5 (show r.kind = 5 by omega)
          have hkf := hfine.2.2.2.2
          have hks : k.sz + 1 = (RE.rep lo hi k).sz := by simp [RE.sz]
          have hrep := repeat_c s hs gc gm w0 B lo hi k g off hfine hn (fun g' off' hk => ih k (by omega) hkf s hs gc gm w0 B g' off' hk) g35 (s.length + 1) (unitR a) es (unit_le a) hok
          refine .go ?_; repeat constructor
          refine EL.move rfl rfl rfl ?_
          refine EL.move rfl rfl rfl ?_
          refine EL.move rfl rfl rfl ?_
          (refine EL.callMw rfl rfl rfl ent61 rfl hrep (by repeat constructor) ?_; intro x)
          refine EL.assign rfl rfl rfl ?_
          refine .go ?_; repeat constructor
          have e1 : rowC (repR capW s.length lo hi k.thin (rowW s k) (unitR a)) s.length = rowC (rowW s (.rep lo hi k) a) s.length := rowC_ext (fun q _ => by show _ = rowR capW s (.rep lo hi k) a q; rw [rowR])
          exact PX.cutX ⟨x.g, x.cap, x.G.wide (by omega)⟩ ⟨rfl, rfl, rfl, trivial⟩ (by rw [← VR_eq (g := x.g) (cap := x.cap) e1]; exact (.i (by repeat constructor)))
        have hk04 : r.kind = 0 ∨ r.kind = 4 := by have := kind_le r; omega
        have hcat := rowW_cat s r a hk04
        refine .go ?_; repeat constructor
        refine EL.move rfl rfl rfl ?_
        refine EL.nilCheck rfl rfl rfl ?_
        refine EL.fieldAddr rfl rfl rfl rfl rfl rfl rfl rfl ?_
        refine EL.loadOld rfl rfl rfl rfl rfl hrd rfl ?_
        refine EL.lenL rfl rfl rfl rfl rfl ?_
        refine EL.move rfl rfl rfl ?_
        refine .go ?_; repeat constructor
        refine ES.loop (σ := KSt w0 B s es b) (fun x => x.i ≤ r.kids.length ∧ (∀ q, x.v q ≤ 4097) ∧ catR capW s (r.kids.drop x.i) x.v = rowW s r a) (fun x => [(0, Pv gc 0), (1, Pv g off), (7, Pv g7 0), (11, .slice (some ⟨x.g, 0, none⟩) (s.length + 1) x.cap), (47, Iv (r.kids.length : Nat)), (48, Iv (x.i : Nat))])
          (fun x => CB gc gm s :: MH gm x.G.es' :: HA.blk g7 (.cells #[Pv g off, Iv (a : Nat)] 153) :: VR x.g x.cap s.length x.v :: R) (fun x => r.kids.length - x.i) ⟨0, g35, s.length + 1, unitR a, Grow.zero hok⟩ ⟨Nat.zero_le _, unit_le a, by rw [List.drop_zero]; exact hcat.symm⟩ ⟨rfl, rfl, rfl, rfl, rfl, rfl, trivial⟩ (.i (by repeat constructor)) ?_
        rintro ⟨i, ig, icap, iv, G⟩ ⟨hi1, hi2, hi3⟩
        dsimp only at hi1 hi2 hi3 ⊢
        refine .go ?_; repeat constructor
        refine EL.lss rfl rfl rfl rfl ?_
        refine .go ?_; repeat constructor
        refine ES.condD rfl (fun hlt => ?_) (fun hge => ?_)
        · have hlt' : i < r.kids.length := by omega
          obtain ⟨kg, ko, rfl, hk⟩ := hkids (by intro e; rw [e] at hlt'; simp at hlt')
          obtain ⟨k, hki⟩ : ∃ k, r.kids[i]? = some k := ⟨_, List.getElem?_eq_getElem hlt'⟩
          have hkn := hk i k hki
          have hmem := List.mem_of_getElem? hki
          have hks := kids_lt hmem
          have hthr := through_c s hs gc gm w0 B k kg (ko + i * 9) (ih k (by omega) (fine_kid hfine hmem) s hs gc gm w0 B kg (ko + i * 9) hkn) ig icap iv false G.es' hi2 G.ok
          refine .go ?_; repeat constructor
          refine EL.move rfl rfl rfl ?_
          refine EL.assign rfl rfl rfl ?_
          refine .go ?_; repeat constructor
          refine EL.move rfl rfl rfl ?_
          refine EL.move rfl rfl rfl ?_
          refine EL.move rfl rfl rfl ?_
          refine EL.nilCheck rfl rfl rfl ?_
          refine EL.fieldAddr rfl rfl rfl rfl rfl rfl rfl rfl ?_
          refine EL.loadOld rfl rfl rfl rfl rfl hrd rfl ?_
          refine EL.move rfl rfl rfl ?_
          refine EL.indexAddrL rfl rfl rfl rfl rfl rfl rfl (by omega) ?_
          (refine EL.callMw rfl rfl rfl ent62 rfl hthr (by repeat constructor) ?_; intro x)
          refine EL.assign rfl rfl rfl ?_
          refine .go ?_; repeat constructor
          refine EL.add1 rfl rfl rfl rfl (by omega) ?_
          refine EL.move rfl rfl rfl ?_
          refine .go ?_; repeat constructor
          refine PX.loop ⟨i + 1, x.g, x.cap, thrR capW s.length (rowW s k) iv false, G.trans x.G (by omega)⟩ ⟨hlt', fun q => thr_le _ _ _ _ _, ?_⟩ (by simp only; omega) ⟨rfl, rfl, rfl, rfl, rfl, rfl, trivial⟩ (.i (by repeat constructor))
          dsimp only
          rw [List.drop_eq_getElem_cons hlt', catR] at hi3
          rw [show r.kids[i] = k from (List.getElem?_eq_some_iff.1 hki).2] at hi3
          exact hi3
        · obtain rfl : i = r.kids.length := by omega
          rw [List.drop_length, catR] at hi3
          subst hi3
          refine .go ?_; repeat constructor
          exact PX.cutX ⟨ig, icap, G⟩ ⟨rfl, rfl, rfl, trivial⟩ (.i (by repeat constructor))
      · have hnew := memo_new hn x.G (by omega) hmg
        have hent : EntOk w0 B s ⟨⟨g, off, [(a : Int)]⟩, .slice (some ⟨x.g, 0, none⟩) (s.length + 1) x.cap, rowC (rowW s r a) s.length⟩ r a := ⟨hn, rfl, ha, ⟨_, _, rfl⟩, rfl⟩
        have hok2 : MemoOk w0 B s (x.G.es' ++ [⟨⟨g, off, [(a : Int)]⟩, .slice (some ⟨x.g, 0, none⟩) (s.length + 1) x.cap, rowC (rowW s r a) s.length⟩]) := fun m hm => by
          rcases List.mem_append.1 hm with hm | hm
          · exact x.G.ok m hm
          · rw [List.mem_singleton] at hm; subst hm; exact ⟨r, a, hent⟩
        let G2 : Grow w0 B s es r.sz := ⟨x.G.es' ++ [⟨⟨g, off, [(a : Int)]⟩, .slice (some ⟨x.g, 0, none⟩) (s.length + 1) x.cap, rowC (rowW s r a) s.length⟩], x.G.new ++ [⟨⟨g, off, [(a : Int)]⟩, .slice (some ⟨x.g, 0, none⟩) (s.length + 1) x.cap, rowC (rowW s r a) s.length⟩], by rw [x.G.eq, List.append_assoc], hok2, fun m hm => by
          rcases List.mem_append.1 hm with hm | hm
          · obtain ⟨r', a', h1, h2⟩ := x.G.small m hm
            exact ⟨r', a', h1, by omega⟩
          · rw [List.mem_singleton] at hm; subst hm; exact ⟨r, a, hent, Nat.le_refl _⟩⟩
        refine .g0 ?_; repeat constructor
        refine ES.drawG (X := Unit) (fun _ => [(11, .slice (some ⟨x.g, 0, none⟩) (s.length + 1) x.cap)]) (fun _ => CB gc gm s :: MH gm G2.es' :: R) 6 (CB gc gm s :: HA.blk g7 (.cells #[Pv g off, Iv (a : Nat)] 153) :: R) mixed (by decide +kernel) (.i (by repeat constructor)) ?_ (fun _ => ?_)
        · refine EG.take 0 rfl (by decide +kernel) CutX.no_panic (by decide +kernel) rfl rfl rfl (RV.move rfl) ?_
          refine EG.take 1 rfl (by decide +kernel) CutX.no_panic (by decide +kernel) rfl rfl rfl (RV.nilCheck rfl) ?_
          refine EG.take 2 rfl (by decide +kernel) CutX.no_panic (by decide +kernel) rfl rfl rfl (RV.fieldAddr rfl rfl rfl rfl rfl rfl) ?_
          refine EG.take 3 rfl (by decide +kernel) CutX.no_panic (by decide +kernel) rfl rfl rfl (RV.loadB rfl rfl rfl (by repeat constructor) rfl) ?_
          refine EG.take 4 rfl (by decide +kernel) CutX.no_panic (by decide +kernel) rfl rfl rfl (RV.loadAggB rfl rfl rfl (by repeat constructor) rfl) ?_
          refine EG.take 5 rfl (by decide +kernel) CutX.no_panic (by decide +kernel) rfl rfl rfl (RV.move rfl) ?_
          refine EG.loud 6 rfl (by decide +kernel) ?_
          refine EL.mapSet (k := ⟨g, off, [(a : Int)]⟩) (n := 1) rfl rfl rfl rfl rfl rfl keyW rfl (memo_len x.G.ok) (fun w hs => ⟨PlainAt.of_node hn hs, memo_plain x.G.ok hs⟩) hnew (by repeat constructor) (rowC_len _ _).symm ?_
          refine EG.nextL (by decide +kernel) rfl (by decide +kernel) ?_
          refine EG.done (by decide +kernel) ?_
          exact PX.cutX () ⟨rfl, trivial⟩ (.i (by repeat constructor))
        refine .go ?_; repeat constructor
        refine EL.move rfl rfl rfl ?_
        refine EL.assign rfl rfl rfl ?_
        refine .go ?_; repeat constructor
        exact PX.ret rfl Try.results41 (.cons (.tmp rfl) .nil) (fun w hs => ⟨⟨G2, _, List.mem_append_right _ List.mem_cons_self, hent⟩, rfl, hs.ent (.i (by repeat constructor))⟩)
end Go.Proofs.Ytblpgpgbnlhjlaa
