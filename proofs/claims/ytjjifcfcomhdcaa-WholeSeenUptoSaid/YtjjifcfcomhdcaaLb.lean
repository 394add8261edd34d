/- Layer 16 (listing): the lines of a text; the iterator All; Lines; the document's Lines. -/
import Derived.Test.YtjjifcfcomhdcaaLa
namespace Go.Proofs.Ytjjifcfcomhdcaa
open Go Go.RowKit Sl
set_option maxRecDepth 100000
set_option maxHeartbeats 8000000
set_option linter.unusedVariables false
set_option linter.unusedSimpArgs false
attribute [local irreducible] ES EL PX wps

def stepL (s : LL × List UInt8) (b : UInt8) : LL × List UInt8 := if 69 < s.2.length + (escM b).length then (s.1 ++ [s.2 ++ [92]], escM b) else (s.1, s.2 ++ escM b)
def foldL (t : List UInt8) : LL × List UInt8 := t.foldl stepL ([], [])
def linesM (t : List UInt8) : LL := (foldL t).1 ++ [(foldL t).2 ++ [36]]
theorem foldL_step (t : List UInt8) (i : Nat) (h : i < t.length) : foldL (t.take (i + 1)) = stepL (foldL (t.take i)) (t.getD i 0) := by
  rw [take_snoc t i 0 h]; simp [foldL, List.foldl_append]
theorem escN_len : ∀ n : Fin 256, 1 ≤ (escN n.val).length ∧ (escN n.val).length ≤ 4 := by decide +kernel
theorem escM_len (b : UInt8) : 1 ≤ (escM b).length ∧ (escM b).length ≤ 4 := by
  have := escN_len ⟨b.toNat, b.toNat_lt⟩
  simpa [escM] using this
theorem fold_pre : ∀ (l : List UInt8) (s : LL × List UInt8), s.1 <+: (l.foldl stepL s).1
  | [], s => List.prefix_refl _
  | b :: l, s => by
    refine List.IsPrefix.trans ?_ (fold_pre l _)
    unfold stepL
    split
    · exact List.prefix_append _ _
    · exact List.prefix_refl _
theorem fold_line : ∀ (l : List UInt8) (s : LL × List UInt8), s.2.length ≤ 69 → (l.foldl stepL s).2.length ≤ 69
  | [], s, h => h
  | b :: l, s, h => by
    refine fold_line l _ ?_
    have := escM_len b
    unfold stepL
    split
    · simp only; omega
    · simp only [List.length_append]; omega
theorem fold_count : ∀ (l : List UInt8) (s : LL × List UInt8), (l.foldl stepL s).1.length ≤ s.1.length + l.length
  | [], s => Nat.le_refl _
  | b :: l, s => by
    have := fold_count l (stepL s b)
    rw [List.foldl_cons]
    refine Nat.le_trans this ?_
    unfold stepL
    split
    · simp only [List.length_append, List.length_cons, List.length_nil]; omega
    · simp only [List.length_cons]; omega
theorem foldL_line (t : List UInt8) : (foldL t).2.length ≤ 69 := fold_line t _ (by simp)
theorem foldL_count (t : List UInt8) : (foldL t).1.length ≤ t.length := by have := fold_count t ([], []); simpa [foldL] using this
theorem foldL_pre (t : List UInt8) (i : Nat) : (foldL (t.take i)).1 <+: (foldL t).1 := by
  have := fold_pre (t.drop i) (foldL (t.take i))
  unfold foldL at *
  rwa [← List.foldl_append, List.take_append_drop] at this
/-- Where a line is told. -/
theorem lines_at (t : List UInt8) (i : Nat) (h : i < t.length) (hgt : 69 < (foldL (t.take i)).2.length + (escM (t.getD i 0)).length) :
    (linesM t)[(foldL (t.take i)).1.length]? = some ((foldL (t.take i)).2 ++ [92]) := by
  obtain ⟨r, hr⟩ := foldL_pre t (i + 1)
  rw [foldL_step t i h, stepL, if_pos hgt] at hr
  simp only at hr
  unfold linesM
  rw [← hr, List.append_assoc, List.append_assoc, List.getElem?_append_right (Nat.le_refl _), Nat.sub_self]
  rfl
theorem lines_last (t : List UInt8) : (linesM t)[(foldL t).1.length]? = some ((foldL t).2 ++ [36]) := by
  unfold linesM
  rw [List.getElem?_append_right (Nat.le_refl _), Nat.sub_self]
  rfl
abbrev yl (t : List UInt8) : List (List Value) := (linesM t).map fun l => [Sv l]
theorem yl_at {t : List UInt8} {i : Nat} {l : List UInt8} (h : (linesM t)[i]? = some l) : (yl t)[i]? = some [Sv l] := by
  rw [List.getElem?_map, h]; rfl
theorem all1_iter (gc : Nat) (t : List UInt8) (ht : t.length ≤ 140737488351232) (W0 : World) (B0 : Nat) : Iter Try.prog 28 #[Pv gc 0] (yl t) [HA.blk gc (.cells #[Sv t] 9)] W0 B0 := by
  intro l I Ix hY A R W hI hs
  replace hs : Sat W0 B0 (HA.blk gc (.cells #[Sv t] 9) :: A :: R) W := hs
  refine calls_of_ES TB Try.func28 rfl _ Try.ntmps28 rfl hs ?_
  repeat (first | apply ES.seq | apply ES.skip | apply ES.region | apply EL.nil | apply ES.block | apply ES.nil | apply ES.exit | apply ES.ret | apply PX.hit | (apply PX.miss; exact rfl) | apply PX.then_x | apply PX.then_r | apply PX.block_n | apply PX.block_r | refine PX.then_n (e := .normal) ?_)
  (refine EL.alloc rfl rfl rfl ?_; intro g3)
  repeat (first | apply ES.seq | apply ES.skip | apply ES.region | apply EL.nil | apply ES.block | apply ES.nil | apply ES.exit | apply ES.ret | apply PX.hit | (apply PX.miss; exact rfl) | apply PX.then_x | apply PX.then_r | apply PX.block_n | apply PX.block_r | refine PX.then_n (e := .normal) ?_)
  (apply EL.loadB; exact rfl; exact rfl; exact rfl; exact rfl; exact rfl; (case hm => (repeat (first | exact Mem.here _ _ | apply Mem.there))); exact rfl)
  refine EL.lenS rfl rfl rfl rfl rfl ?_
  refine EL.move rfl rfl rfl ?_
  repeat (first | apply ES.seq | apply ES.skip | apply ES.region | apply EL.nil | apply ES.block | apply ES.nil | apply ES.exit | apply ES.ret | apply PX.hit | (apply PX.miss; exact rfl) | apply PX.then_x | apply PX.then_r | apply PX.block_n | apply PX.block_r | refine PX.then_n (e := .normal) ?_)
  refine ES.nilBuf 5 ?_
  refine ES.loop (σ := Nat × Bool × Option Addr × Nat × HA) (fun (i, u, ad, cap, A) => i ≤ t.length ∧ I (foldL (t.take i)).1.length A) (fun (i, u, ad, cap, A) => [(0, .func (.yield l) #[] #[]), (1, Pv gc 0), (3, Pv g3 0), (7, Iv t.length), (8, Iv i)])
    (fun (i, u, ad, cap, A) => HA.blk g3 (.cells #[.pointer (if u then some ⟨g3, 0, none⟩ else none), .slice ad (foldL (t.take i)).2.length cap] 52) :: HA.buf (.slice ad (foldL (t.take i)).2.length cap) 5 (foldL (t.take i)).2.length ((foldL (t.take i)).2.map Uv) :: HA.blk gc (.cells #[Sv t] 9) :: A :: R) (fun (i, _) => t.length - i) (0, false, none, 0, A) ⟨Nat.zero_le _, hI⟩ ⟨rfl, rfl, rfl, rfl, rfl, trivial⟩ (by repeat (first | exact Ent.nil _ | exact Ent.refl _ | (apply Ent.cons; case p => repeat (first | exact Pick.here _ _ | apply Pick.there)) | apply Ent.drop)) ?_
  rintro ⟨i, u, ad, cap, A⟩ ⟨hi, hI⟩
  dsimp only at hi hI ⊢
  have hline := foldL_line (t.take i)
  repeat (first | apply ES.seq | apply ES.skip | apply ES.region | apply EL.nil | apply ES.block | apply ES.nil | apply ES.exit | apply ES.ret | apply PX.hit | (apply PX.miss; exact rfl) | apply PX.then_x | apply PX.then_r | apply PX.block_n | apply PX.block_r | refine PX.then_n (e := .normal) ?_)
  refine EL.lss rfl rfl rfl rfl ?_
  repeat (first | apply ES.seq | apply ES.skip | apply ES.region | apply EL.nil | apply ES.block | apply ES.nil | apply ES.exit | apply ES.ret | apply PX.hit | (apply PX.miss; exact rfl) | apply PX.then_x | apply PX.then_r | apply PX.block_n | apply PX.block_r | refine PX.then_n (e := .normal) ?_)
  refine ES.condD rfl (fun hlt => ?_) (fun hge => ?_)
  · have hlt' : i < t.length := by omega
    have hel := escM_len (t.getD i 0)
    have hst := foldL_step t i hlt'
    have hat := lines_at t i hlt'
    obtain ⟨s, hs⟩ : ∃ s, s = foldL (t.take i) := ⟨_, rfl⟩
    obtain ⟨e, he⟩ : ∃ e, e = escM (t.getD i 0) := ⟨_, rfl⟩
    have hc := esc_c (t.getD i 0)
    rw [← he] at hc
    rw [← hs] at hst hI hat hline
    rw [← he] at hel hat
    rw [← hs]
    unfold stepL at hst
    rw [← he] at hst
    repeat (first | apply ES.seq | apply ES.skip | apply ES.region | apply EL.nil | apply ES.block | apply ES.nil | apply ES.exit | apply ES.ret | apply PX.hit | (apply PX.miss; exact rfl) | apply PX.then_x | apply PX.then_r | apply PX.block_n | apply PX.block_r | refine PX.then_n (e := .normal) ?_)
    refine EL.move rfl rfl rfl ?_
    refine EL.assign rfl rfl rfl ?_
    repeat (first | apply ES.seq | apply ES.skip | apply ES.region | apply EL.nil | apply ES.block | apply ES.nil | apply ES.exit | apply ES.ret | apply PX.hit | (apply PX.miss; exact rfl) | apply PX.then_x | apply PX.then_r | apply PX.block_n | apply PX.block_r | refine PX.then_n (e := .normal) ?_)
    (apply EL.loadB; exact rfl; exact rfl; exact rfl; exact rfl; exact rfl; (case hm => (repeat (first | exact Mem.here _ _ | apply Mem.there))); exact rfl)
    refine EL.move rfl rfl rfl ?_
    refine EL.indexSN rfl rfl rfl rfl rfl rfl (by omega) ?_
    refine EL.callP rfl rfl rfl ent12 rfl hc ?_
    refine EL.assign rfl rfl rfl ?_
    repeat (first | apply ES.seq | apply ES.skip | apply ES.region | apply EL.nil | apply ES.block | apply ES.nil | apply ES.exit | apply ES.ret | apply PX.hit | (apply PX.miss; exact rfl) | apply PX.then_x | apply PX.then_r | apply PX.block_n | apply PX.block_r | refine PX.then_n (e := .normal) ?_)
    refine EL.callM1 rfl rfl rfl ent29 rfl (blen_c g3 u ad cap s.2) (by repeat (first | exact Takes.nil _ | (apply Takes.cons; case p => repeat (first | exact Pick.here _ _ | apply Pick.there)))) ?_
    refine EL.move rfl rfl rfl ?_
    refine EL.lenS rfl rfl rfl rfl rfl ?_
    refine EL.addN rfl rfl rfl rfl rfl (by omega) ?_
    refine EL.gtr rfl rfl rfl rfl ?_
    repeat (first | apply ES.seq | apply ES.skip | apply ES.region | apply EL.nil | apply ES.block | apply ES.nil | apply ES.exit | apply ES.ret | apply PX.hit | (apply PX.miss; exact rfl) | apply PX.then_x | apply PX.then_r | apply PX.block_n | apply PX.block_r | refine PX.then_n (e := .normal) ?_)
    refine ES.condD rfl (fun hgt => ?_) (fun hle => ?_)
    · have hx := yl_at (hat (by omega))
      rw [if_pos (by omega)] at hst
      repeat (first | apply ES.seq | apply ES.skip | apply ES.region | apply EL.nil | apply ES.block | apply ES.nil | apply ES.exit | apply ES.ret | apply PX.hit | (apply PX.miss; exact rfl) | apply PX.then_x | apply PX.then_r | apply PX.block_n | apply PX.block_r | refine PX.then_n (e := .normal) ?_)
      refine EL.move rfl rfl rfl ?_
      refine EL.callM1 rfl rfl rfl ent26 rfl (bstring_c g3 u ad cap s.2 (by omega)) (by repeat (first | exact Takes.nil _ | (apply Takes.cons; case p => repeat (first | exact Pick.here _ _ | apply Pick.there)))) ?_
      refine EL.cat rfl rfl rfl rfl (by first | omega | (simp only [List.length_cons, List.length_nil]; omega)) ?_
      refine EL.yield rfl rfl rfl rfl hY hI hx (by repeat (first | exact Pick.here _ _ | apply Pick.there)) (fun A' hI' => ?_) (fun A' hX' => ?_)
      · refine EL.not rfl rfl rfl ?_
        repeat (first | apply ES.seq | apply ES.skip | apply ES.region | apply EL.nil | apply ES.block | apply ES.nil | apply ES.exit | apply ES.ret | apply PX.hit | (apply PX.miss; exact rfl) | apply PX.then_x | apply PX.then_r | apply PX.block_n | apply PX.block_r | refine PX.then_n (e := .normal) ?_)
        refine ES.condF rfl ?_
        repeat (first | apply ES.seq | apply ES.skip | apply ES.region | apply EL.nil | apply ES.block | apply ES.nil | apply ES.exit | apply ES.ret | apply PX.hit | (apply PX.miss; exact rfl) | apply PX.then_x | apply PX.then_r | apply PX.block_n | apply PX.block_r | refine PX.then_n (e := .normal) ?_)
        refine EL.callM1 rfl rfl rfl ent30 rfl (breset_c g3 u ad cap s.2) (by repeat (first | exact Takes.nil _ | (apply Takes.cons; case p => repeat (first | exact Pick.here _ _ | apply Pick.there)))) ?_
        repeat (first | apply ES.seq | apply ES.skip | apply ES.region | apply EL.nil | apply ES.block | apply ES.nil | apply ES.exit | apply ES.ret | apply PX.hit | (apply PX.miss; exact rfl) | apply PX.then_x | apply PX.then_r | apply PX.block_n | apply PX.block_r | refine PX.then_n (e := .normal) ?_)
        refine EL.move rfl rfl rfl ?_
        (refine EL.callM rfl rfl rfl ent24 rfl (writeString_c g3 false none 0 [] e (by simp; omega)) (by repeat (first | exact Takes.nil _ | (apply Takes.cons; case p => repeat (first | exact Pick.here _ _ | apply Pick.there)))) ?_; rintro ⟨ad2, cap2⟩)
        repeat (first | apply ES.seq | apply ES.skip | apply ES.region | apply EL.nil | apply ES.block | apply ES.nil | apply ES.exit | apply ES.ret | apply PX.hit | (apply PX.miss; exact rfl) | apply PX.then_x | apply PX.then_r | apply PX.block_n | apply PX.block_r | refine PX.then_n (e := .normal) ?_)
        repeat (first | apply ES.seq | apply ES.skip | apply ES.region | apply EL.nil | apply ES.block | apply ES.nil | apply ES.exit | apply ES.ret | apply PX.hit | (apply PX.miss; exact rfl) | apply PX.then_x | apply PX.then_r | apply PX.block_n | apply PX.block_r | refine PX.then_n (e := .normal) ?_)
        refine EL.add1 rfl rfl rfl rfl (by omega) ?_
        refine EL.move rfl rfl rfl ?_
        repeat (first | apply ES.seq | apply ES.skip | apply ES.region | apply EL.nil | apply ES.block | apply ES.nil | apply ES.exit | apply ES.ret | apply PX.hit | (apply PX.miss; exact rfl) | apply PX.then_x | apply PX.then_r | apply PX.block_n | apply PX.block_r | refine PX.then_n (e := .normal) ?_)
        refine PX.loop (i + 1, true, ad2, cap2, A') ⟨by simp only; omega, by simp only; rw [hst]; simpa using hI'⟩ (by simp only; omega) ⟨rfl, rfl, rfl, rfl, rfl, trivial⟩ ?_
        dsimp only
        rw [hst]
        exact (by repeat (first | exact Ent.nil _ | exact Ent.refl _ | (apply Ent.cons; case p => repeat (first | exact Pick.here _ _ | apply Pick.there)) | apply Ent.drop))
      · refine EL.not rfl rfl rfl ?_
        repeat (first | apply ES.seq | apply ES.skip | apply ES.region | apply EL.nil | apply ES.block | apply ES.nil | apply ES.exit | apply ES.ret | apply PX.hit | (apply PX.miss; exact rfl) | apply PX.then_x | apply PX.then_r | apply PX.block_n | apply PX.block_r | refine PX.then_n (e := .normal) ?_)
        refine ES.condT rfl ?_
        repeat (first | apply ES.seq | apply ES.skip | apply ES.region | apply EL.nil | apply ES.block | apply ES.nil | apply ES.exit | apply ES.ret | apply PX.hit | (apply PX.miss; exact rfl) | apply PX.then_x | apply PX.then_r | apply PX.block_n | apply PX.block_r | refine PX.then_n (e := .normal) ?_)
        exact PX.ret rfl Try.results28 .nil (fun w hs => ⟨⟨_, rfl⟩, .inr ⟨_, A', hX', hs.ent (by repeat (first | exact Ent.nil _ | exact Ent.refl _ | (apply Ent.cons; case p => repeat (first | exact Pick.here _ _ | apply Pick.there)) | apply Ent.drop))⟩⟩)
    · rw [if_neg (by omega)] at hst
      repeat (first | apply ES.seq | apply ES.skip | apply ES.region | apply EL.nil | apply ES.block | apply ES.nil | apply ES.exit | apply ES.ret | apply PX.hit | (apply PX.miss; exact rfl) | apply PX.then_x | apply PX.then_r | apply PX.block_n | apply PX.block_r | refine PX.then_n (e := .normal) ?_)
      refine EL.move rfl rfl rfl ?_
      (refine EL.callM rfl rfl rfl ent24 rfl (writeString_c g3 u ad cap s.2 e (by omega)) (by repeat (first | exact Takes.nil _ | (apply Takes.cons; case p => repeat (first | exact Pick.here _ _ | apply Pick.there)))) ?_; rintro ⟨ad2, cap2⟩)
      repeat (first | apply ES.seq | apply ES.skip | apply ES.region | apply EL.nil | apply ES.block | apply ES.nil | apply ES.exit | apply ES.ret | apply PX.hit | (apply PX.miss; exact rfl) | apply PX.then_x | apply PX.then_r | apply PX.block_n | apply PX.block_r | refine PX.then_n (e := .normal) ?_)
      repeat (first | apply ES.seq | apply ES.skip | apply ES.region | apply EL.nil | apply ES.block | apply ES.nil | apply ES.exit | apply ES.ret | apply PX.hit | (apply PX.miss; exact rfl) | apply PX.then_x | apply PX.then_r | apply PX.block_n | apply PX.block_r | refine PX.then_n (e := .normal) ?_)
      refine EL.add1 rfl rfl rfl rfl (by omega) ?_
      refine EL.move rfl rfl rfl ?_
      repeat (first | apply ES.seq | apply ES.skip | apply ES.region | apply EL.nil | apply ES.block | apply ES.nil | apply ES.exit | apply ES.ret | apply PX.hit | (apply PX.miss; exact rfl) | apply PX.then_x | apply PX.then_r | apply PX.block_n | apply PX.block_r | refine PX.then_n (e := .normal) ?_)
      refine PX.loop (i + 1, true, ad2, cap2, A) ⟨by simp only; omega, by simp only; rw [hst]; exact hI⟩ (by simp only; omega) ⟨rfl, rfl, rfl, rfl, rfl, trivial⟩ ?_
      dsimp only
      rw [hst]
      exact (by repeat (first | exact Ent.nil _ | exact Ent.refl _ | (apply Ent.cons; case p => repeat (first | exact Pick.here _ _ | apply Pick.there)) | apply Ent.drop))
  · obtain rfl : i = t.length := by omega
    rw [List.take_length] at hI hline ⊢
    have hx := yl_at (lines_last t)
    have hlen : (yl t).length = (foldL t).1.length + 1 := by simp [linesM]
    repeat (first | apply ES.seq | apply ES.skip | apply ES.region | apply EL.nil | apply ES.block | apply ES.nil | apply ES.exit | apply ES.ret | apply PX.hit | (apply PX.miss; exact rfl) | apply PX.then_x | apply PX.then_r | apply PX.block_n | apply PX.block_r | refine PX.then_n (e := .normal) ?_)
    refine EL.move rfl rfl rfl ?_
    refine EL.callM1 rfl rfl rfl ent26 rfl (bstring_c g3 u ad cap (foldL t).2 (by omega)) (by repeat (first | exact Takes.nil _ | (apply Takes.cons; case p => repeat (first | exact Pick.here _ _ | apply Pick.there)))) ?_
    refine EL.cat rfl rfl rfl rfl (by first | omega | (simp only [List.length_cons, List.length_nil]; omega)) ?_
    refine EL.yield rfl rfl rfl rfl hY hI hx (by repeat (first | exact Pick.here _ _ | apply Pick.there)) (fun A' hI' => ?_) (fun A' hX' => ?_)
    · repeat (first | apply ES.seq | apply ES.skip | apply ES.region | apply EL.nil | apply ES.block | apply ES.nil | apply ES.exit | apply ES.ret | apply PX.hit | (apply PX.miss; exact rfl) | apply PX.then_x | apply PX.then_r | apply PX.block_n | apply PX.block_r | refine PX.then_n (e := .normal) ?_)
      exact PX.end rfl Try.results28 .nil (fun w hs => ⟨⟨_, rfl⟩, .inl ⟨A', by rw [hlen]; exact hI', hs.ent (by repeat (first | exact Ent.nil _ | exact Ent.refl _ | (apply Ent.cons; case p => repeat (first | exact Pick.here _ _ | apply Pick.there)) | apply Ent.drop))⟩⟩)
    · repeat (first | apply ES.seq | apply ES.skip | apply ES.region | apply EL.nil | apply ES.block | apply ES.nil | apply ES.exit | apply ES.ret | apply PX.hit | (apply PX.miss; exact rfl) | apply PX.then_x | apply PX.then_r | apply PX.block_n | apply PX.block_r | refine PX.then_n (e := .normal) ?_)
      exact PX.end rfl Try.results28 .nil (fun w hs => ⟨⟨_, rfl⟩, .inr ⟨_, A', hX', hs.ent (by repeat (first | exact Ent.nil _ | exact Ent.refl _ | (apply Ent.cons; case p => repeat (first | exact Pick.here _ _ | apply Pick.there)) | apply Ent.drop))⟩⟩)
end Go.Proofs.Ytjjifcfcomhdcaa
