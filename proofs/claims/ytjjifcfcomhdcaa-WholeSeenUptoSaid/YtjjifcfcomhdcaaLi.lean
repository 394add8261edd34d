/- Layer 16 (listing): the laws ListingJoins, ListingBack. -/
import Derived.Test.YtjjifcfcomhdcaaLh
namespace Go.Proofs.Ytjjifcfcomhdcaa
open Go.ChangeShapes Go.WideShapes Go.ChangeAt
open Go Go.RowKit Sl
set_option maxRecDepth 100000
set_option maxHeartbeats 8000000
set_option linter.unusedVariables false
set_option linter.unusedSimpArgs false
attribute [local irreducible] ES EL PX wps

theorem escN_print : ∀ n : Fin 256, ((escN n.val).all fun k => decide (32 ≤ k ∧ k ≤ 126)) = true := by decide +kernel
theorem escM_print (b c : UInt8) (h : c ∈ escM b) : 32 ≤ c.toNat ∧ c.toNat ≤ 126 := by
  obtain ⟨k, hk, rfl⟩ := List.mem_map.1 h
  have := List.all_eq_true.1 (escN_print ⟨b.toNat, b.toNat_lt⟩) k hk
  have h2 := of_decide_eq_true this
  have h3 : (UInt8.ofNat k).toNat = k := by simp; omega
  rw [h3]; exact h2
def GoodL (l : List UInt8) : Prop := 67 ≤ l.length ∧ l.length ≤ 70 ∧ (∀ c ∈ l, 32 ≤ c.toNat ∧ c.toNat ≤ 126) ∧ ∃ y, l = y ++ [92]
theorem fold_good : ∀ (l : List UInt8) (s : LL × List UInt8), (∀ x ∈ s.1, GoodL x) → s.2.length ≤ 69 → (∀ c ∈ s.2, 32 ≤ c.toNat ∧ c.toNat ≤ 126) → (∀ x ∈ (l.foldl stepL s).1, GoodL x) ∧ (∀ c ∈ (l.foldl stepL s).2, 32 ≤ c.toNat ∧ c.toNat ≤ 126)
  | [], s, h1, _, h3 => ⟨h1, h3⟩
  | b :: l, s, h1, h2, h3 => by
    have he := escM_len b
    refine fold_good l _ ?_ ?_ ?_
    · unfold stepL
      split
      · intro x hx
        rcases List.mem_append.1 hx with hx | hx
        · exact h1 x hx
        · obtain rfl : x = s.2 ++ [92] := by simpa using hx
          refine ⟨by simp; omega, by simp; omega, fun c hc => ?_, _, rfl⟩
          rcases List.mem_append.1 hc with hc | hc
          · exact h3 c hc
          · obtain rfl : c = 92 := by simpa using hc
            decide
      · exact h1
    · unfold stepL
      split
      · simp only; omega
      · simp only [List.length_append]; omega
    · unfold stepL
      split
      · exact fun c hc => escM_print b c hc
      · intro c hc
        rcases List.mem_append.1 hc with hc | hc
        · exact h3 c hc
        · exact escM_print b c hc
theorem foldL_good (t : List UInt8) : (∀ x ∈ (foldL t).1, GoodL x) ∧ (∀ c ∈ (foldL t).2, 32 ≤ c.toNat ∧ c.toNat ≤ 126) := fold_good t ([], []) (by simp) (by simp) (by simp)
structure LineAt (t : List UInt8) (i : Nat) (l : List UInt8) : Prop where
  pos : 1 ≤ l.length
  le : l.length ≤ 70
  pr : ∀ c ∈ l, 32 ≤ c.toNat ∧ c.toNat ≤ 126
  last : i + 1 = (linesM t).length → l.getD (l.length - 1) 0 = 36
  more : i + 1 ≠ (linesM t).length → l.getD (l.length - 1) 0 = 92 ∧ 67 ≤ l.length
theorem getD_last (y : List UInt8) (c : UInt8) : (y ++ [c]).getD ((y ++ [c]).length - 1) 0 = c := by
  rw [List.length_append, List.length_singleton, Nat.add_sub_cancel, List.getD_eq_getElem?_getD, List.getElem?_append_right (Nat.le_refl _), Nat.sub_self]; rfl
theorem line_at (t : List UInt8) (i : Nat) (h : i < (linesM t).length) : LineAt t i ((linesM t).getD i []) := by
  have hlen : (linesM t).length = (foldL t).1.length + 1 := by simp [linesM]
  have hg := foldL_good t
  have hline := foldL_line t
  rcases Nat.lt_or_ge i (foldL t).1.length with hlt | hge
  · have he : (linesM t).getD i [] = (foldL t).1.getD i [] := by
      unfold linesM
      rw [List.getD_eq_getElem?_getD, List.getElem?_append_left hlt, ← List.getD_eq_getElem?_getD]
    have hm : (foldL t).1.getD i [] ∈ (foldL t).1 := by rw [List.getD_eq_getElem?_getD, List.getElem?_eq_getElem hlt]; exact List.getElem_mem hlt
    obtain ⟨g1, g2, g3, y, g4⟩ := hg.1 _ hm
    rw [he]
    refine ⟨by omega, g2, g3, fun h => by omega, fun _ => ⟨?_, g1⟩⟩
    rw [g4]; exact getD_last _ _
  · have hi : i = (foldL t).1.length := by omega
    have he : (linesM t).getD i [] = (foldL t).2 ++ [36] := by rw [hi, List.getD_eq_getElem?_getD, lines_last]; rfl
    rw [he]
    refine ⟨by simp, by simp; omega, fun c hc => ?_, fun _ => getD_last _ _, fun h => by omega⟩
    rcases List.mem_append.1 hc with hc | hc
    · exact hg.2 c hc
    · obtain rfl : c = 36 := by simpa using hc
      decide
theorem sum_le : ∀ (ls : LL), (∀ l ∈ ls, l.length ≤ 70) → (ls.map List.length).sum ≤ 70 * ls.length
  | [], _ => by simp
  | l :: ls, h => by
    have h1 := h l (by simp)
    have h2 := sum_le ls (fun x hx => h x (by simp [hx]))
    simp only [List.map_cons, List.sum_cons, List.length_cons]; omega
theorem lines_sum (t : List UInt8) : ((linesM t).map List.length).sum ≤ 70 * (t.length + 1) := by
  have hlen : (linesM t).length = (foldL t).1.length + 1 := by simp [linesM]
  have := foldL_count t
  have h := sum_le (linesM t) (fun l hl => by
    obtain ⟨i, hi, rfl⟩ := List.getElem_of_mem hl
    have := (line_at t i hi).le
    rwa [List.getD_eq_getElem?_getD, List.getElem?_eq_getElem hi] at this)
  omega
theorem escAll_le (t : List UInt8) : (escAll t).length ≤ 4 * t.length := by
  induction t with
  | nil => simp [escAll]
  | cons b t ih =>
    have := (escM_len b).2
    have h : escAll (b :: t) = escM b ++ escAll t := by simp [escAll]
    rw [h, List.length_append, List.length_cons]; omega
theorem escAll_snoc (t : List UInt8) (i : Nat) (h : i < t.length) : escAll (t.take (i + 1)) = escAll (t.take i) ++ escM (t.getD i 0) := by
  rw [take_snoc t i 0 h]; simp [escAll]
theorem joins_c (t : List UInt8) (a b : UInt8) (ht : t.length ≤ 1048576) (w : World) : Pure Try.prog 7 #[Sv t, Uv a, Uv b] (fun _ : Unit => .bool true) (fun _ => []) w := by
  have hcnt := foldL_count t
  have hlen : (linesM t).length = (foldL t).1.length + 1 := by simp [linesM]
  have hsum := lines_sum t
  refine calls_of_ES TB Try.func7 rfl _ Try.ntmps7 rfl (Sat.start w) ?_
  repeat (first | apply ES.seq | apply ES.skip | apply ES.region | apply EL.nil | apply ES.block | apply ES.nil | apply ES.exit | apply ES.ret | apply PX.hit | (apply PX.miss; exact rfl) | apply PX.then_x | apply PX.then_r | apply PX.block_n | apply PX.block_r | refine PX.then_n (e := .normal) ?_)
  refine EL.assign rfl rfl rfl ?_
  repeat (first | apply ES.seq | apply ES.skip | apply ES.region | apply EL.nil | apply ES.block | apply ES.nil | apply ES.exit | apply ES.ret | apply PX.hit | (apply PX.miss; exact rfl) | apply PX.then_x | apply PX.then_r | apply PX.block_n | apply PX.block_r | refine PX.then_n (e := .normal) ?_)
  refine EL.callP rfl rfl rfl ent11 rfl awake_c ?_
  refine EL.not rfl rfl rfl ?_
  repeat (first | apply ES.seq | apply ES.skip | apply ES.region | apply EL.nil | apply ES.block | apply ES.nil | apply ES.exit | apply ES.ret | apply PX.hit | (apply PX.miss; exact rfl) | apply PX.then_x | apply PX.then_r | apply PX.block_n | apply PX.block_r | refine PX.then_n (e := .normal) ?_)
  refine ES.condK false rfl rfl ?_
  repeat (first | apply ES.seq | apply ES.skip | apply ES.region | apply EL.nil | apply ES.block | apply ES.nil | apply ES.exit | apply ES.ret | apply PX.hit | (apply PX.miss; exact rfl) | apply PX.then_x | apply PX.then_r | apply PX.block_n | apply PX.block_r | refine PX.then_n (e := .normal) ?_)
  refine EL.assign rfl rfl rfl ?_
  repeat (first | apply ES.seq | apply ES.skip | apply ES.region | apply EL.nil | apply ES.block | apply ES.nil | apply ES.exit | apply ES.ret | apply PX.hit | (apply PX.miss; exact rfl) | apply PX.then_x | apply PX.then_r | apply PX.block_n | apply PX.block_r | refine PX.then_n (e := .normal) ?_)
  refine EL.move rfl rfl rfl ?_
  (refine EL.callX rfl rfl rfl ent15 rfl (lines_c t (by omega)) ?_; rintro ⟨ad, cap⟩)
  refine EL.lenL rfl rfl rfl rfl rfl ?_
  refine EL.move rfl rfl rfl ?_
  repeat (first | apply ES.seq | apply ES.skip | apply ES.region | apply EL.nil | apply ES.block | apply ES.nil | apply ES.exit | apply ES.ret | apply PX.hit | (apply PX.miss; exact rfl) | apply PX.then_x | apply PX.then_r | apply PX.block_n | apply PX.block_r | refine PX.then_n (e := .normal) ?_)
  refine ES.rowForm (ad := ad) (cap := cap) (e := 9) (sz := 1) (n := (linesM t).length) (cs := (linesM t).map Sv) (by repeat (first | exact Mem.here _ _ | apply Mem.there)) (fun hfm => ?_)
  obtain ⟨g, rfl⟩ := hfm.2.2.2.2 (by omega)
  refine ES.loop (σ := Nat) (fun i => i ≤ (linesM t).length) (fun i => [(0, Sv t), (1, Uv a), (2, Uv b), (7, Sv (((linesM t).take i).flatMap List.dropLast)), (17, .slice (some ⟨g, 0, none⟩) (linesM t).length cap), (18, Iv (linesM t).length), (19, Iv i)]) (fun i => [HA.row (.slice (some ⟨g, 0, none⟩) (linesM t).length cap) 9 1 (linesM t).length ((linesM t).map Sv)]) (fun i => (linesM t).length - i) 0 (Nat.zero_le _) ⟨rfl, rfl, rfl, rfl, rfl, rfl, rfl, trivial⟩ (by repeat (first | exact Ent.nil _ | exact Ent.refl _ | (apply Ent.cons; case p => repeat (first | exact Pick.here _ _ | apply Pick.there)) | apply Ent.drop)) ?_
  intro i hi
  have hst := sum_take (linesM t) i
  repeat (first | apply ES.seq | apply ES.skip | apply ES.region | apply EL.nil | apply ES.block | apply ES.nil | apply ES.exit | apply ES.ret | apply PX.hit | (apply PX.miss; exact rfl) | apply PX.then_x | apply PX.then_r | apply PX.block_n | apply PX.block_r | refine PX.then_n (e := .normal) ?_)
  refine EL.lss rfl rfl rfl rfl ?_
  repeat (first | apply ES.seq | apply ES.skip | apply ES.region | apply EL.nil | apply ES.block | apply ES.nil | apply ES.exit | apply ES.ret | apply PX.hit | (apply PX.miss; exact rfl) | apply PX.then_x | apply PX.then_r | apply PX.block_n | apply PX.block_r | refine PX.then_n (e := .normal) ?_)
  refine ES.condD rfl (fun hlt => ?_) (fun hge => ?_)
  · have hlt' : i < (linesM t).length := by omega
    have hL := line_at t i hlt'
    obtain ⟨l, hl⟩ : ∃ l, l = (linesM t).getD i [] := ⟨_, rfl⟩
    rw [← hl] at hL
    have h1 := hL.pos
    have h2 := hL.le
    have hfl := flat_snoc (linesM t) i hlt'
    rw [← hl] at hfl
    have hdl : (l.drop 0).take (l.length - 1 - 0) = l.dropLast := by rw [List.drop_zero, Nat.sub_zero, List.dropLast_eq_take]
    have hlc : ((l.drop 0).take (l.length - 1 - 0)).length ≤ 70 := by rw [hdl, List.length_dropLast]; omega
    repeat (first | apply ES.seq | apply ES.skip | apply ES.region | apply EL.nil | apply ES.block | apply ES.nil | apply ES.exit | apply ES.ret | apply PX.hit | (apply PX.miss; exact rfl) | apply PX.then_x | apply PX.then_r | apply PX.block_n | apply PX.block_r | refine PX.then_n (e := .normal) ?_)
    refine EL.move rfl rfl rfl ?_
    refine EL.indexAddrL1 rfl rfl rfl rfl rfl rfl rfl rfl hlt' ?_
    (refine EL.loadRm Sv [] (l := linesM t) rfl rfl rfl rfl rfl (by repeat (first | exact Mem.here _ _ | apply Mem.there)) hlt' ?_; rw [← hl])
    refine EL.assign rfl rfl rfl ?_
    refine EL.assign rfl rfl rfl ?_
    repeat (first | apply ES.seq | apply ES.skip | apply ES.region | apply EL.nil | apply ES.block | apply ES.nil | apply ES.exit | apply ES.ret | apply PX.hit | (apply PX.miss; exact rfl) | apply PX.then_x | apply PX.then_r | apply PX.block_n | apply PX.block_r | refine PX.then_n (e := .normal) ?_)
    refine EL.move rfl rfl rfl ?_
    refine EL.eqlS rfl rfl rfl rfl ?_
    repeat (first | apply ES.seq | apply ES.skip | apply ES.region | apply EL.nil | apply ES.block | apply ES.nil | apply ES.exit | apply ES.ret | apply PX.hit | (apply PX.miss; exact rfl) | apply PX.then_x | apply PX.then_r | apply PX.block_n | apply PX.block_r | refine PX.then_n (e := .normal) ?_)
    refine ES.condK false rfl (decide_eq_false (fun e => by rw [e] at h1; simp at h1)) ?_
    repeat (first | apply ES.seq | apply ES.skip | apply ES.region | apply EL.nil | apply ES.block | apply ES.nil | apply ES.exit | apply ES.ret | apply PX.hit | (apply PX.miss; exact rfl) | apply PX.then_x | apply PX.then_r | apply PX.block_n | apply PX.block_r | refine PX.then_n (e := .normal) ?_)
    refine EL.move rfl rfl rfl ?_
    refine EL.move rfl rfl rfl ?_
    refine EL.move rfl rfl rfl ?_
    refine EL.lenS rfl rfl rfl rfl rfl ?_
    refine EL.sub1 rfl rfl rfl rfl (by omega) (by omega) ?_
    refine EL.sliceS rfl rfl rfl rfl rfl rfl ⟨_, rfl⟩ (Nat.zero_le _) (by omega) ?_
    refine EL.cat rfl rfl rfl rfl (by first | omega | (simp only [List.length_cons, List.length_nil]; omega)) ?_
    refine EL.assign rfl rfl rfl ?_
    repeat (first | apply ES.seq | apply ES.skip | apply ES.region | apply EL.nil | apply ES.block | apply ES.nil | apply ES.exit | apply ES.ret | apply PX.hit | (apply PX.miss; exact rfl) | apply PX.then_x | apply PX.then_r | apply PX.block_n | apply PX.block_r | refine PX.then_n (e := .normal) ?_)
    refine EL.move rfl rfl rfl ?_
    refine EL.move rfl rfl rfl ?_
    refine EL.lenS rfl rfl rfl rfl rfl ?_
    refine EL.gtr rfl rfl rfl rfl ?_
    repeat (first | apply ES.seq | apply ES.skip | apply ES.region | apply EL.nil | apply ES.block | apply ES.nil | apply ES.exit | apply ES.ret | apply PX.hit | (apply PX.miss; exact rfl) | apply PX.then_x | apply PX.then_r | apply PX.block_n | apply PX.block_r | refine PX.then_n (e := .normal) ?_)
    refine ES.condK false rfl (decide_eq_false (by omega)) ?_
    repeat (first | apply ES.seq | apply ES.skip | apply ES.region | apply EL.nil | apply ES.block | apply ES.nil | apply ES.exit | apply ES.ret | apply PX.hit | (apply PX.miss; exact rfl) | apply PX.then_x | apply PX.then_r | apply PX.block_n | apply PX.block_r | refine PX.then_n (e := .normal) ?_)
    refine EL.add1 rfl rfl rfl rfl (by omega) ?_
    refine EL.move rfl rfl rfl ?_
    repeat (first | apply ES.seq | apply ES.skip | apply ES.region | apply EL.nil | apply ES.block | apply ES.nil | apply ES.exit | apply ES.ret | apply PX.hit | (apply PX.miss; exact rfl) | apply PX.then_x | apply PX.then_r | apply PX.block_n | apply PX.block_r | refine PX.then_n (e := .normal) ?_)
    exact PX.loop (i + 1) (by omega) (by omega) ⟨rfl, rfl, rfl, getA rfl (by rw [hfl, hdl]), rfl, rfl, rfl, trivial⟩ (by repeat (first | exact Ent.nil _ | exact Ent.refl _ | (apply Ent.cons; case p => repeat (first | exact Pick.here _ _ | apply Pick.there)) | apply Ent.drop))
  obtain rfl : i = (linesM t).length := by omega
  rw [List.take_length, show (linesM t).flatMap List.dropLast = escAll t from all_lines t]
  repeat (first | apply ES.seq | apply ES.skip | apply ES.region | apply EL.nil | apply ES.block | apply ES.nil | apply ES.exit | apply ES.ret | apply PX.hit | (apply PX.miss; exact rfl) | apply PX.then_x | apply PX.then_r | apply PX.block_n | apply PX.block_r | refine PX.then_n (e := .normal) ?_)
  refine EL.assign rfl rfl rfl ?_
  repeat (first | apply ES.seq | apply ES.skip | apply ES.region | apply EL.nil | apply ES.block | apply ES.nil | apply ES.exit | apply ES.ret | apply PX.hit | (apply PX.miss; exact rfl) | apply PX.then_x | apply PX.then_r | apply PX.block_n | apply PX.block_r | refine PX.then_n (e := .normal) ?_)
  refine EL.assign rfl rfl rfl ?_
  repeat (first | apply ES.seq | apply ES.skip | apply ES.region | apply EL.nil | apply ES.block | apply ES.nil | apply ES.exit | apply ES.ret | apply PX.hit | (apply PX.miss; exact rfl) | apply PX.then_x | apply PX.then_r | apply PX.block_n | apply PX.block_r | refine PX.then_n (e := .normal) ?_)
  refine ES.loop (σ := Nat) (fun i => i ≤ t.length) (fun i => [(0, Sv t), (1, Uv a), (2, Uv b), (7, Sv (escAll t)), (10, Sv (escAll (t.take i))), (11, Iv i)]) (fun i => []) (fun i => t.length - i) 0 (Nat.zero_le _) ⟨rfl, rfl, rfl, rfl, rfl, rfl, trivial⟩ (by repeat (first | exact Ent.nil _ | exact Ent.refl _ | (apply Ent.cons; case p => repeat (first | exact Pick.here _ _ | apply Pick.there)) | apply Ent.drop)) ?_
  intro i hi
  have hel := escAll_le (t.take i)
  rw [List.length_take] at hel
  repeat (first | apply ES.seq | apply ES.skip | apply ES.region | apply EL.nil | apply ES.block | apply ES.nil | apply ES.exit | apply ES.ret | apply PX.hit | (apply PX.miss; exact rfl) | apply PX.then_x | apply PX.then_r | apply PX.block_n | apply PX.block_r | refine PX.then_n (e := .normal) ?_)
  refine EL.move rfl rfl rfl ?_
  refine EL.move rfl rfl rfl ?_
  refine EL.lenS rfl rfl rfl rfl rfl ?_
  refine EL.lss rfl rfl rfl rfl ?_
  repeat (first | apply ES.seq | apply ES.skip | apply ES.region | apply EL.nil | apply ES.block | apply ES.nil | apply ES.exit | apply ES.ret | apply PX.hit | (apply PX.miss; exact rfl) | apply PX.then_x | apply PX.then_r | apply PX.block_n | apply PX.block_r | refine PX.then_n (e := .normal) ?_)
  refine ES.condD rfl (fun hlt => ?_) (fun hge => ?_)
  · have hlt' : i < t.length := by omega
    have hst := escAll_snoc t i hlt'
    have he4 := escM_len (t.getD i 0)
    repeat (first | apply ES.seq | apply ES.skip | apply ES.region | apply EL.nil | apply ES.block | apply ES.nil | apply ES.exit | apply ES.ret | apply PX.hit | (apply PX.miss; exact rfl) | apply PX.then_x | apply PX.then_r | apply PX.block_n | apply PX.block_r | refine PX.then_n (e := .normal) ?_)
    refine EL.move rfl rfl rfl ?_
    refine EL.move rfl rfl rfl ?_
    refine EL.move rfl rfl rfl ?_
    refine EL.indexSN rfl rfl rfl rfl rfl rfl (by omega) ?_
    refine EL.callP rfl rfl rfl ent12 rfl (esc_c (t.getD i 0)) ?_
    refine EL.cat rfl rfl rfl rfl (by first | omega | (simp only [List.length_cons, List.length_nil]; omega)) ?_
    refine EL.assign rfl rfl rfl ?_
    repeat (first | apply ES.seq | apply ES.skip | apply ES.region | apply EL.nil | apply ES.block | apply ES.nil | apply ES.exit | apply ES.ret | apply PX.hit | (apply PX.miss; exact rfl) | apply PX.then_x | apply PX.then_r | apply PX.block_n | apply PX.block_r | refine PX.then_n (e := .normal) ?_)
    refine EL.move rfl rfl rfl ?_
    refine EL.add1 rfl rfl rfl rfl (by omega) ?_
    refine EL.assign rfl rfl rfl ?_
    repeat (first | apply ES.seq | apply ES.skip | apply ES.region | apply EL.nil | apply ES.block | apply ES.nil | apply ES.exit | apply ES.ret | apply PX.hit | (apply PX.miss; exact rfl) | apply PX.then_x | apply PX.then_r | apply PX.block_n | apply PX.block_r | refine PX.then_n (e := .normal) ?_)
    exact PX.loop (i + 1) (by omega) (by omega) ⟨rfl, rfl, rfl, rfl, getA rfl (by rw [hst]), rfl, trivial⟩ (by repeat (first | exact Ent.nil _ | exact Ent.refl _ | (apply Ent.cons; case p => repeat (first | exact Pick.here _ _ | apply Pick.there)) | apply Ent.drop))
  obtain rfl : i = t.length := by omega
  rw [List.take_length]
  have ha4 := escM_len a
  have hb4 := escM_len b
  repeat (first | apply ES.seq | apply ES.skip | apply ES.region | apply EL.nil | apply ES.block | apply ES.nil | apply ES.exit | apply ES.ret | apply PX.hit | (apply PX.miss; exact rfl) | apply PX.then_x | apply PX.then_r | apply PX.block_n | apply PX.block_r | refine PX.then_n (e := .normal) ?_)
  refine EL.move rfl rfl rfl ?_
  refine EL.callP rfl rfl rfl ent12 rfl (esc_c a) ?_
  refine EL.move rfl rfl rfl ?_
  refine EL.callP rfl rfl rfl ent12 rfl (esc_c b) ?_
  refine EL.assign rfl rfl rfl ?_
  refine EL.assign rfl rfl rfl ?_
  repeat (first | apply ES.seq | apply ES.skip | apply ES.region | apply EL.nil | apply ES.block | apply ES.nil | apply ES.exit | apply ES.ret | apply PX.hit | (apply PX.miss; exact rfl) | apply PX.then_x | apply PX.then_r | apply PX.block_n | apply PX.block_r | refine PX.then_n (e := .normal) ?_)
  refine EL.cut [(81, .bool false), (7, Sv (escAll t)), (10, Sv (escAll t))] [] ?_ ?_
  · repeat (first | apply ES.seq | apply ES.skip | apply ES.region | apply EL.nil | apply ES.block | apply ES.nil | apply ES.exit | apply ES.ret | apply PX.hit | (apply PX.miss; exact rfl) | apply PX.then_x | apply PX.then_r | apply PX.block_n | apply PX.block_r | refine PX.then_n (e := .normal) ?_)
    refine EL.move rfl rfl rfl ?_
    refine EL.lenS rfl rfl rfl rfl rfl ?_
    refine EL.eqlI rfl rfl rfl rfl ?_
    refine EL.move rfl rfl rfl ?_
    refine EL.rew (d := 57) (v' := .bool false) rfl (congrArg Value.bool (decide_eq_false (by omega))) ?_
    refine EL.move rfl rfl rfl ?_
    refine EL.lenS rfl rfl rfl rfl rfl ?_
    refine EL.eqlI rfl rfl rfl rfl ?_
    refine EL.pickF rfl rfl rfl rfl ?_
    refine EL.move rfl rfl rfl ?_
    refine EL.rew (d := 62) (v' := .bool false) rfl (congrArg Value.bool (decide_eq_false (by omega))) ?_
    refine EL.move rfl rfl rfl ?_
    refine EL.move rfl rfl rfl ?_
    refine EL.neqI rfl rfl rfl rfl ?_
    refine EL.move rfl rfl rfl ?_
    first | refine EL.splitD (d := 66) rfl (fun hp66 => ?_) (fun hp66 => ?_) | refine EL.splitN (d := 66) rfl (fun hp66 => ?_) (fun hp66 => ?_) | refine EL.splitB (d := 66) rfl (fun hp66 => ?_) (fun hp66 => ?_)
    · refine EL.move rfl rfl rfl ?_
      refine EL.lenS rfl rfl rfl rfl rfl ?_
      refine EL.move rfl rfl rfl ?_
      refine EL.lenS rfl rfl rfl rfl rfl ?_
      refine EL.leq rfl rfl rfl rfl ?_
      refine EL.pickT rfl rfl rfl rfl ?_
      refine EL.move rfl rfl rfl ?_
      first | refine EL.splitD (d := 73) rfl (fun hp73 => ?_) (fun hp73 => ?_) | refine EL.splitN (d := 73) rfl (fun hp73 => ?_) (fun hp73 => ?_) | refine EL.splitB (d := 73) rfl (fun hp73 => ?_) (fun hp73 => ?_)
      · refine EL.move rfl rfl rfl ?_
        refine EL.move rfl rfl rfl ?_
        refine EL.lenS rfl rfl rfl rfl rfl ?_
        refine EL.sliceS rfl rfl rfl rfl rfl rfl ⟨_, rfl⟩ (Nat.zero_le _) (by omega) ?_
        refine EL.move rfl rfl rfl ?_
        refine EL.eqlS rfl rfl rfl rfl ?_
        refine EL.pickT rfl rfl rfl rfl ?_
        refine EL.pickF rfl rfl rfl rfl ?_
        exact EL.endK ⟨getB rfl (by first | rfl | exact decide_eq_false (fun h => hp66 (by rw [List.drop_zero, Nat.sub_zero] at h; have h3 := escM_pre a b (by rw [← h]; exact List.take_prefix _ _); rw [h3]))), rfl, rfl, trivial⟩ (by repeat (first | exact Ent.nil _ | exact Ent.refl _ | (apply Ent.cons; case p => repeat (first | exact Pick.here _ _ | apply Pick.there)) | apply Ent.drop))
      · refine EL.pass rfl rfl rfl ?_
        refine EL.pass rfl rfl rfl ?_
        refine EL.pass rfl rfl rfl ?_
        refine EL.pass rfl rfl rfl ?_
        refine EL.pass rfl rfl rfl ?_
        refine EL.pass rfl rfl rfl ?_
        refine EL.pickF rfl rfl rfl rfl ?_
        refine EL.pickF rfl rfl rfl rfl ?_
        exact EL.endK ⟨getB rfl (by first | rfl | exact decide_eq_false (fun h => hp66 (by rw [List.drop_zero, Nat.sub_zero] at h; have h3 := escM_pre a b (by rw [← h]; exact List.take_prefix _ _); rw [h3]))), rfl, rfl, trivial⟩ (by repeat (first | exact Ent.nil _ | exact Ent.refl _ | (apply Ent.cons; case p => repeat (first | exact Pick.here _ _ | apply Pick.there)) | apply Ent.drop))
    · refine EL.pass rfl rfl rfl ?_
      refine EL.pass rfl rfl rfl ?_
      refine EL.pass rfl rfl rfl ?_
      refine EL.pass rfl rfl rfl ?_
      refine EL.pass rfl rfl rfl ?_
      refine EL.pickF rfl rfl rfl rfl ?_
      refine EL.move rfl rfl rfl ?_
      refine EL.pass rfl rfl rfl ?_
      refine EL.pass rfl rfl rfl ?_
      refine EL.pass rfl rfl rfl ?_
      refine EL.pass rfl rfl rfl ?_
      refine EL.pass rfl rfl rfl ?_
      refine EL.pass rfl rfl rfl ?_
      refine EL.pickF rfl rfl rfl rfl ?_
      refine EL.pickF rfl rfl rfl rfl ?_
      exact EL.endK ⟨getB rfl (by first | rfl | exact decide_eq_false (fun h => hp66 (by rw [List.drop_zero, Nat.sub_zero] at h; have h3 := escM_pre a b (by rw [← h]; exact List.take_prefix _ _); rw [h3]))), rfl, rfl, trivial⟩ (by repeat (first | exact Ent.nil _ | exact Ent.refl _ | (apply Ent.cons; case p => repeat (first | exact Pick.here _ _ | apply Pick.there)) | apply Ent.drop))
  refine ES.condF rfl ?_
  repeat (first | apply ES.seq | apply ES.skip | apply ES.region | apply EL.nil | apply ES.block | apply ES.nil | apply ES.exit | apply ES.ret | apply PX.hit | (apply PX.miss; exact rfl) | apply PX.then_x | apply PX.then_r | apply PX.block_n | apply PX.block_r | refine PX.then_n (e := .normal) ?_)
  refine EL.move rfl rfl rfl ?_
  refine EL.move rfl rfl rfl ?_
  refine EL.eqlS rfl rfl rfl rfl ?_
  refine EL.assign rfl rfl rfl ?_
  repeat (first | apply ES.seq | apply ES.skip | apply ES.region | apply EL.nil | apply ES.block | apply ES.nil | apply ES.exit | apply ES.ret | apply PX.hit | (apply PX.miss; exact rfl) | apply PX.then_x | apply PX.then_r | apply PX.block_n | apply PX.block_r | refine PX.then_n (e := .normal) ?_)
  exact PX.ret rfl Try.results7 (.cons (.tmp (getA rfl (seqT _))) .nil) (fun w hs => ⟨(), rfl, hs.ent (.nil _)⟩)
theorem listingJoins_lifted (os : Os) (started : os.Started) (H : Type) (enc : TypeId × Value → H) (F : Stop.Interp) :
    ReturnsInHanded {} Try.checked os 7 .any ((Rows.OpenSpec.upto Rows.listingJoinsSpec).pre6 enc Try.prog Try.f7 Rows.listingJoinsUptoRow.domain false) (((Rows.OpenSpec.upto Rows.listingJoinsSpec).at F).post enc Try.prog Try.f7 false true false false) := by
  refine returnsInHanded_of_cond (C := Try.checked) (s := (Rows.OpenSpec.upto Rows.listingJoinsSpec)) (k := Rows.uptoSmall) rfl own started (by kernel_rfl) Try.func7
    (OpenSpec.witness (enc := enc) (C := Try.checked) (s := (Rows.OpenSpec.upto Rows.listingJoinsSpec)) (k := Rows.uptoSmall) rfl false ⟨#[], #[.string ⟨#[]⟩, .int .u8 0, .int .u8 0], []⟩ 8 (by kernel_rfl) (by kernel_rfl) (by kernel_rfl)
      (x := ([.lit (.string []), .lit (.int .u8 0), .lit (.int .u8 0)], [], [])) (by kernel_rfl) rfl (by kernel_rfl)) ?_
  intro W base args ds gs before hval0 hW _ hk _
  have hval : ∀ (j : Nat) t v, Try.f7.params[j]? = some t → args[j]? = some v → Value.okWide Try.prog W .any base t v := hval0
  have hW1 : DataW.Whole enc Try.prog Try.f7.params.toList Rows.listingJoinsSpec.vars false W args.toList ds gs before := hW
  have hW' := hW1
  obtain ⟨p, q, hA0, hV, rfl, hfz, hnd⟩ := hW1
  have hA : DataW.TrodAll enc Try.prog W 0 (fun _ => true) true Try.f7.params.toList args.toList ds p := hA0
  rw [Try.params7] at hA hval
  obtain ⟨v0, vs0, d0, ds0, p0, q0, hargs0, rfl, rfl, h0, r0⟩ := trodAll_cons hA
  obtain ⟨v1, vs1, d1, ds1, p1, q1, hargs1, rfl, rfl, h1, r1⟩ := trodAll_cons r0
  obtain ⟨v2, vs2, d2, ds2, p2, q2, hargs2, rfl, rfl, h2, r2⟩ := trodAll_cons r1
  obtain ⟨rfl, rfl, rfl⟩ := trodAll_nil r2
  subst hargs1 hargs2
  obtain rfl : args = #[v0, v1, v2] := by cases args; simp_all
  obtain ⟨rfl, rfl⟩ := trodVars_none hV
  obtain ⟨l0, rfl, rfl⟩ := open_sv Try.underlying9 (hval 0 9 v0 rfl rfl) h0
  obtain ⟨b1, rfl, rfl⟩ := open_uv Try.underlying5 (hval 1 5 v1 rfl rfl) h1
  obtain ⟨b2, rfl, rfl⟩ := open_uv Try.underlying5 (hval 2 5 v2 rfl rfl) h2
  have hb := of_decide_eq_true hk
  simp only [List.append_nil, Rows.uptoBulkAll, Rows.uptoBulk] at hb
  have hl0 : l0.length ≤ 1048576 := by omega
  refine (joins_c l0 b1 b2 (by omega) W).mono fun e W' ⟨_, he, hs⟩ => ⟨_, he, ?_⟩
  exact law_true (s := Rows.listingJoinsSpec) laidOut rfl Try.underlying4 (by kernel_rfl) rfl false rfl rfl rfl hW' hs.below
theorem listingJoins_holds : Rows.ListingJoinsUptoSaid :=
  OpenClaim.holds_of_cond 7 Try.f7 rfl rfl rfl rfl rfl rfl rfl ⟨rfl, rfl, rfl, rfl, rfl⟩ rfl rfl rfl rfl rfl (by kernel_rfl) Try.func7 (by kernel_rfl)
    (of_decide_eq_true (by kernel_rfl)) (by unfold Func.isWrapper; first | (rw [if_pos (by decide +kernel)]; kernel_rfl) | (rw [if_neg (by decide +kernel)]; exact ⟨rfl, rfl⟩))
    (fun os started H enc _ F => listingJoins_lifted os started H enc F)
end Go.Proofs.Ytjjifcfcomhdcaa
