/- Layer 16 (listing): what is written is read back; two lists compared; the document's Lines. -/
import Derived.Test.YtjjifcfcomhdcaaLe
namespace Go.Proofs.Ytjjifcfcomhdcaa
open Go Go.RowKit Sl
set_option maxRecDepth 100000
set_option maxHeartbeats 8000000
set_option linter.unusedVariables false
set_option linter.unusedSimpArgs false
attribute [local irreducible] ES EL PX wps

theorem escN_pre : ∀ a b : Fin 256, (!(escN a.val).isPrefixOf (escN b.val) || decide (a = b)) = true := by decide +kernel
theorem escN_back : ∀ a : Fin 256, ((escN a.val).map UInt8.ofNat).map UInt8.toNat = escN a.val := by decide +kernel
theorem escM_pre (a b : UInt8) (h : escM a <+: escM b) : a = b := by
  have h1 := h.map UInt8.toNat
  have ha := escN_back ⟨a.toNat, a.toNat_lt⟩
  have hb := escN_back ⟨b.toNat, b.toNat_lt⟩
  simp only at ha hb
  unfold escM at h1
  rw [ha, hb] at h1
  have h2 := escN_pre ⟨a.toNat, a.toNat_lt⟩ ⟨b.toNat, b.toNat_lt⟩
  rw [List.isPrefixOf_iff_prefix.2 h1] at h2
  simp only [Bool.not_true, Bool.false_or, decide_eq_true_eq, Fin.mk.injEq] at h2
  exact UInt8.toNat_inj.1 h2
theorem next_esc (b : UInt8) (r : List UInt8) : nextE (escM b ++ r) = some b.toNat := by
  have hb8 : UInt8.ofNat b.toNat = b := by simp
  refine nextE_some _ _ b.toNat_lt (fun k hk => ?_) ?_
  · have hk8 : (UInt8.ofNat k).toNat = k := by have := b.toNat_lt; simp; omega
    refine decide_eq_false fun h => ?_
    have p1 : escM (UInt8.ofNat k) <+: escM b ++ r := by rw [← h]; exact List.take_prefix _ _
    have p2 : escM b <+: escM b ++ r := List.prefix_append _ _
    rcases List.prefix_or_prefix_of_prefix p1 p2 with h3 | h3
    · have := congrArg UInt8.toNat (escM_pre _ _ h3); omega
    · have := congrArg UInt8.toNat (escM_pre _ _ h3); omega
  · unfold preE
    rw [hb8]
    exact decide_eq_true (List.take_left)
theorem unesc_all : ∀ t : List UInt8, unescM (escAll t) = some t
  | [] => unescM_nil
  | b :: t => by
    have hb8 : UInt8.ofNat b.toNat = b := by simp
    have he := (escM_len b).1
    have h : escAll (b :: t) = escM b ++ escAll t := by simp [escAll]
    have hne : escM b ++ escAll t ≠ [] := fun h => by have := congrArg List.length h; rw [List.length_append, List.length_nil] at this; omega
    rw [h, unescM_step _ hne, next_esc]
    simp only [hb8, List.drop_left]
    rw [unesc_all t]; rfl
/-- What is written is read back. -/
theorem read_lines (t : List UInt8) : readM (linesM t) = (t, 0) := by
  unfold readM
  rw [all_lines, unesc_all]
  simp
theorem rlines_c (t : List UInt8) (ht : t.length ≤ 1073741824) (w : World) : Pure Try.prog 16 #[Sv t] (fun x : Option Addr × Nat => .slice x.1 (linesM t).length x.2) (fun x => [HA.row (.slice x.1 (linesM t).length x.2) 9 1 (linesM t).length ((linesM t).map Sv)]) w := by
  have hcount := foldL_count t
  refine calls_of_ES TB Try.func16 rfl _ Try.ntmps16 rfl (Sat.start w) ?_
  repeat (first | apply ES.seq | apply ES.skip | apply ES.region | apply EL.nil | apply ES.block | apply ES.nil | apply ES.exit | apply ES.ret | apply PX.hit | (apply PX.miss; exact rfl) | apply PX.then_x | apply PX.then_r | apply PX.block_n | apply PX.block_r | refine PX.then_n (e := .normal) ?_ | refine PX.then_d ?_ | apply ES.label | apply ES.scope | apply PX.sc_n | apply PX.sc_r | apply PX.sc_x)
  refine EL.assign rfl rfl rfl ?_
  repeat (first | apply ES.seq | apply ES.skip | apply ES.region | apply EL.nil | apply ES.block | apply ES.nil | apply ES.exit | apply ES.ret | apply PX.hit | (apply PX.miss; exact rfl) | apply PX.then_x | apply PX.then_r | apply PX.block_n | apply PX.block_r | refine PX.then_n (e := .normal) ?_ | refine PX.then_d ?_ | apply ES.label | apply ES.scope | apply PX.sc_n | apply PX.sc_r | apply PX.sc_x)
  refine EL.assign rfl rfl rfl ?_
  repeat (first | apply ES.seq | apply ES.skip | apply ES.region | apply EL.nil | apply ES.block | apply ES.nil | apply ES.exit | apply ES.ret | apply PX.hit | (apply PX.miss; exact rfl) | apply PX.then_x | apply PX.then_r | apply PX.block_n | apply PX.block_r | refine PX.then_n (e := .normal) ?_ | refine PX.then_d ?_ | apply ES.label | apply ES.scope | apply PX.sc_n | apply PX.sc_r | apply PX.sc_x)
  refine EL.nilRow 9 1 ?_
  repeat (first | apply ES.seq | apply ES.skip | apply ES.region | apply EL.nil | apply ES.block | apply ES.nil | apply ES.exit | apply ES.ret | apply PX.hit | (apply PX.miss; exact rfl) | apply PX.then_x | apply PX.then_r | apply PX.block_n | apply PX.block_r | refine PX.then_n (e := .normal) ?_ | refine PX.then_d ?_ | apply ES.label | apply ES.scope | apply PX.sc_n | apply PX.sc_r | apply PX.sc_x)
  refine EL.assign rfl rfl rfl ?_
  repeat (first | apply ES.seq | apply ES.skip | apply ES.region | apply EL.nil | apply ES.block | apply ES.nil | apply ES.exit | apply ES.ret | apply PX.hit | (apply PX.miss; exact rfl) | apply PX.then_x | apply PX.then_r | apply PX.block_n | apply PX.block_r | refine PX.then_n (e := .normal) ?_ | refine PX.then_d ?_ | apply ES.label | apply ES.scope | apply PX.sc_n | apply PX.sc_r | apply PX.sc_x)
  refine EL.assign rfl rfl rfl ?_
  repeat (first | apply ES.seq | apply ES.skip | apply ES.region | apply EL.nil | apply ES.block | apply ES.nil | apply ES.exit | apply ES.ret | apply PX.hit | (apply PX.miss; exact rfl) | apply PX.then_x | apply PX.then_r | apply PX.block_n | apply PX.block_r | refine PX.then_n (e := .normal) ?_ | refine PX.then_d ?_ | apply ES.label | apply ES.scope | apply PX.sc_n | apply PX.sc_r | apply PX.sc_x)
  refine ES.loop (σ := Nat × Option Addr × Nat) (fun (i, _, _) => i ≤ t.length) (fun (i, ad, cap) => [(0, Sv t), (3, .slice ad (foldL (t.take i)).1.length cap), (4, Sv (foldL (t.take i)).2), (5, Iv i)]) (fun (i, ad, cap) => [HA.row (.slice ad (foldL (t.take i)).1.length cap) 9 1 (foldL (t.take i)).1.length ((foldL (t.take i)).1.map Sv)]) (fun (i, _, _) => t.length - i) (0, none, 0) (Nat.zero_le _) ⟨rfl, rfl, rfl, rfl, trivial⟩ (by repeat (first | exact Ent.nil _ | exact Ent.refl _ | (apply Ent.cons; case p => repeat (first | exact Pick.here _ _ | apply Pick.there)) | apply Ent.drop)) ?_
  rintro ⟨i, ad, cap⟩ hi
  dsimp only at hi ⊢
  have hline := foldL_line (t.take i)
  have hcnt := foldL_count (t.take i)
  rw [List.length_take] at hcnt
  repeat (first | apply ES.seq | apply ES.skip | apply ES.region | apply EL.nil | apply ES.block | apply ES.nil | apply ES.exit | apply ES.ret | apply PX.hit | (apply PX.miss; exact rfl) | apply PX.then_x | apply PX.then_r | apply PX.block_n | apply PX.block_r | refine PX.then_n (e := .normal) ?_ | refine PX.then_d ?_ | apply ES.label | apply ES.scope | apply PX.sc_n | apply PX.sc_r | apply PX.sc_x)
  refine EL.move rfl rfl rfl ?_
  refine EL.move rfl rfl rfl ?_
  refine EL.lenS rfl rfl rfl rfl rfl ?_
  refine EL.lss rfl rfl rfl rfl ?_
  repeat (first | apply ES.seq | apply ES.skip | apply ES.region | apply EL.nil | apply ES.block | apply ES.nil | apply ES.exit | apply ES.ret | apply PX.hit | (apply PX.miss; exact rfl) | apply PX.then_x | apply PX.then_r | apply PX.block_n | apply PX.block_r | refine PX.then_n (e := .normal) ?_ | refine PX.then_d ?_ | apply ES.label | apply ES.scope | apply PX.sc_n | apply PX.sc_r | apply PX.sc_x)
  refine ES.condD rfl (fun hlt => ?_) (fun hge => ?_)
  · have hlt' : i < t.length := by omega
    have hel := escM_len (t.getD i 0)
    have hst := foldL_step t i hlt'
    obtain ⟨s, hs⟩ : ∃ s, s = foldL (t.take i) := ⟨_, rfl⟩
    obtain ⟨e, he⟩ : ∃ e, e = escM (t.getD i 0) := ⟨_, rfl⟩
    have hc := resc_c (t.getD i 0)
    rw [← he] at hc hel
    rw [← hs] at hst hline hcnt ⊢
    unfold stepL at hst
    rw [← he] at hst
    repeat (first | apply ES.seq | apply ES.skip | apply ES.region | apply EL.nil | apply ES.block | apply ES.nil | apply ES.exit | apply ES.ret | apply PX.hit | (apply PX.miss; exact rfl) | apply PX.then_x | apply PX.then_r | apply PX.block_n | apply PX.block_r | refine PX.then_n (e := .normal) ?_ | refine PX.then_d ?_ | apply ES.label | apply ES.scope | apply PX.sc_n | apply PX.sc_r | apply PX.sc_x)
    refine EL.move rfl rfl rfl ?_
    refine EL.move rfl rfl rfl ?_
    refine EL.indexSN rfl rfl rfl rfl rfl rfl (by omega) ?_
    refine EL.callP rfl rfl rfl ent13 rfl hc ?_
    refine EL.assign rfl rfl rfl ?_
    repeat (first | apply ES.seq | apply ES.skip | apply ES.region | apply EL.nil | apply ES.block | apply ES.nil | apply ES.exit | apply ES.ret | apply PX.hit | (apply PX.miss; exact rfl) | apply PX.then_x | apply PX.then_r | apply PX.block_n | apply PX.block_r | refine PX.then_n (e := .normal) ?_ | refine PX.then_d ?_ | apply ES.label | apply ES.scope | apply PX.sc_n | apply PX.sc_r | apply PX.sc_x)
    refine EL.move rfl rfl rfl ?_
    refine EL.lenS rfl rfl rfl rfl rfl ?_
    refine EL.move rfl rfl rfl ?_
    refine EL.lenS rfl rfl rfl rfl rfl ?_
    refine EL.addN rfl rfl rfl rfl rfl (by omega) ?_
    refine EL.gtr rfl rfl rfl rfl ?_
    repeat (first | apply ES.seq | apply ES.skip | apply ES.region | apply EL.nil | apply ES.block | apply ES.nil | apply ES.exit | apply ES.ret | apply PX.hit | (apply PX.miss; exact rfl) | apply PX.then_x | apply PX.then_r | apply PX.block_n | apply PX.block_r | refine PX.then_n (e := .normal) ?_ | refine PX.then_d ?_ | apply ES.label | apply ES.scope | apply PX.sc_n | apply PX.sc_r | apply PX.sc_x)
    refine ES.cutC (X := Option Addr × Nat) (fun x => [(0, Sv t), (3, .slice x.1 (foldL (t.take (i + 1))).1.length x.2), (4, Sv (if 69 < s.2.length + e.length then [] else s.2)), (5, Iv i), (6, Sv e)]) (fun x => [HA.row (.slice x.1 (foldL (t.take (i + 1))).1.length x.2) 9 1 (foldL (t.take (i + 1))).1.length ((foldL (t.take (i + 1))).1.map Sv)]) ?_ (fun x => ?_)
    · refine ES.condD rfl (fun hgt => ?_) (fun hle => ?_)
      · rw [if_pos (by omega)] at hst
        rw [hst]
        have e1 : (s.1 ++ [s.2 ++ [92]]).length = s.1.length + 1 := by simp
        have e2 : (s.1 ++ [s.2 ++ [92]]).map Sv = s.1.map Sv ++ [Sv (s.2 ++ [92])] := by simp
        repeat (first | apply ES.seq | apply ES.skip | apply ES.region | apply EL.nil | apply ES.block | apply ES.nil | apply ES.exit | apply ES.ret | apply PX.hit | (apply PX.miss; exact rfl) | apply PX.then_x | apply PX.then_r | apply PX.block_n | apply PX.block_r | refine PX.then_n (e := .normal) ?_ | refine PX.then_d ?_ | apply ES.label | apply ES.scope | apply PX.sc_n | apply PX.sc_r | apply PX.sc_x)
        refine EL.move rfl rfl rfl ?_
        refine EL.move rfl rfl rfl ?_
        refine EL.cat rfl rfl rfl rfl (by first | omega | (simp only [List.length_cons, List.length_nil]; omega)) ?_
        (refine EL.buildSlice1 rfl rfl rfl rfl rfl rfl rfl rfl rfl rfl ?_; intro b26)
        (refine EL.append1 rfl rfl rfl rfl rfl rfl rfl rfl rfl (by repeat (first | exact Mem.here _ _ | apply Mem.there)) (by repeat (first | exact Pick.here _ _ | apply Pick.there)) (by intro u hu; simp [Value.cells] at hu; subst hu; rfl) (by rfl) (by unfold maxLen; omega) (by first | omega | (show 1 * _ ≤ _; omega) | (show 8 * _ ≤ _; omega) | (show 16 * _ ≤ _; omega) | (show 24 * _ ≤ _; omega) | (show _ * 1 ≤ _; omega) | (show _ * 8 ≤ _; omega) | (show _ * 16 ≤ _; omega) | (show _ * 24 ≤ _; omega)) ?_; intro a27 c27)
        refine EL.assign rfl rfl rfl ?_
        repeat (first | apply ES.seq | apply ES.skip | apply ES.region | apply EL.nil | apply ES.block | apply ES.nil | apply ES.exit | apply ES.ret | apply PX.hit | (apply PX.miss; exact rfl) | apply PX.then_x | apply PX.then_r | apply PX.block_n | apply PX.block_r | refine PX.then_n (e := .normal) ?_ | refine PX.then_d ?_ | apply ES.label | apply ES.scope | apply PX.sc_n | apply PX.sc_r | apply PX.sc_x)
        refine EL.assign rfl rfl rfl ?_
        repeat (first | apply ES.seq | apply ES.skip | apply ES.region | apply EL.nil | apply ES.block | apply ES.nil | apply ES.exit | apply ES.ret | apply PX.hit | (apply PX.miss; exact rfl) | apply PX.then_x | apply PX.then_r | apply PX.block_n | apply PX.block_r | refine PX.then_n (e := .normal) ?_ | refine PX.then_d ?_ | apply ES.label | apply ES.scope | apply PX.sc_n | apply PX.sc_r | apply PX.sc_x)
        refine PX.cutX (some ⟨a27, 0, none⟩, c27) ⟨rfl, getA rfl (by simp), getA rfl (by rw [if_pos (by omega)]), rfl, rfl, trivial⟩ ?_
        dsimp only
        rw [e1, e2]
        exact (by repeat (first | exact Ent.nil _ | exact Ent.refl _ | (apply Ent.cons; case p => repeat (first | exact Pick.here _ _ | apply Pick.there)) | apply Ent.drop))
      · rw [if_neg (by omega)] at hst
        rw [hst]
        repeat (first | apply ES.seq | apply ES.skip | apply ES.region | apply EL.nil | apply ES.block | apply ES.nil | apply ES.exit | apply ES.ret | apply PX.hit | (apply PX.miss; exact rfl) | apply PX.then_x | apply PX.then_r | apply PX.block_n | apply PX.block_r | refine PX.then_n (e := .normal) ?_ | refine PX.then_d ?_ | apply ES.label | apply ES.scope | apply PX.sc_n | apply PX.sc_r | apply PX.sc_x)
        exact PX.cutX (ad, cap) ⟨rfl, rfl, getA rfl (by rw [if_neg (by omega)]), rfl, rfl, trivial⟩ (by repeat (first | exact Ent.nil _ | exact Ent.refl _ | (apply Ent.cons; case p => repeat (first | exact Pick.here _ _ | apply Pick.there)) | apply Ent.drop))
    obtain ⟨ad2, cap2⟩ := x
    have hl2 : (if 69 < s.2.length + e.length then [] else s.2).length ≤ 69 := by
      split
      · simp
      · exact hline
    have hfin : (foldL (t.take (i + 1))).2 = (if 69 < s.2.length + e.length then [] else s.2) ++ e := by
      rw [hst]; split <;> rfl
    repeat (first | apply ES.seq | apply ES.skip | apply ES.region | apply EL.nil | apply ES.block | apply ES.nil | apply ES.exit | apply ES.ret | apply PX.hit | (apply PX.miss; exact rfl) | apply PX.then_x | apply PX.then_r | apply PX.block_n | apply PX.block_r | refine PX.then_n (e := .normal) ?_ | refine PX.then_d ?_ | apply ES.label | apply ES.scope | apply PX.sc_n | apply PX.sc_r | apply PX.sc_x)
    refine EL.move rfl rfl rfl ?_
    refine EL.move rfl rfl rfl ?_
    refine EL.cat rfl rfl rfl rfl (by first | omega | (simp only [List.length_cons, List.length_nil]; omega)) ?_
    refine EL.assign rfl rfl rfl ?_
    repeat (first | apply ES.seq | apply ES.skip | apply ES.region | apply EL.nil | apply ES.block | apply ES.nil | apply ES.exit | apply ES.ret | apply PX.hit | (apply PX.miss; exact rfl) | apply PX.then_x | apply PX.then_r | apply PX.block_n | apply PX.block_r | refine PX.then_n (e := .normal) ?_ | refine PX.then_d ?_ | apply ES.label | apply ES.scope | apply PX.sc_n | apply PX.sc_r | apply PX.sc_x)
    refine EL.move rfl rfl rfl ?_
    refine EL.add1 rfl rfl rfl rfl (by omega) ?_
    refine EL.assign rfl rfl rfl ?_
    repeat (first | apply ES.seq | apply ES.skip | apply ES.region | apply EL.nil | apply ES.block | apply ES.nil | apply ES.exit | apply ES.ret | apply PX.hit | (apply PX.miss; exact rfl) | apply PX.then_x | apply PX.then_r | apply PX.block_n | apply PX.block_r | refine PX.then_n (e := .normal) ?_ | refine PX.then_d ?_ | apply ES.label | apply ES.scope | apply PX.sc_n | apply PX.sc_r | apply PX.sc_x)
    exact PX.loop (i + 1, ad2, cap2) (by simp only; omega) (by simp only; omega) ⟨rfl, rfl, getA rfl (by rw [hfin]), rfl, trivial⟩ (by repeat (first | exact Ent.nil _ | exact Ent.refl _ | (apply Ent.cons; case p => repeat (first | exact Pick.here _ _ | apply Pick.there)) | apply Ent.drop))
  · obtain rfl : i = t.length := by omega
    rw [List.take_length] at hline ⊢
    have e1 : (linesM t).length = (foldL t).1.length + 1 := by simp [linesM]
    have e2 : (linesM t).map Sv = (foldL t).1.map Sv ++ [Sv ((foldL t).2 ++ [36])] := by simp [linesM]
    repeat (first | apply ES.seq | apply ES.skip | apply ES.region | apply EL.nil | apply ES.block | apply ES.nil | apply ES.exit | apply ES.ret | apply PX.hit | (apply PX.miss; exact rfl) | apply PX.then_x | apply PX.then_r | apply PX.block_n | apply PX.block_r | refine PX.then_n (e := .normal) ?_ | refine PX.then_d ?_ | apply ES.label | apply ES.scope | apply PX.sc_n | apply PX.sc_r | apply PX.sc_x)
    refine EL.move rfl rfl rfl ?_
    refine EL.move rfl rfl rfl ?_
    refine EL.cat rfl rfl rfl rfl (by first | omega | (simp only [List.length_cons, List.length_nil]; omega)) ?_
    (refine EL.buildSlice1 rfl rfl rfl rfl rfl rfl rfl rfl rfl rfl ?_; intro b34)
    (refine EL.append1 rfl rfl rfl rfl rfl rfl rfl rfl rfl (by repeat (first | exact Mem.here _ _ | apply Mem.there)) (by repeat (first | exact Pick.here _ _ | apply Pick.there)) (by intro u hu; simp [Value.cells] at hu; subst hu; rfl) (by rfl) (by unfold maxLen; omega) (by first | omega | (show 1 * _ ≤ _; omega) | (show 8 * _ ≤ _; omega) | (show 16 * _ ≤ _; omega) | (show 24 * _ ≤ _; omega) | (show _ * 1 ≤ _; omega) | (show _ * 8 ≤ _; omega) | (show _ * 16 ≤ _; omega) | (show _ * 24 ≤ _; omega)) ?_; intro a35 c35)
    refine EL.assign rfl rfl rfl ?_
    repeat (first | apply ES.seq | apply ES.skip | apply ES.region | apply EL.nil | apply ES.block | apply ES.nil | apply ES.exit | apply ES.ret | apply PX.hit | (apply PX.miss; exact rfl) | apply PX.then_x | apply PX.then_r | apply PX.block_n | apply PX.block_r | refine PX.then_n (e := .normal) ?_ | refine PX.then_d ?_ | apply ES.label | apply ES.scope | apply PX.sc_n | apply PX.sc_r | apply PX.sc_x)
    refine EL.move rfl rfl rfl ?_
    refine EL.assign rfl rfl rfl ?_
    repeat (first | apply ES.seq | apply ES.skip | apply ES.region | apply EL.nil | apply ES.block | apply ES.nil | apply ES.exit | apply ES.ret | apply PX.hit | (apply PX.miss; exact rfl) | apply PX.then_x | apply PX.then_r | apply PX.block_n | apply PX.block_r | refine PX.then_n (e := .normal) ?_ | refine PX.then_d ?_ | apply ES.label | apply ES.scope | apply PX.sc_n | apply PX.sc_r | apply PX.sc_x)
    exact PX.ret rfl Try.results16 (.cons (.tmp rfl) .nil) (fun w hs => ⟨(some ⟨a35, 0, none⟩, c35), by rw [e1]; rfl, by rw [e1, e2]; exact hs.ent (by repeat (first | exact Ent.nil _ | exact Ent.refl _ | (apply Ent.cons; case p => repeat (first | exact Pick.here _ _ | apply Pick.there)) | apply Ent.drop))⟩)
end Go.Proofs.Ytjjifcfcomhdcaa
