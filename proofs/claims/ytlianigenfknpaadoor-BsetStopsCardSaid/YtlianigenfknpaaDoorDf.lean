/- Layer 2 (bset): the classes are the document's; the laws' own test; Of, Span, Class, Not, Or, And against the document. -/
import Derived.Test.YtlianigenfknpaaDoorDe
namespace Go.Proofs.YtlianigenfknpaaDoor
open Go Go.RowKit Sl
set_option maxRecDepth 100000
set_option maxHeartbeats 8000000
set_option linter.unusedVariables false
set_option linter.unusedSimpArgs false
attribute [local irreducible] ES EL PX wps

theorem has_of (k : Nat) (hk : k < 256) : ∀ (l : List UInt8) (s : BS), hasS (l.foldl (fun s b => addS s b.toNat) s) k = (hasS s k || l.any fun b => b.toNat == k)
  | [], s => by simp
  | b :: l, s => by
    rw [List.foldl_cons, has_of k hk l, has_add _ _ _ b.toNat_lt hk, List.any_cons, Bool.or_assoc]
    congr 2
    rw [Bool.eq_iff_iff]
    simp only [decide_eq_true_eq, beq_iff_eq]
    omega
theorem has_ofS (l : List UInt8) (k : Nat) (hk : k < 256) : hasS (ofS l) k = l.any fun b => b.toNat == k := by
  rw [ofS, has_of k hk, has_zero, Bool.false_or]
theorem memGo_nil (p : Nat → Bool) : ∀ n, (memGo p n).length = 0 ↔ ∀ k, k < n → p k = false
  | 0 => by simp [memGo]
  | n + 1 => by
    rw [memGo]
    have ih := memGo_nil p n
    split
    · rename_i h
      simp only [List.length_append, List.length_singleton]
      refine ⟨fun h => by omega, fun h2 => ?_⟩
      have := h2 n (by omega)
      rw [h] at this; cases this
    · rename_i h
      rw [ih]
      refine ⟨fun h2 k hk => ?_, fun h2 k hk => h2 k (by omega)⟩
      rcases Nat.lt_or_ge k n with h3 | h3
      · exact h2 k h3
      · obtain rfl : k = n := by omega
        simpa using h
theorem doc_known (l : List UInt8) (b : UInt8) (t : List UInt8) (hl : l ≠ nCntrl) (ht : textM l = b :: t) : docClassM l = (ofS (textM l), 0) := by
  have hne : ¬ (membersM (ofS (textM l))).length = 0 := fun h => by
    have h1 := (memGo_nil _ 256).1 h b.toNat b.toNat_lt
    rw [has_ofS _ _ b.toNat_lt, ht] at h1
    simp at h1
  simp only [docClassM]
  rw [if_neg hl, if_neg hne]
theorem class_known (l : List UInt8) (b : UInt8) (t : List UInt8) (hl : l ≠ nCntrl) (hok : okM l = true) (ht : textM l = b :: t) (h : ∀ k : Fin 256, ((textM l).any fun b => b.toNat == k.val) = isB l k.val) : classM l = docClassM l := by
  rw [doc_known l b t hl ht, classM, if_pos hok]
  exact congrArg (fun s : BS => (s, (0 : Int))) (fill_eq _ _ fun k hk => by rw [has_ofS _ _ hk]; exact h ⟨k, hk⟩)
theorem class_cntrl : classM nCntrl = docClassM nCntrl := by
  have h0 : okM nCntrl = true := by decide +kernel
  have h1 : docClassM nCntrl = (addS (spanM 0 31).1 127, 0) := by simp only [docClassM]; rw [if_pos trivial]
  rw [h1, classM, if_pos h0]
  refine congrArg (fun s : BS => (s, (0 : Int))) (fill_eq _ _ fun k hk => ?_)
  have h2 : (spanM 0 31).1 = fillS (fun b => decide ((0 : UInt8).toNat ≤ b) && decide (b ≤ (31 : UInt8).toNat)) 256 := rfl
  rw [has_add _ _ _ (by omega) hk, h2, has_fill _ _ hk 256 (Nat.le_refl _)]
  exact (by decide +kernel : ∀ k : Fin 256, (((decide ((0 : UInt8).toNat ≤ k.val) && decide (k.val ≤ (31 : UInt8).toNat)) && decide (k.val < 256)) || decide (k.val = 127)) = isB nCntrl k.val) ⟨k, hk⟩
theorem class_no (l : List UInt8) (h : l ∉ names12) : classM l = docClassM l := by
  have h0 : okM l = false := decide_eq_false h
  simp only [names12, List.mem_cons, List.not_mem_nil, or_false, not_or] at h
  obtain ⟨h1, h2, h3, h4, h5, h6, h7, h8, h9, h10, h11, h12⟩ := h
  have ht : textM l = [] := by simp only [textM, *, if_false]
  have hz : ofS [] = zeroS := rfl
  have hl : (membersM zeroS).length = 0 := (memGo_nil _ 256).2 fun k _ => has_zero k
  simp only [classM, docClassM, h0, h11, if_false, ht, hz, hl, if_true, Bool.false_eq_true]
theorem class_eq (l : List UInt8) : classM l = docClassM l := by
  by_cases h : l ∈ names12
  · simp only [names12, List.mem_cons, List.not_mem_nil, or_false] at h
    rcases h with rfl | rfl | rfl | rfl | rfl | rfl | rfl | rfl | rfl | rfl | rfl | rfl
    · exact class_known nAlpha 65 _ (by decide) (by decide +kernel) rfl (by decide +kernel)
    · exact class_known nDigit 48 _ (by decide) (by decide +kernel) rfl (by decide +kernel)
    · exact class_known nAlnum 65 _ (by decide) (by decide +kernel) rfl (by decide +kernel)
    · exact class_known nUpper 65 _ (by decide) (by decide +kernel) rfl (by decide +kernel)
    · exact class_known nLower 97 _ (by decide) (by decide +kernel) rfl (by decide +kernel)
    · exact class_known nSpace 32 _ (by decide) (by decide +kernel) rfl (by decide +kernel)
    · exact class_known nBlank 32 _ (by decide) (by decide +kernel) rfl (by decide +kernel)
    · exact class_known nGraph 33 _ (by decide) (by decide +kernel) rfl (by decide +kernel)
    · exact class_known nPrint 33 _ (by decide) (by decide +kernel) rfl (by decide +kernel)
    · exact class_known nPunct 33 _ (by decide) (by decide +kernel) rfl (by decide +kernel)
    · exact class_cntrl
    · exact class_known nXdigit 48 _ (by decide) (by decide +kernel) rfl (by decide +kernel)
  · exact class_no l h
attribute [local irreducible] fillS memGo
theorem aw1 : spanM 97 99 = (ofS [99, 97, 98], 0) := by
  have h : spanM 97 99 = (fillS (fun b => decide ((97 : UInt8).toNat ≤ b) && decide (b ≤ (99 : UInt8).toNat)) 256, 0) := by simp only [spanM]; rw [if_neg (by decide)]
  rw [h, ← span_eq 97 99 (by decide)]
  exact congrArg (fun s : BS => (s, (0 : Int))) (by decide +kernel)
theorem aw2 : classM nDigit = (ofS tDigit, 0) := by rw [class_eq, doc_known nDigit 48 _ (by decide) rfl]; rfl
theorem aw3 : countS (ofS tDigit) = 10 := by decide +kernel
theorem aw4 : hasS (ofS tDigit) (55 : UInt8).toNat = true := by decide +kernel
theorem aw5 : hasS (ofS tDigit) (97 : UInt8).toNat = false := by decide +kernel
theorem span_ac (w : World) : Pure Tryd.prog 18 #[Uv 97, Uv 99] (fun _ : Unit => .tuple #[Bs (ofS [99, 97, 98]), Iv 0]) (fun _ => []) w := by
  have h := span_c 97 99 w; rw [aw1] at h; exact h
theorem class_digit (w : World) : Pure Tryd.prog 19 #[Sv nDigit] (fun _ : Unit => .tuple #[Bs (ofS tDigit), Iv 0]) (fun _ => []) w := by
  have h := class_c nDigit w; rw [aw2] at h; exact h
theorem count_digit (w : World) : Pure Tryd.prog 10 #[Bs (ofS tDigit)] (fun _ : Unit => Iv 10) (fun _ => []) w := by
  have h := count_c (ofS tDigit) w; rw [aw3] at h; exact h
theorem has_7 (w : World) : Pure Tryd.prog 8 #[Bs (ofS tDigit), Uv 55] (fun _ : Unit => .bool true) (fun _ => []) w := by
  have h := has_c (ofS tDigit) 55 w; rw [aw4] at h; exact h
theorem has_a (w : World) : Pure Tryd.prog 8 #[Bs (ofS tDigit), Uv 97] (fun _ : Unit => .bool false) (fun _ => []) w := by
  have h := has_c (ofS tDigit) 97 w; rw [aw5] at h; exact h
theorem awake_c (w : World) : Pure Tryd.prog 7 #[] (fun _ : Unit => .bool true) (fun _ => []) w := by
  refine calls_of_ES TB Tryd.func7 rfl _ Tryd.ntmps7 rfl (Sat.start w) ?_
  repeat (first | apply ES.seq | apply ES.skip | apply ES.region | apply EL.nil | apply ES.block | apply ES.nil | apply ES.exit | apply ES.ret | apply PX.hit | (apply PX.miss; exact rfl) | apply PX.then_x | apply PX.then_r | apply PX.block_n | apply PX.block_r | refine PX.then_n (e := .normal) ?_)
  refine EL.assign rfl rfl rfl ?_
  repeat (first | apply ES.seq | apply ES.skip | apply ES.region | apply EL.nil | apply ES.block | apply ES.nil | apply ES.exit | apply ES.ret | apply PX.hit | (apply PX.miss; exact rfl) | apply PX.then_x | apply PX.then_r | apply PX.block_n | apply PX.block_r | refine PX.then_n (e := .normal) ?_)
  refine EL.callP rfl rfl rfl ent18 rfl span_ac ?_
  refine EL.move rfl rfl rfl ?_
  refine EL.extract rfl rfl rfl rfl ?_
  refine EL.extract rfl rfl rfl rfl ?_
  (refine EL.alloc rfl rfl rfl ?_; intro g1)
  (apply EL.storeAll; exact rfl; exact rfl; exact rfl; exact rfl; exact rfl; (case p => (repeat (first | exact PickSet.here _ _ _ | apply PickSet.there))); exact rfl; (case h1 => exact (by first | rfl | exact (List.all_eq_true (p := fun u => u.oneCell')).1 rfl | (intro u hu; simp only [List.mem_cons, List.not_mem_nil, or_false] at hu; rcases hu with rfl | rfl | rfl | rfl <;> rfl) | (intro u hu; simp at hu; rcases hu with rfl | rfl | rfl | rfl <;> rfl) | (intro u hu; simp at hu; rcases hu with rfl | rfl | rfl <;> rfl) | (intro u hu; simp at hu; rcases hu with rfl | rfl <;> rfl) | (intro u hu; simp at hu; obtain ⟨_, _, rfl⟩ := hu; rfl))))
  refine EL.assign rfl rfl rfl ?_
  repeat (first | apply ES.seq | apply ES.skip | apply ES.region | apply EL.nil | apply ES.block | apply ES.nil | apply ES.exit | apply ES.ret | apply PX.hit | (apply PX.miss; exact rfl) | apply PX.then_x | apply PX.then_r | apply PX.block_n | apply PX.block_r | refine PX.then_n (e := .normal) ?_)
  refine EL.callP rfl rfl rfl ent19 rfl class_digit ?_
  refine EL.move rfl rfl rfl ?_
  refine EL.extract rfl rfl rfl rfl ?_
  refine EL.extract rfl rfl rfl rfl ?_
  (refine EL.alloc rfl rfl rfl ?_; intro g3)
  (apply EL.storeAll; exact rfl; exact rfl; exact rfl; exact rfl; exact rfl; (case p => (repeat (first | exact PickSet.here _ _ _ | apply PickSet.there))); exact rfl; (case h1 => exact (by first | rfl | exact (List.all_eq_true (p := fun u => u.oneCell')).1 rfl | (intro u hu; simp only [List.mem_cons, List.not_mem_nil, or_false] at hu; rcases hu with rfl | rfl | rfl | rfl <;> rfl) | (intro u hu; simp at hu; rcases hu with rfl | rfl | rfl | rfl <;> rfl) | (intro u hu; simp at hu; rcases hu with rfl | rfl | rfl <;> rfl) | (intro u hu; simp at hu; rcases hu with rfl | rfl <;> rfl) | (intro u hu; simp at hu; obtain ⟨_, _, rfl⟩ := hu; rfl))))
  refine EL.assign rfl rfl rfl ?_
  repeat (first | apply EL.nil | apply ES.seq | apply ES.skip)
  refine ES.draw (X := Unit) (fun _ => [(0, .bool true)]) (fun _ => []) [SB g1 (ofS [99, 97, 98]), SB g3 (ofS tDigit)] mixed (by repeat (first | exact Ent.nil _ | exact Ent.refl _ | (apply Ent.cons; case p => repeat (first | exact Pick.here _ _ | apply Pick.there)) | apply Ent.drop)) ?_ (fun _ => ?_)
  · refine ED.take 0 rfl (by decide +kernel) CutX.no_panic (by decide +kernel) rfl rfl rfl (RV.move rfl) ?_
    refine ED.take 1 rfl (by decide +kernel) CutX.no_panic (by decide +kernel) rfl rfl rfl (RV.eqlI rfl rfl) ?_
    refine ED.take 2 rfl (by decide +kernel) CutX.no_panic (by decide +kernel) rfl rfl rfl (RV.move rfl) ?_
    refine ED.rew (d := 15) (v' := .bool true) rfl (by first | rfl | (decide) | (simp)) ?_
    refine ED.take 3 rfl (by decide +kernel) CutX.no_panic (by decide +kernel) rfl rfl rfl (RV.move rfl) ?_
    refine ED.take 4 rfl (by decide +kernel) CutX.no_panic (by decide +kernel) rfl rfl rfl (RV.eqlI rfl rfl) ?_
    refine ED.take 5 rfl (by decide +kernel) CutX.no_panic (by decide +kernel) rfl rfl rfl (RV.pickT rfl rfl) ?_
    refine ED.take 6 rfl (by decide +kernel) CutX.no_panic (by decide +kernel) rfl rfl rfl (RV.move rfl) ?_
    refine ED.rew (d := 19) (v' := .bool true) rfl (by first | rfl | (decide) | (simp)) ?_
    refine ED.take 7 rfl (by decide +kernel) CutX.no_panic (by decide +kernel) rfl rfl rfl (RV.loadAggB rfl rfl rfl (by repeat (first | exact Mem.here _ _ | apply Mem.there)) rfl) ?_
    refine ED.loud 8 rfl (by decide +kernel) ?_
    refine EL.callP rfl rfl rfl ent13 rfl (of_c [99, 97, 98] (by decide)) ?_
    refine ED.next (by repeat (first | exact Ent.nil _ | exact Ent.refl _ | (apply Ent.cons; case p => repeat (first | exact Pick.here _ _ | apply Pick.there)) | apply Ent.drop)) ?_
    refine ED.take 9 rfl (by decide +kernel) CutX.no_panic (by decide +kernel) rfl rfl rfl (RV.eqlBS rfl rfl eqg24 rfl rfl rfl rfl rfl) ?_
    refine ED.take 10 rfl (by decide +kernel) CutX.no_panic (by decide +kernel) rfl rfl rfl (RV.pickT rfl rfl) ?_
    refine ED.take 11 rfl (by decide +kernel) CutX.no_panic (by decide +kernel) rfl rfl rfl (RV.move rfl) ?_
    refine ED.rew (d := 24) (v' := .bool true) rfl (congrArg Value.bool (decide_eq_true rfl)) ?_
    refine ED.take 12 rfl (by decide +kernel) CutX.no_panic (by decide +kernel) rfl rfl rfl (RV.loadAggB rfl rfl rfl (by repeat (first | exact Mem.here _ _ | apply Mem.there)) rfl) ?_
    refine ED.loud 13 rfl (by decide +kernel) ?_
    refine EL.callP rfl rfl rfl ent10 rfl count_digit ?_
    refine ED.next (by repeat (first | exact Ent.nil _ | exact Ent.refl _ | (apply Ent.cons; case p => repeat (first | exact Pick.here _ _ | apply Pick.there)) | apply Ent.drop)) ?_
    refine ED.take 14 rfl (by decide +kernel) CutX.no_panic (by decide +kernel) rfl rfl rfl (RV.eqlI rfl rfl) ?_
    refine ED.take 15 rfl (by decide +kernel) CutX.no_panic (by decide +kernel) rfl rfl rfl (RV.pickT rfl rfl) ?_
    refine ED.take 16 rfl (by decide +kernel) CutX.no_panic (by decide +kernel) rfl rfl rfl (RV.move rfl) ?_
    refine ED.rew (d := 29) (v' := .bool true) rfl (by first | rfl | (decide) | (simp)) ?_
    refine ED.take 17 rfl (by decide +kernel) CutX.no_panic (by decide +kernel) rfl rfl rfl (RV.loadAggB rfl rfl rfl (by repeat (first | exact Mem.here _ _ | apply Mem.there)) rfl) ?_
    refine ED.loud 18 rfl (by decide +kernel) ?_
    refine EL.callP rfl rfl rfl ent8 rfl has_7 ?_
    refine ED.next (by repeat (first | exact Ent.nil _ | exact Ent.refl _ | (apply Ent.cons; case p => repeat (first | exact Pick.here _ _ | apply Pick.there)) | apply Ent.drop)) ?_
    refine ED.take 19 rfl (by decide +kernel) CutX.no_panic (by decide +kernel) rfl rfl rfl (RV.pickT rfl rfl) ?_
    refine ED.take 20 rfl (by decide +kernel) CutX.no_panic (by decide +kernel) rfl rfl rfl (RV.move rfl) ?_
    refine ED.rew (d := 33) (v' := .bool true) rfl (by first | rfl | (decide) | (simp)) ?_
    refine ED.take 21 rfl (by decide +kernel) CutX.no_panic (by decide +kernel) rfl rfl rfl (RV.loadAggB rfl rfl rfl (by repeat (first | exact Mem.here _ _ | apply Mem.there)) rfl) ?_
    refine ED.loud 22 rfl (by decide +kernel) ?_
    refine EL.callP rfl rfl rfl ent8 rfl has_a ?_
    refine ED.next (by repeat (first | exact Ent.nil _ | exact Ent.refl _ | (apply Ent.cons; case p => repeat (first | exact Pick.here _ _ | apply Pick.there)) | apply Ent.drop)) ?_
    refine ED.take 23 rfl (by decide +kernel) CutX.no_panic (by decide +kernel) rfl rfl rfl (RV.not rfl) ?_
    refine ED.take 24 rfl (by decide +kernel) CutX.no_panic (by decide +kernel) rfl rfl rfl (RV.pickT rfl rfl) ?_
    refine ED.take 25 rfl (by decide +kernel) CutX.no_panic (by decide +kernel) rfl rfl rfl (RV.assign rfl) ?_
    refine ED.done (by decide +kernel) ?_
    exact PX.cutX () ⟨rfl, trivial⟩ (by repeat (first | exact Ent.nil _ | exact Ent.refl _ | (apply Ent.cons; case p => repeat (first | exact Pick.here _ _ | apply Pick.there)) | apply Ent.drop))
  repeat (first | apply ES.seq | apply ES.skip | apply ES.region | apply EL.nil | apply ES.block | apply ES.nil | apply ES.exit | apply ES.ret | apply PX.hit | (apply PX.miss; exact rfl) | apply PX.then_x | apply PX.then_r | apply PX.block_n | apply PX.block_r | refine PX.then_n (e := .normal) ?_)
  exact PX.ret rfl Tryd.results7 (.cons (.tmp rfl) .nil) (fun w hs => ⟨(), rfl, hs.ent (.nil _)⟩)
end Go.Proofs.YtlianigenfknpaaDoor
