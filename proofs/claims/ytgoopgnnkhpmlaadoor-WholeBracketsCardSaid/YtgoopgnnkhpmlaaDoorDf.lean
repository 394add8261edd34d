/- Layer 2 (bset): the classes are the document's; the laws' own test; Of, Span, Class, Not, Or, And against the document. -/
import Derived.Test.YtgoopgnnkhpmlaaDoorDe
namespace Go.Proofs.YtgoopgnnkhpmlaaDoor
open Go Go.RowKit Sl
set_option maxRecDepth 100000
set_option maxHeartbeats 8000000
set_option linter.unusedVariables false
set_option linter.unusedSimpArgs false
attribute [local irreducible] ES EL PX wps

theorem has_of (k : Nat) (hk : k < 256) : ∀ (l : List UInt8) (s : BS), hasS (l.foldl (fun s b => addS s b.toNat) s) k = (hasS s k || l.any fun b => b.toNat == k)
  | [], s => by simp
  | b :: l, s => by
    rw [List.foldl_cons, has_of k hk l, has_add _ _ _ b.toNat_lt hk, List.any_cons, Bool.or_assoc]
    congr 2
    rw [Bool.eq_iff_iff]
    simp only [decide_eq_true_eq, beq_iff_eq]
    omega
theorem has_ofS (l : List UInt8) (k : Nat) (hk : k < 256) : hasS (ofS l) k = l.any fun b => b.toNat == k := by
  rw [ofS, has_of k hk, has_zero, Bool.false_or]
theorem memGo_nil (p : Nat → Bool) : ∀ n, (memGo p n).length = 0 ↔ ∀ k, k < n → p k = false
  | 0 => by simp [memGo]
  | n + 1 => by
    rw [memGo]
    have ih := memGo_nil p n
    split
    · rename_i h
      simp only [List.length_append, List.length_singleton]
      refine ⟨fun h => by omega, fun h2 => ?_⟩
      have := h2 n (by omega)
      rw [h] at this; cases this
    · rename_i h
      rw [ih]
      refine ⟨fun h2 k hk => ?_, fun h2 k hk => h2 k (by omega)⟩
      rcases Nat.lt_or_ge k n with h3 | h3
      · exact h2 k h3
      · obtain rfl : k = n := by omega
        simpa using h
theorem doc_known (l : List UInt8) (b : UInt8) (t : List UInt8) (hl : l ≠ nCntrl) (ht : textM l = b :: t) : docClassM l = (ofS (textM l), 0) := by
  have hne : ¬ (membersM (ofS (textM l))).length = 0 := fun h => by
    have h1 := (memGo_nil _ 256).1 h b.toNat b.toNat_lt
    rw [has_ofS _ _ b.toNat_lt, ht] at h1
    simp at h1
  simp only [docClassM]
  rw [if_neg hl, if_neg hne]
theorem class_known (l : List UInt8) (b : UInt8) (t : List UInt8) (hl : l ≠ nCntrl) (hok : okM l = true) (ht : textM l = b :: t) (h : ∀ k : Fin 256, ((textM l).any fun b => b.toNat == k.val) = isB l k.val) : classM l = docClassM l := by
  rw [doc_known l b t hl ht, classM, if_pos hok]
  exact congrArg (fun s : BS => (s, (0 : Int))) (fill_eq _ _ fun k hk => by rw [has_ofS _ _ hk]; exact h ⟨k, hk⟩)
theorem class_cntrl : classM nCntrl = docClassM nCntrl := by
  have h0 : okM nCntrl = true := by decide +kernel
  have h1 : docClassM nCntrl = (addS (spanM 0 31).1 127, 0) := by simp only [docClassM]; rw [if_pos trivial]
  rw [h1, classM, if_pos h0]
  refine congrArg (fun s : BS => (s, (0 : Int))) (fill_eq _ _ fun k hk => ?_)
  have h2 : (spanM 0 31).1 = fillS (fun b => decide ((0 : UInt8).toNat ≤ b) && decide (b ≤ (31 : UInt8).toNat)) 256 := rfl
  rw [has_add _ _ _ (by omega) hk, h2, has_fill _ _ hk 256 (Nat.le_refl _)]
  exact (by decide +kernel : ∀ k : Fin 256, (((decide ((0 : UInt8).toNat ≤ k.val) && decide (k.val ≤ (31 : UInt8).toNat)) && decide (k.val < 256)) || decide (k.val = 127)) = isB nCntrl k.val) ⟨k, hk⟩
theorem class_no (l : List UInt8) (h : l ∉ names12) : classM l = docClassM l := by
  have h0 : okM l = false := decide_eq_false h
  simp only [names12, List.mem_cons, List.not_mem_nil, or_false, not_or] at h
  obtain ⟨h1, h2, h3, h4, h5, h6, h7, h8, h9, h10, h11, h12⟩ := h
  have ht : textM l = [] := by simp only [textM, *, if_false]
  have hz : ofS [] = zeroS := rfl
  have hl : (membersM zeroS).length = 0 := (memGo_nil _ 256).2 fun k _ => has_zero k
  simp only [classM, docClassM, h0, h11, if_false, ht, hz, hl, if_true, Bool.false_eq_true]
theorem class_eq (l : List UInt8) : classM l = docClassM l := by
  by_cases h : l ∈ names12
  · simp only [names12, List.mem_cons, List.not_mem_nil, or_false] at h
    rcases h with rfl | rfl | rfl | rfl | rfl | rfl | rfl | rfl | rfl | rfl | rfl | rfl
    · exact class_known nAlpha 65 _ (by decide) (by decide +kernel) rfl (by decide +kernel)
    · exact class_known nDigit 48 _ (by decide) (by decide +kernel) rfl (by decide +kernel)
    · exact class_known nAlnum 65 _ (by decide) (by decide +kernel) rfl (by decide +kernel)
    · exact class_known nUpper 65 _ (by decide) (by decide +kernel) rfl (by decide +kernel)
    · exact class_known nLower 97 _ (by decide) (by decide +kernel) rfl (by decide +kernel)
    · exact class_known nSpace 32 _ (by decide) (by decide +kernel) rfl (by decide +kernel)
    · exact class_known nBlank 32 _ (by decide) (by decide +kernel) rfl (by decide +kernel)
    · exact class_known nGraph 33 _ (by decide) (by decide +kernel) rfl (by decide +kernel)
    · exact class_known nPrint 33 _ (by decide) (by decide +kernel) rfl (by decide +kernel)
    · exact class_known nPunct 33 _ (by decide) (by decide +kernel) rfl (by decide +kernel)
    · exact class_cntrl
    · exact class_known nXdigit 48 _ (by decide) (by decide +kernel) rfl (by decide +kernel)
  · exact class_no l h
attribute [local irreducible] fillS memGo
theorem aw1 : spanM 97 99 = (ofS [99, 97, 98], 0) := by
  have h : spanM 97 99 = (fillS (fun b => decide ((97 : UInt8).toNat ≤ b) && decide (b ≤ (99 : UInt8).toNat)) 256, 0) := by simp only [spanM]; rw [if_neg (by decide)]
  rw [h, ← span_eq 97 99 (by decide)]
  exact congrArg (fun s : BS => (s, (0 : Int))) (by decide +kernel)
theorem aw2 : classM nDigit = (ofS tDigit, 0) := by rw [class_eq, doc_known nDigit 48 _ (by decide) rfl]; rfl
theorem aw3 : countS (ofS tDigit) = 10 := by decide +kernel
theorem aw4 : hasS (ofS tDigit) (55 : UInt8).toNat = true := by decide +kernel
theorem aw5 : hasS (ofS tDigit) (97 : UInt8).toNat = false := by decide +kernel
theorem span_ac (w : World) : Pure Tryd.prog 19 #[Uv 97, Uv 99] (fun _ : Unit => .tuple #[Bs (ofS [99, 97, 98]), Iv 0]) (fun _ => []) w := by
  have h := span_c 97 99 w; rw [aw1] at h; exact h
theorem class_digit (w : World) : Pure Tryd.prog 24 #[Sv nDigit] (fun _ : Unit => .tuple #[Bs (ofS tDigit), Iv 0]) (fun _ => []) w := by
  have h := class_c nDigit w; rw [aw2] at h; exact h
end Go.Proofs.YtgoopgnnkhpmlaaDoor
