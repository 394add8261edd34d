/- Texts of this claim, bundled. -/
import Derived.Test.YthcbjbkheodejaaGreatZg4
set_option linter.unusedVariables false
set_option linter.unusedSimpArgs false
namespace Go.Proofs.YthcbjbkheodejaaGreat
open Go.ChangeShapes Go.WideShapes Go.ChangeAt
open Go Go.RowKit Sl
set_option maxRecDepth 100000
set_option maxHeartbeats 8000000
attribute [local irreducible] ES EL PX wps
theorem spsC_get : ∀ (l : List Spn) (i : Nat) (r : Spn), l[i]? = some r → ∀ j u, (spC r)[j]? = some u → (spsC l)[i * 2 + j]? = some u
  | [], i, r, h, _, _, _ => by simp at h
  | r' :: l, 0, r, h, j, u, hj => by
    simp only [List.getElem?_cons_zero, Option.some.injEq] at h
    subst h
    have hlt := (List.getElem?_eq_some_iff.1 hj).1
    rw [Nat.zero_mul, Nat.zero_add]
    show (spC r' ++ spsC l)[j]? = some u
    rw [List.getElem?_append_left hlt]; exact hj
  | r' :: l, i + 1, r, h, j, u, hj => by
    simp only [List.getElem?_cons_succ] at h
    have ih := spsC_get l i r h j u hj
    have hl : (spC r').length = 2 := rfl
    show (spC r' ++ spsC l)[(i + 1) * 2 + j]? = some u
    rw [List.getElem?_append_right (by omega), show (i + 1) * 2 + j - (spC r').length = i * 2 + j by omega]
    exact ih
theorem same08_c (xs : List Spn) (ad1 ad2 : Option Addr) (cap1 cap2 : Nat) (hlen : xs.length ≤ 4611686018427387904) (w : World) (h1 : Rd w w.heap.size ad1 (spsC xs)) (h2 : Rd w w.heap.size ad2 (spsC xs)) :
    Pure Tryz.prog 19 #[.slice ad1 xs.length cap1, .slice ad2 xs.length cap2] (fun _ : Unit => .bool true) (fun _ => []) w := by
  have hl := spsC_len xs
  refine calls_of_ES TB Tryz.func19 rfl _ Tryz.ntmps19 rfl (Sat.start w) ?_; refine .go ?_; (repeat constructor); refine .as_ ?_; refine .go ?_; (repeat constructor); refine .mv ?_; refine .lL ?_; refine .mv ?_; refine .lL ?_; refine .ni ?_; refine .go ?_; repeat constructor
  refine ES.condN rfl (fun h => absurd rfl h) (fun _ => ?_)
  refine .go ?_; (repeat constructor); refine .as_ ?_; refine .go ?_; (repeat constructor); refine ES.loop (σ := Nat) (fun i => i ≤ xs.length) (fun i => [(0, .slice ad1 xs.length cap1), (1, .slice ad2 xs.length cap2), (5, Iv (i : Nat))]) (fun _ => []) (fun i => xs.length - i) 0 (Nat.zero_le _) ⟨rfl, rfl, rfl, trivial⟩ (.i (by repeat constructor)) ?_
  intro i hi
  refine .go ?_; (repeat constructor); refine .mv ?_; refine .mv ?_; refine .lL ?_; refine .ls ?_; refine .go ?_; repeat constructor
  refine ES.condD rfl (fun hlt => ?_) (fun hge => ?_)
  · have hlt' : i < xs.length := by omega
    obtain ⟨p, hp⟩ : ∃ p, xs[i]? = some p := ⟨_, List.getElem?_eq_getElem hlt'⟩
    have hne : spsC xs ≠ [] := fun e => by rw [e] at hl; simp at hl; omega
    obtain ⟨g1, o1, rfl, _⟩ := h1 hne
    obtain ⟨g2, o2, rfl, _⟩ := h2 hne
    refine .g0 ?_; repeat constructor
    refine ES.draw (X := Unit) (fun _ => [(0, .slice (some ⟨g1, o1, none⟩) xs.length cap1), (1, .slice (some ⟨g2, o2, none⟩) xs.length cap2), (5, Iv (i : Nat)), (25, .bool false)]) (fun _ => []) [] mixed (.i (by repeat constructor)) ?_ (fun _ => ?_)
    · refine .tk 0 rfl (RV.move rfl) ?_; refine .tk 1 rfl (RV.move rfl) ?_; refine .tk 2 rfl (RV.indexAddrL rfl rfl rfl rfl rfl (by omega)) ?_; refine .tk 3 rfl (RV.loadOldA (j := i * 2) (vs := spC p) rfl rfl rfl rfl (by simp [spC]) h1 (spsC_get xs i p hp)) ?_; refine .tk 4 rfl (RV.move rfl) ?_; refine .tk 5 rfl (RV.move rfl) ?_; refine .tk 6 rfl (RV.indexAddrL rfl rfl rfl rfl rfl (by omega)) ?_; refine .tk 7 rfl (RV.loadOldA (j := i * 2) (vs := spC p) rfl rfl rfl rfl (by simp [spC]) h2 (spsC_get xs i p hp)) ?_; refine .tk 8 rfl (RV.neqAgg (b := true) rfl rfl eqg29 (fun w => (run_equal_st2 TB rfl rfl sth29 rfl rfl rfl rfl rfl rfl rfl rfl p.1 p.2 p.1 p.2 w).trans (by simp))) ?_; refine .dn ?_
      exact .cy ()
    refine ES.condF rfl ?_; refine .go ?_; (repeat constructor); refine .mv ?_; refine .a1 ?_; refine .as_ ?_; refine .go ?_; repeat constructor
    exact .ly (i + 1) (by omega) (by omega)
  refine .go ?_; (repeat constructor); refine .as_ ?_; refine .go ?_; repeat constructor
  exact PX.ret rfl Tryz.results19 (.cons (.tmp rfl) .nil) (fun w hs => ⟨(), rfl, hs.ent (.i (by repeat constructor))⟩)
theorem awake08_c (w : World) (hG : GR w w.heap.size) : Pure Tryz.prog 6 #[] (fun _ : Unit => .bool true) (fun _ => []) w := by
  obtain ⟨m, hm, hf⟩ := Option.map_eq_some_iff.1 set_awake
  simp only [Prod.mk.injEq, decide_eq_true_eq] at hf
  obtain ⟨f1, f2, f3, f4⟩ := hf
  have hc := fun w hG => setMatch_c 60 [92, 40, 92, 40, 97, 92, 41, 42, 98, 92, 41, 42] [97, 97, 98, 98] 0 m hm (by decide) w hG
  rw [f1, f2, f3] at hc
  refine calls_of_ES TB Tryz.func6 rfl _ Tryz.ntmps6 rfl (Sat.start w) ?_; refine .go ?_; (repeat constructor); refine .as_ ?_; refine .go ?_; (repeat constructor); (refine EL.callXw rfl rfl rfl ent7 rfl (fun w hs => hc w (GR.sat hG hs)) ?_; intro x1); refine .mv ?_; refine .ex ?_; refine .ex ?_; refine .ex ?_; refine .ex ?_; refine .as_ ?_; refine .as_ ?_; refine .as_ ?_; refine .as_ ?_; refine .go ?_; (repeat constructor); refine .go ?_; (repeat constructor); refine .mv ?_; refine .ei ?_; refine .mv ?_
  refine EL.rew (d := 13) (v' := .bool true) rfl (by first | rfl | (decide) | (simp)) ?_
  refine .mv ?_; refine .pt ?_; refine .mv ?_
  refine EL.rew (d := 16) (v' := .bool true) rfl (by first | rfl | (decide) | (simp)) ?_
  refine .mv ?_; refine .gq ?_; refine .pt ?_; refine .mv ?_; refine EL.rew (d := 20) (v' := .bool true) rfl (congrArg Value.bool (decide_eq_true (by omega))) ?_; refine .mv ?_
  (apply EL.build2; exact rfl; exact rfl; exact rfl; exact rfl; exact rfl; exact rfl; exact rfl; exact rfl; exact rfl; exact rfl)
  (apply EL.build2; exact rfl; exact rfl; exact rfl; exact rfl; exact rfl; exact rfl; exact rfl; exact rfl; exact rfl; exact rfl)
  (apply EL.build2; exact rfl; exact rfl; exact rfl; exact rfl; exact rfl; exact rfl; exact rfl; exact rfl; exact rfl; exact rfl)
  (refine EL.buildSliceC (spsC [(0, 4), (3, 4), (1, 2)]).toArray rfl rfl rfl rfl rfl rfl (by kernel_rfl) rfl rfl rfl rfl ?_; intro b25); refine EL.callPw rfl rfl rfl ent19 rfl (fun w hs => same08_c [(0, 4), (3, 4), (1, 2)] _ _ _ _ (by decide) w (Rd.row hs (by repeat constructor) (by decide)) (Rd.row hs (by repeat constructor) (by decide))) ?_; refine .pt ?_; refine .as_ ?_; refine .go ?_; repeat constructor
  exact PX.ret rfl Tryz.results6 (.cons (.tmp rfl) .nil) (fun w hs => ⟨(), rfl, hs.ent (.nil _)⟩)
end Go.Proofs.YthcbjbkheodejaaGreat
namespace Go.Proofs.YthcbjbkheodejaaGreat
open Go Go.RowKit Sl
set_option maxRecDepth 100000
set_option maxHeartbeats 8000000
attribute [local irreducible] ES EL PX wps
attribute [local irreducible] fillS memGo
theorem rhas_c (s : BS) (k : Nat) (hk : k < 256) (w : World) : Pure Tryz.prog 110 #[Bs s, Iv k] (fun _ : Unit => .bool (hasS s k)) (fun _ => []) w := by
  refine calls_of_ES TB Tryz.func110 rfl _ Tryz.ntmps110 rfl (Sat.start w) ?_; refine .go ?_; (repeat constructor); (refine .bx ?_; intro g2); refine .as_ ?_; refine .go ?_; (repeat constructor); refine .mv ?_
  refine EL.ofRV (RV.quoU (n := 64) rfl rfl (by omega) (by simp only [kmax]; omega)) rfl rfl rfl (by intro c h; cases h) ?_
  refine EL.indexAddrA1 rfl rfl rfl rfl rfl rfl rfl rfl (by omega) ?_; refine EL.loadBS rfl rfl rfl rfl rfl (by repeat constructor) (by omega) ?_; refine .mv ?_; refine EL.remN (n := 64) rfl rfl rfl rfl (by omega) ?_
  refine EL.convN rfl rfl rfl rfl rfl rfl (by simp only [kmax]; omega) ?_
  refine EL.ofRV (RV.shrW rfl rfl rfl (by omega)) rfl rfl rfl (by intro c h; cases h) ?_
  refine EL.ofRV (RV.andW (b := 1) rfl rfl rfl rfl) rfl rfl rfl (by intro c h; cases h) ?_
  refine .ei ?_; refine .as_ ?_; refine .go ?_; repeat constructor
  exact PX.ret rfl Tryz.results110 (.cons (.tmp rfl) .nil) (fun w hs => ⟨(), rfl, hs.ent (.nil _)⟩)
theorem fillS_y (p : Nat → Bool) (i : Nat) (h : p i = true) : addS (fillS p i) i = fillS p (i + 1) := by rw [fillS, if_pos h]
theorem fillS_n (p : Nat → Bool) (i : Nat) (h : p i = false) : fillS p i = fillS p (i + 1) := by rw [fillS, if_neg (by rw [h]; simp)]
theorem fillS_0 (p : Nat → Bool) : zeroS.cells = (fillS p 0).cells := by rw [fillS]
theorem memGo_y (p : Nat → Bool) (i : Nat) (h : p i = true) : memGo p i ++ [UInt8.ofNat i] = memGo p (i + 1) := by rw [memGo, if_pos h]
theorem memGo_n (p : Nat → Bool) (i : Nat) (h : p i = false) : memGo p i = memGo p (i + 1) := by rw [memGo, if_neg (by rw [h]; simp)]
theorem memGo_0 (p : Nat → Bool) : memGo p 0 = [] := by rw [memGo]
theorem rmembers_c (s : BS) (w : World) : Pure Tryz.prog 137 #[Bs s] (fun x : Option Addr × Nat => .slice x.1 (membersM s).length x.2) (fun x => [HA.row (.slice x.1 (membersM s).length x.2) 5 1 (membersM s).length ((membersM s).map Uv)]) w := by
  refine calls_of_ES TB Tryz.func137 rfl _ Tryz.ntmps137 rfl (Sat.start w) ?_; refine .go ?_; (repeat constructor); (refine .bx ?_; intro g1); refine .as_ ?_; refine .go ?_; (repeat constructor); refine .as_ ?_; refine .go ?_; (repeat constructor); refine EL.nilRow 5 1 ?_; refine .go ?_; (repeat constructor); refine .as_ ?_; refine .go ?_; repeat constructor
  refine ES.loop (σ := Nat × Option Addr × Nat) (fun (i, _, _) => i ≤ 256) (fun (i, ad, cap) => [(1, Pv g1 0), (3, .slice ad (memGo (hasS s) i).length cap), (4, Iv i)]) (fun (i, ad, cap) => [SB g1 s, HA.row (.slice ad (memGo (hasS s) i).length cap) 5 1 (memGo (hasS s) i).length ((memGo (hasS s) i).map Uv)]) (fun (i, _, _) => 256 - i) (0, none, 0) (Nat.zero_le _) ⟨rfl, getA rfl (by rw [memGo_0]; rfl), rfl, trivial⟩ (by dsimp only; rw [memGo_0]; exact (.i (by repeat constructor))) ?_
  rintro ⟨i, ad, cap⟩ hi
  dsimp only at hi ⊢
  refine .go ?_; (repeat constructor); refine .mv ?_; refine .ls ?_; refine .go ?_; repeat constructor
  refine ES.condD rfl (fun hlt => ?_) (fun hge => ?_)
  · have hlt' : i < 256 := by omega
    have hle := memGo_le (hasS s) i
    have hk8 : (UInt8.ofNat i).toNat = i := by simp; omega
    refine .go ?_; (repeat constructor); refine .lg ?_; refine .mv ?_; refine EL.callP rfl rfl rfl ent110 rfl (rhas_c s i hlt') ?_; refine .go ?_; repeat constructor
    refine ES.cutC (X := Option Addr × Nat) (fun x => [(1, Pv g1 0), (3, .slice x.1 (memGo (hasS s) (i + 1)).length x.2), (4, Iv i)]) (fun x => [SB g1 s, HA.row (.slice x.1 (memGo (hasS s) (i + 1)).length x.2) 5 1 (memGo (hasS s) (i + 1)).length ((memGo (hasS s) (i + 1)).map Uv)]) ?_ (fun x => ?_)
    · refine ES.cond rfl (fun hb => ?_) (fun hb => ?_)
      · have hy := memGo_y (hasS s) i hb
        have e1 : (memGo (hasS s) i).length + 1 = (memGo (hasS s) (i + 1)).length := by rw [← hy]; simp
        have e2 : (memGo (hasS s) i).map Uv ++ [Uv (UInt8.ofNat i)] = (memGo (hasS s) (i + 1)).map Uv := by rw [← hy]; simp
        refine .go ?_; (repeat constructor); refine .mv ?_; refine .mv ?_
        refine EL.convI ((UInt8.ofNat i).toNat : Int) rfl rfl rfl rfl rfl rfl (by rw [hk8]; exact wrap_u8 _ hlt') ?_
        (refine .b1 ?_; intro b15)
        (refine EL.append1 rfl rfl rfl rfl rfl rfl rfl rfl rfl (by repeat constructor) (by repeat constructor) (by first | (intro u hu; simp [Value.cells] at hu; subst hu; rfl) | exact all1 rfl) (by rfl) (by unfold maxLen; omega) (by first | omega | (show 1 * _ ≤ _; omega) | (show 8 * _ ≤ _; omega) | (show 16 * _ ≤ _; omega) | (show 24 * _ ≤ _; omega) | (show _ * 1 ≤ _; omega) | (show _ * 8 ≤ _; omega) | (show _ * 16 ≤ _; omega) | (show _ * 24 ≤ _; omega) | exact Nat.le_trans (Nat.mul_le_mul_right _ (show _ ≤ 1073741824 by omega)) (by decide)) ?_; intro a16 c16)
        refine .as_ ?_; refine .go ?_; (repeat constructor); refine PX.cutX (some ⟨a16, 0, none⟩, c16) ⟨rfl, getA rfl (by rw [e1]), rfl, trivial⟩ ?_
        rw [← e1, ← e2]
        exact (.i (by repeat constructor))
      · rw [memGo_n (hasS s) i hb]
        refine .go ?_; repeat constructor
        exact .cy (ad, cap)
    obtain ⟨ad', cap'⟩ := x
    refine .go ?_; (repeat constructor); refine .mv ?_; refine .a1 ?_; refine .as_ ?_; refine .go ?_; repeat constructor
    exact .ly (i + 1, ad', cap') (by simp only; omega) (by simp only; omega)
  obtain rfl : i = 256 := by omega
  refine .go ?_; (repeat constructor); refine .mv ?_; refine .as_ ?_; refine .go ?_; repeat constructor
  exact PX.ret rfl Tryz.results137 (.cons (.tmp rfl) .nil) (fun w hs => ⟨(ad, cap), rfl, hs.ent (.i (by repeat constructor))⟩)
theorem rcount_c (s : BS) (w : World) : Pure Tryz.prog 134 #[Bs s] (fun _ : Unit => Iv ((membersM s).length : Nat)) (fun _ => []) w := by
  refine calls_of_ES TB Tryz.func134 rfl _ Tryz.ntmps134 rfl (Sat.start w) ?_; refine .go ?_; (repeat constructor); (refine .bx ?_; intro g1); refine .as_ ?_; refine .go ?_; (repeat constructor); refine .lg ?_
  (refine EL.callX rfl rfl rfl ent137 rfl (rmembers_c s) ?_; rintro ⟨ad, cap⟩)
  refine .lL ?_; refine .as_ ?_; refine .go ?_; repeat constructor
  exact PX.ret rfl Tryz.results134 (.cons (.tmp rfl) .nil) (fun w hs => ⟨(), rfl, hs.ent (.nil _)⟩)
end Go.Proofs.YthcbjbkheodejaaGreat
namespace Go.Proofs.YthcbjbkheodejaaGreat
open Go Go.RowKit Sl
set_option maxRecDepth 100000
set_option maxHeartbeats 8000000
attribute [local irreducible] ES EL PX wps
attribute [local irreducible] fillS memGo
end Go.Proofs.YthcbjbkheodejaaGreat
namespace Go.Proofs.YthcbjbkheodejaaGreat
open Go Go.RowKit Sl
set_option maxRecDepth 100000
set_option maxHeartbeats 8000000
attribute [local irreducible] ES EL PX wps
theorem has_of (k : Nat) (hk : k < 256) : ∀ (l : List UInt8) (s : BS), hasS (l.foldl (fun s b => addS s b.toNat) s) k = (hasS s k || l.any fun b => b.toNat == k)
  | [], s => by simp
  | b :: l, s => by
    rw [List.foldl_cons, has_of k hk l, has_add _ _ _ b.toNat_lt hk, List.any_cons, Bool.or_assoc]
    congr 2
    rw [Bool.eq_iff_iff]
    simp only [decide_eq_true_eq, beq_iff_eq]
    omega
theorem has_ofS (l : List UInt8) (k : Nat) (hk : k < 256) : hasS (ofS l) k = l.any fun b => b.toNat == k := by
  rw [ofS, has_of k hk, has_zero, Bool.false_or]
theorem memGo_nil (p : Nat → Bool) : ∀ n, (memGo p n).length = 0 ↔ ∀ k, k < n → p k = false
  | 0 => by simp [memGo]
  | n + 1 => by
    rw [memGo]
    have ih := memGo_nil p n
    split
    · rename_i h
      simp only [List.length_append, List.length_singleton]
      refine ⟨fun h => by omega, fun h2 => ?_⟩
      have := h2 n (by omega)
      rw [h] at this; cases this
    · rename_i h
      rw [ih]
      refine ⟨fun h2 k hk => ?_, fun h2 k hk => h2 k (by omega)⟩
      rcases Nat.lt_or_ge k n with h3 | h3
      · exact h2 k h3
      · obtain rfl : k = n := by omega
        simpa using h
theorem doc_known (l : List UInt8) (b : UInt8) (t : List UInt8) (hl : l ≠ nCntrl) (ht : textM l = b :: t) : docClassM l = (ofS (textM l), 0) := by
  have hne : ¬ (membersM (ofS (textM l))).length = 0 := fun h => by
    have h1 := (memGo_nil _ 256).1 h b.toNat b.toNat_lt
    rw [has_ofS _ _ b.toNat_lt, ht] at h1
    simp at h1
  simp only [docClassM]
  rw [if_neg hl, if_neg hne]
theorem class_known (l : List UInt8) (b : UInt8) (t : List UInt8) (hl : l ≠ nCntrl) (hok : okM l = true) (ht : textM l = b :: t) (h : ∀ k : Fin 256, ((textM l).any fun b => b.toNat == k.val) = isB l k.val) : classM l = docClassM l := by
  rw [doc_known l b t hl ht, classM, if_pos hok]
  exact congrArg (fun s : BS => (s, (0 : Int))) (fill_eq _ _ fun k hk => by rw [has_ofS _ _ hk]; exact h ⟨k, hk⟩)
theorem class_cntrl : classM nCntrl = docClassM nCntrl := by
  have h0 : okM nCntrl = true := by decide +kernel
  have h1 : docClassM nCntrl = (addS (spanM 0 31).1 127, 0) := by simp only [docClassM]; rw [if_pos trivial]
  rw [h1, classM, if_pos h0]
  refine congrArg (fun s : BS => (s, (0 : Int))) (fill_eq _ _ fun k hk => ?_)
  have h2 : (spanM 0 31).1 = fillS (fun b => decide ((0 : UInt8).toNat ≤ b) && decide (b ≤ (31 : UInt8).toNat)) 256 := rfl
  rw [has_add _ _ _ (by omega) hk, h2, has_fill _ _ hk 256 (Nat.le_refl _)]
  exact (by decide +kernel : ∀ k : Fin 256, (((decide ((0 : UInt8).toNat ≤ k.val) && decide (k.val ≤ (31 : UInt8).toNat)) && decide (k.val < 256)) || decide (k.val = 127)) = isB nCntrl k.val) ⟨k, hk⟩
theorem class_no (l : List UInt8) (h : l ∉ names12) : classM l = docClassM l := by
  have h0 : okM l = false := decide_eq_false h
  simp only [names12, List.mem_cons, List.not_mem_nil, or_false, not_or] at h
  obtain ⟨h1, h2, h3, h4, h5, h6, h7, h8, h9, h10, h11, h12⟩ := h
  have ht : textM l = [] := by simp only [textM, *, if_false]
  have hz : ofS [] = zeroS := rfl
  have hl : (membersM zeroS).length = 0 := (memGo_nil _ 256).2 fun k _ => has_zero k
  simp only [classM, docClassM, h0, h11, if_false, ht, hz, hl, if_true, Bool.false_eq_true]
theorem class_eq (l : List UInt8) : classM l = docClassM l := by
  by_cases h : l ∈ names12
  · simp only [names12, List.mem_cons, List.not_mem_nil, or_false] at h
    rcases h with rfl | rfl | rfl | rfl | rfl | rfl | rfl | rfl | rfl | rfl | rfl | rfl
    · exact class_known nAlpha 65 _ (by decide) (by decide +kernel) rfl (by decide +kernel)
    · exact class_known nDigit 48 _ (by decide) (by decide +kernel) rfl (by decide +kernel)
    · exact class_known nAlnum 65 _ (by decide) (by decide +kernel) rfl (by decide +kernel)
    · exact class_known nUpper 65 _ (by decide) (by decide +kernel) rfl (by decide +kernel)
    · exact class_known nLower 97 _ (by decide) (by decide +kernel) rfl (by decide +kernel)
    · exact class_known nSpace 32 _ (by decide) (by decide +kernel) rfl (by decide +kernel)
    · exact class_known nBlank 32 _ (by decide) (by decide +kernel) rfl (by decide +kernel)
    · exact class_known nGraph 33 _ (by decide) (by decide +kernel) rfl (by decide +kernel)
    · exact class_known nPrint 33 _ (by decide) (by decide +kernel) rfl (by decide +kernel)
    · exact class_known nPunct 33 _ (by decide) (by decide +kernel) rfl (by decide +kernel)
    · exact class_cntrl
    · exact class_known nXdigit 48 _ (by decide) (by decide +kernel) rfl (by decide +kernel)
  · exact class_no l h
attribute [local irreducible] fillS memGo
end Go.Proofs.YthcbjbkheodejaaGreat
namespace Go.Proofs.YthcbjbkheodejaaGreat
open Go Go.RowKit Sl
set_option maxRecDepth 100000
set_option maxHeartbeats 8000000
attribute [local irreducible] ES EL PX wps
attribute [local irreducible] fillS memGo
theorem with_c (s : BS) (k : Nat) (hk : k < 256) (w : World) : Pure Tryz.prog 111 #[Bs s, Iv k] (fun _ : Unit => Bs (addS s k)) (fun _ => []) w := by
  obtain ⟨x0, x1, x2, x3⟩ := s
  refine calls_of_ES TB Tryz.func111 rfl _ Tryz.ntmps111 rfl (Sat.start w) ?_; refine .go ?_; (repeat constructor); (refine .bx ?_; intro g2); (refine .al ?_; intro g4); refine .go ?_; (repeat constructor); refine .mv ?_
  refine EL.ofRV (RV.quoU (n := 64) rfl rfl (by omega) (by simp only [kmax]; omega)) rfl rfl rfl (by intro c h; cases h) ?_
  refine EL.indexAddrA1 rfl rfl rfl rfl rfl rfl rfl rfl (by omega) ?_; refine EL.loadBS rfl rfl rfl rfl rfl (by repeat constructor) (by omega) ?_; refine .mv ?_; refine EL.remN (n := 64) rfl rfl rfl rfl (by omega) ?_
  refine EL.convN rfl rfl rfl rfl rfl rfl (by simp only [kmax]; omega) ?_
  refine EL.ofRV (RV.shlW (a := 1) rfl rfl rfl (by omega)) rfl rfl rfl (by intro c h; cases h) ?_
  refine EL.ofRV (RV.orW rfl rfl rfl rfl) rfl rfl rfl (by intro c h; cases h) ?_
  refine EL.indexAddrA1 rfl rfl rfl rfl rfl rfl rfl rfl (by omega) ?_; refine EL.storeBS rfl rfl rfl rfl rfl (by repeat constructor) (by omega) ?_; refine .go ?_; (repeat constructor); refine .lg ?_; refine .sa ?_; refine .go ?_; repeat constructor
  exact PX.ret rfl Tryz.results111 (.cons (.blkA rfl rfl rfl (by repeat constructor) rfl) .nil) (fun w hs => ⟨(), rfl, hs.ent (.nil _)⟩)
theorem rof_c (l : List UInt8) (hl : l.length ≤ 140737488351232) (w : World) : Pure Tryz.prog 112 #[Sv l] (fun _ : Unit => Bs (ofS l)) (fun _ => []) w := by
  refine calls_of_ES TB Tryz.func112 rfl _ Tryz.ntmps112 rfl (Sat.start w) ?_; refine .go ?_; (repeat constructor); (refine .al ?_; intro g2); refine .go ?_; (repeat constructor); (refine .al ?_; intro g3); refine .go ?_; (repeat constructor); refine .as_ ?_; refine .go ?_; (repeat constructor); refine ES.loop (σ := Nat) (fun i => i ≤ l.length) (fun i => [(0, Sv l), (2, Pv g2 0), (3, Pv g3 0), (4, Iv i)]) (fun i => [SB g3 (ofS (l.take i)), SB g2 zeroS]) (fun i => l.length - i) 0 (Nat.zero_le _) ⟨rfl, rfl, rfl, rfl, trivial⟩ (.i (by repeat constructor)) ?_
  intro i hi
  refine .go ?_; (repeat constructor); refine .mv ?_; refine .mv ?_; refine .lS ?_; refine .ls ?_; refine .go ?_; repeat constructor
  refine ES.condD rfl (fun hlt => ?_) (fun hge => ?_)
  · have hlt' : i < l.length := by omega
    have hst := ofS_step l i hlt'
    have hb := (l.getD i 0).toNat_lt
    refine .g0 ?_; repeat constructor
    refine ES.draw (X := Unit) (fun _ => [(0, Sv l), (2, Pv g2 0), (3, Pv g3 0), (4, Iv i)]) (fun _ => [SB g3 (ofS (l.take (i + 1))), SB g2 zeroS]) [SB g3 (ofS (l.take i))] mixed (.i (by repeat constructor)) ?_ (fun _ => ?_)
    · rw [← hst]
      refine .tk 0 rfl (RV.loadAggB rfl rfl rfl (by repeat constructor) rfl) ?_; refine .tk 1 rfl (RV.move rfl) ?_; refine .tk 2 rfl (RV.move rfl) ?_; refine .tk 3 rfl (RV.indexSN rfl rfl rfl rfl (by omega)) ?_; refine .tk 4 rfl (RV.convN rfl rfl rfl rfl (le_big8 _ _)) ?_; refine .ld 5 ?_; refine EL.callP rfl rfl rfl ent111 rfl (with_c (ofS (l.take i)) (l.getD i 0).toNat hb) ?_; refine .nx ?_; refine ED.last 6 rfl (by decide +kernel) (by decide +kernel) (by decide +kernel) ?_; refine .sa ?_; refine EL.endQ ?_
      exact .cy ()
    refine .go ?_; (repeat constructor); refine .mv ?_; refine .a1 ?_; refine .as_ ?_; refine .go ?_; repeat constructor
    exact .ly (i + 1) (by omega) (by omega)
  obtain rfl : i = l.length := by omega
  rw [List.take_length]
  refine .go ?_; (repeat constructor); refine .lg ?_; refine .sa ?_; refine .go ?_; repeat constructor
  exact PX.ret rfl Tryz.results112 (.cons (.blkA rfl rfl rfl (by repeat constructor) rfl) .nil) (fun w hs => ⟨(), rfl, hs.ent (.nil _)⟩)
theorem rspan_c (lo hi : UInt8) (w : World) : Pure Tryz.prog 124 #[Uv lo, Uv hi] (fun _ : Unit => .tuple #[Bs (spanM lo hi).1, Iv (spanM lo hi).2]) (fun _ => []) w := by
  have hl := lo.toNat_lt
  have hh := hi.toNat_lt
  refine calls_of_ES TB Tryz.func124 rfl _ Tryz.ntmps124 rfl (Sat.start w) ?_; refine .go ?_; (repeat constructor); (refine .al ?_; intro g4); refine .as_ ?_; refine .go ?_; (repeat constructor); (refine .al ?_; intro g6); refine .go ?_; (repeat constructor); refine .mv ?_; refine .mv ?_; refine .ls ?_; refine .go ?_; repeat constructor
  refine ES.condD rfl (fun hlt => ?_) (fun hge => ?_)
  · have hm : spanM lo hi = (zeroS, 7) := by simp only [spanM]; rw [if_pos (by omega)]
    refine .go ?_; (repeat constructor); refine .lg ?_; refine .sa ?_; refine .as_ ?_; refine .go ?_; repeat constructor
    exact PX.ret rfl Tryz.results124 (.cons (.blkA rfl rfl rfl (by repeat constructor) rfl) (.cons (.tmp rfl) .nil)) (fun w hs => ⟨(), by rw [hm]; rfl, hs.ent (.nil _)⟩)
  obtain ⟨p, hp⟩ : ∃ p : Nat → Bool, p = fun b => decide (lo.toNat ≤ b) && decide (b ≤ hi.toNat) := ⟨_, rfl⟩
  have hm : spanM lo hi = (fillS p 256, 0) := by simp only [spanM]; rw [if_neg (by omega), hp]
  have hpi : ∀ i, p i = (decide (lo.toNat ≤ i) && decide (i ≤ hi.toNat)) := fun i => by rw [hp]
  refine .go ?_; (repeat constructor); refine .as_ ?_; refine .go ?_; repeat constructor
  refine ES.blkEq (g := g6) (o' := .cells (fillS p 0).cells 43) (by repeat constructor) (by rw [← fillS_0 p]; rfl) ?_
  refine ES.loop (σ := Nat) (fun i => i ≤ 256) (fun i => [(0, Uv lo), (1, Uv hi), (4, Pv g4 0), (6, Pv g6 0), (7, Iv i)]) (fun i => [SB g6 (fillS p i), SB g4 zeroS]) (fun i => 256 - i) 0 (by omega) ⟨rfl, rfl, rfl, rfl, rfl, trivial⟩ (.i (by repeat constructor)) ?_
  intro i hi256
  refine .go ?_; (repeat constructor); refine .mv ?_; refine .ls ?_; refine .go ?_; repeat constructor
  refine ES.condD rfl (fun hlt2 => ?_) (fun hge2 => ?_)
  · have hlt' : i < 256 := by omega
    refine .go ?_; (repeat constructor); refine EL.cut [(25, .bool (p i)), (0, Uv lo), (1, Uv hi), (4, Pv g4 0), (6, Pv g6 0), (7, Iv i)] [SB g6 (fillS p i), SB g4 zeroS] ?_ ?_
    · refine .go ?_; (repeat constructor); refine .mv ?_; refine .mv ?_; refine EL.convN rfl rfl rfl rfl rfl rfl (le_big8 _ _) ?_; refine .gq ?_; refine .mv ?_
      first | refine EL.splitD (d := 20) rfl (fun hp20 => ?_) (fun hp20 => ?_) | refine EL.splitN (d := 20) rfl (fun hp20 => ?_) (fun hp20 => ?_) | refine EL.splitB (d := 20) rfl (fun hp20 => ?_) (fun hp20 => ?_)
      · refine .mv ?_; refine .mv ?_; refine EL.convN rfl rfl rfl rfl rfl rfl (le_big8 _ _) ?_; refine .lq ?_; refine .pt ?_
        exact .kx ⟨getB rfl (by rw [hpi, Bool.eq_iff_iff]; simp only [Bool.and_eq_true, decide_eq_true_eq, Bool.false_eq_true, false_iff]; omega), rfl, rfl, rfl, rfl, rfl, trivial⟩
      · refine .ps ?_; refine .ps ?_; refine .ps ?_; refine .ps ?_; refine .pf ?_
        exact .kx ⟨getB rfl (by rw [hpi, Bool.eq_iff_iff]; simp only [Bool.and_eq_true, decide_eq_true_eq, Bool.false_eq_true, false_iff]; omega), rfl, rfl, rfl, rfl, rfl, trivial⟩
    refine ES.cutC (X := Unit) (fun _ => [(0, Uv lo), (1, Uv hi), (4, Pv g4 0), (6, Pv g6 0), (7, Iv i)]) (fun _ => [SB g6 (fillS p (i + 1)), SB g4 zeroS]) ?_ (fun _ => ?_)
    · refine ES.cond rfl (fun hb => ?_) (fun hb => ?_)
      · rw [← fillS_y p i hb]
        refine .go ?_; (repeat constructor); refine .lg ?_; refine .mv ?_; refine EL.callP rfl rfl rfl ent111 rfl (with_c (fillS p i) i hlt') ?_; refine .sa ?_; refine .go ?_; repeat constructor
        exact .cy ()
      · rw [fillS_n p i hb]
        refine .go ?_; repeat constructor
        exact .cy ()
    refine .go ?_; (repeat constructor); refine .mv ?_; refine .a1 ?_; refine .as_ ?_; refine .go ?_; repeat constructor
    exact .ly (i + 1) (by omega) (by omega)
  obtain rfl : i = 256 := by omega
  refine .go ?_; (repeat constructor); refine .lg ?_; refine .sa ?_; refine .as_ ?_; refine .go ?_; repeat constructor
  exact PX.ret rfl Tryz.results124 (.cons (.blkA rfl rfl rfl (by repeat constructor) rfl) (.cons (.tmp rfl) .nil)) (fun w hs => ⟨(), by rw [hm]; rfl, hs.ent (.nil _)⟩)
theorem rtext_c (l : List UInt8) (w : World) : Pure Tryz.prog 133 #[Sv l] (fun _ : Unit => Sv (textM l)) (fun _ => []) w := by
  refine calls_of_ES TB Tryz.func133 rfl _ Tryz.ntmps133 rfl (Sat.start w) ?_; refine .go ?_; (repeat constructor); refine .as_ ?_; refine .go ?_; (repeat constructor); refine .mv ?_; refine .go ?_; (repeat constructor); refine .eS ?_; refine .as_ ?_; refine .go ?_; repeat constructor
  refine ES.condD rfl (fun he0 => ?_) (fun hn0 => ?_)
  · have hm : textM l = textM nDigit := by rw [he0]
    refine .go ?_; (repeat constructor); refine .as_ ?_; refine .go ?_; repeat constructor
    exact PX.ret rfl Tryz.results133 (.cons (.tmp rfl) .nil) (fun w hs => ⟨(), by rw [hm]; rfl, hs.ent (.nil _)⟩)
  refine .go ?_; (repeat constructor); refine .eS ?_; refine .as_ ?_; refine .go ?_; repeat constructor
  refine ES.condD rfl (fun he1 => ?_) (fun hn1 => ?_)
  · have hm : textM l = textM nUpper := by rw [he1]
    refine .go ?_; (repeat constructor); refine .as_ ?_; refine .go ?_; repeat constructor
    exact PX.ret rfl Tryz.results133 (.cons (.tmp rfl) .nil) (fun w hs => ⟨(), by rw [hm]; rfl, hs.ent (.nil _)⟩)
  refine .go ?_; (repeat constructor); refine .eS ?_; refine .as_ ?_; refine .go ?_; repeat constructor
  refine ES.condD rfl (fun he2 => ?_) (fun hn2 => ?_)
  · have hm : textM l = textM nLower := by rw [he2]
    refine .go ?_; (repeat constructor); refine .as_ ?_; refine .go ?_; repeat constructor
    exact PX.ret rfl Tryz.results133 (.cons (.tmp rfl) .nil) (fun w hs => ⟨(), by rw [hm]; rfl, hs.ent (.nil _)⟩)
  refine .go ?_; (repeat constructor); refine .eS ?_; refine .as_ ?_; refine .go ?_; repeat constructor
  refine ES.condD rfl (fun he3 => ?_) (fun hn3 => ?_)
  · have hm : textM l = textM nAlpha := by rw [he3]
    refine .go ?_; (repeat constructor); refine .as_ ?_; refine .go ?_; repeat constructor
    exact PX.ret rfl Tryz.results133 (.cons (.tmp rfl) .nil) (fun w hs => ⟨(), by rw [hm]; rfl, hs.ent (.nil _)⟩)
  refine .go ?_; (repeat constructor); refine .eS ?_; refine .as_ ?_; refine .go ?_; repeat constructor
  refine ES.condD rfl (fun he4 => ?_) (fun hn4 => ?_)
  · have hm : textM l = textM nAlnum := by rw [he4]
    refine .go ?_; (repeat constructor); refine .as_ ?_; refine .go ?_; repeat constructor
    exact PX.ret rfl Tryz.results133 (.cons (.tmp rfl) .nil) (fun w hs => ⟨(), by rw [hm]; rfl, hs.ent (.nil _)⟩)
  refine .go ?_; (repeat constructor); refine .eS ?_; refine .as_ ?_; refine .go ?_; repeat constructor
  refine ES.condD rfl (fun he5 => ?_) (fun hn5 => ?_)
  · have hm : textM l = textM nXdigit := by rw [he5]
    refine .go ?_; (repeat constructor); refine .as_ ?_; refine .go ?_; repeat constructor
    exact PX.ret rfl Tryz.results133 (.cons (.tmp rfl) .nil) (fun w hs => ⟨(), by rw [hm]; rfl, hs.ent (.nil _)⟩)
  refine .go ?_; (repeat constructor); refine .eS ?_; refine .as_ ?_; refine .go ?_; repeat constructor
  refine ES.condD rfl (fun he6 => ?_) (fun hn6 => ?_)
  · have hm : textM l = textM nBlank := by rw [he6]
    refine .go ?_; (repeat constructor); refine .as_ ?_; refine .go ?_; repeat constructor
    exact PX.ret rfl Tryz.results133 (.cons (.tmp rfl) .nil) (fun w hs => ⟨(), by rw [hm]; rfl, hs.ent (.nil _)⟩)
  refine .go ?_; (repeat constructor); refine .eS ?_; refine .as_ ?_; refine .go ?_; repeat constructor
  refine ES.condD rfl (fun he7 => ?_) (fun hn7 => ?_)
  · have hm : textM l = textM nSpace := by rw [he7]
    refine .go ?_; (repeat constructor); refine .as_ ?_; refine .go ?_; repeat constructor
    exact PX.ret rfl Tryz.results133 (.cons (.tmp rfl) .nil) (fun w hs => ⟨(), by rw [hm]; rfl, hs.ent (.nil _)⟩)
  refine .go ?_; (repeat constructor); refine .eS ?_; refine .as_ ?_; refine .go ?_; repeat constructor
  refine ES.condD rfl (fun he8 => ?_) (fun hn8 => ?_)
  · have hm : textM l = textM nPunct := by rw [he8]
    refine .go ?_; (repeat constructor); refine .as_ ?_; refine .go ?_; repeat constructor
    exact PX.ret rfl Tryz.results133 (.cons (.tmp rfl) .nil) (fun w hs => ⟨(), by rw [hm]; rfl, hs.ent (.nil _)⟩)
  refine .go ?_; (repeat constructor); refine .eS ?_; refine .as_ ?_; refine .go ?_; repeat constructor
  refine ES.condD rfl (fun he9 => ?_) (fun hn9 => ?_)
  · have hm : textM l = textM nGraph := by rw [he9]
    refine .go ?_; (repeat constructor); refine .as_ ?_; refine .go ?_; repeat constructor
    exact PX.ret rfl Tryz.results133 (.cons (.tmp rfl) .nil) (fun w hs => ⟨(), by rw [hm]; rfl, hs.ent (.nil _)⟩)
  refine .go ?_; (repeat constructor); refine .eS ?_; refine .as_ ?_; refine .go ?_; repeat constructor
  refine ES.condD rfl (fun he10 => ?_) (fun hn10 => ?_)
  · have hm : textM l = textM nPrint := by rw [he10]
    refine .go ?_; (repeat constructor); refine .as_ ?_; refine .go ?_; repeat constructor
    exact PX.ret rfl Tryz.results133 (.cons (.tmp rfl) .nil) (fun w hs => ⟨(), by rw [hm]; rfl, hs.ent (.nil _)⟩)
  have hne : textM l = [] := by simp only [textM, *, if_false]
  refine .go ?_; (repeat constructor); refine .as_ ?_; refine .go ?_; repeat constructor
  exact PX.ret rfl Tryz.results133 (.cons (.tmp rfl) .nil) (fun w hs => ⟨(), by rw [hne]; rfl, hs.ent (.nil _)⟩)
theorem rclass_c (l : List UInt8) (w : World) : Pure Tryz.prog 129 #[Sv l] (fun _ : Unit => .tuple #[Bs (docClassM l).1, Iv (docClassM l).2]) (fun _ => []) w := by
  refine calls_of_ES TB Tryz.func129 rfl _ Tryz.ntmps129 rfl (Sat.start w) ?_; refine .go ?_; (repeat constructor); (refine .al ?_; intro g2); refine .as_ ?_; refine .go ?_; (repeat constructor); refine .mv ?_; refine .eS ?_; refine .go ?_; repeat constructor
  refine ES.condD rfl (fun he => ?_) (fun hn => ?_)
  · have hm : docClassM l = (addS (spanM 0 31).1 127, 0) := by simp only [docClassM]; rw [if_pos he]
    refine .go ?_; (repeat constructor); refine EL.callP rfl rfl rfl ent124 rfl (rspan_c 0 31) ?_; refine .mv ?_; refine .ex ?_; refine .ex ?_; (refine .al ?_; intro g4); refine .sa ?_; refine .as_ ?_; refine .go ?_; (repeat constructor); refine .lg ?_; refine EL.callP rfl rfl rfl ent111 rfl (with_c (spanM 0 31).1 127 (by omega)) ?_; refine .sa ?_; refine .as_ ?_; refine .go ?_; repeat constructor
    exact PX.ret rfl Tryz.results129 (.cons (.blkA rfl rfl rfl (by repeat constructor) rfl) (.cons (.tmp rfl) .nil)) (fun w hs => ⟨(), by rw [hm]; rfl, hs.ent (.nil _)⟩)
  refine .go ?_; (repeat constructor); refine .mv ?_; refine EL.callP rfl rfl rfl ent133 rfl (rtext_c l) ?_; refine EL.callP rfl rfl rfl ent112 rfl (rof_c (textM l) (textM_le l)) ?_; (refine .al ?_; intro g6); refine .sa ?_; refine .go ?_; (repeat constructor); refine .lg ?_; refine EL.callP rfl rfl rfl ent134 rfl (rcount_c (ofS (textM l))) ?_; refine .ei ?_; refine .go ?_; repeat constructor
  refine ES.condD rfl (fun h0 => ?_) (fun h0 => ?_)
  · have hm : docClassM l = (ofS (textM l), 8) := by simp only [docClassM]; rw [if_neg hn, if_pos (by omega)]
    refine .go ?_; (repeat constructor); refine .lg ?_; refine .sa ?_; refine .as_ ?_; refine .go ?_; repeat constructor
    exact PX.ret rfl Tryz.results129 (.cons (.blkA rfl rfl rfl (by repeat constructor) rfl) (.cons (.tmp rfl) .nil)) (fun w hs => ⟨(), by rw [hm]; rfl, hs.ent (.nil _)⟩)
  · have hm : docClassM l = (ofS (textM l), 0) := by simp only [docClassM]; rw [if_neg hn, if_neg (by omega)]
    refine .go ?_; (repeat constructor); refine .lg ?_; refine .sa ?_; refine .as_ ?_; refine .go ?_; repeat constructor
    exact PX.ret rfl Tryz.results129 (.cons (.blkA rfl rfl rfl (by repeat constructor) rfl) (.cons (.tmp rfl) .nil)) (fun w hs => ⟨(), by rw [hm]; rfl, hs.ent (.nil _)⟩)
theorem rnot_c (s : BS) (w : World) : Pure Tryz.prog 95 #[Bs s] (fun _ : Unit => Bs (notS s)) (fun _ => []) w := by
  obtain ⟨p, hp⟩ : ∃ p : Nat → Bool, p = fun b => !hasS s b := ⟨_, rfl⟩
  have hpi : ∀ i, p i = !hasS s i := fun i => by rw [hp]
  have hm : fillS p 256 = notS s := fill_eq p _ fun k hk => by rw [has_not, hpi]
  refine calls_of_ES TB Tryz.func95 rfl _ Tryz.ntmps95 rfl (Sat.start w) ?_; refine .go ?_; (repeat constructor); (refine .bx ?_; intro g1); (refine .al ?_; intro g2); refine .go ?_; (repeat constructor); (refine .al ?_; intro g3); refine .go ?_; (repeat constructor); refine .as_ ?_; refine .go ?_; repeat constructor
  refine ES.blkEq (g := g3) (o' := .cells (fillS p 0).cells 43) (by repeat constructor) (by rw [← fillS_0 p]; rfl) ?_
  refine ES.loop (σ := Nat) (fun i => i ≤ 256) (fun i => [(1, Pv g1 0), (2, Pv g2 0), (3, Pv g3 0), (4, Iv i)]) (fun i => [SB g3 (fillS p i), SB g2 zeroS, SB g1 s]) (fun i => 256 - i) 0 (by omega) ⟨rfl, rfl, rfl, rfl, trivial⟩ (.i (by repeat constructor)) ?_
  intro i hi
  refine .go ?_; (repeat constructor); refine .mv ?_; refine .ls ?_; refine .go ?_; repeat constructor
  refine ES.condD rfl (fun hlt => ?_) (fun hge => ?_)
  · have hlt' : i < 256 := by omega
    refine .go ?_; (repeat constructor); refine .lg ?_; refine .mv ?_; refine EL.callP rfl rfl rfl ent110 rfl (rhas_c s i hlt') ?_; refine .nt ?_; refine .go ?_; repeat constructor
    refine ES.cutC (X := Unit) (fun _ => [(1, Pv g1 0), (2, Pv g2 0), (3, Pv g3 0), (4, Iv i)]) (fun _ => [SB g3 (fillS p (i + 1)), SB g2 zeroS, SB g1 s]) ?_ (fun _ => ?_)
    · refine ES.cond rfl (fun hb => ?_) (fun hb => ?_)
      · rw [← fillS_y p i (by rw [hpi]; exact hb)]
        refine .go ?_; (repeat constructor); refine .lg ?_; refine .mv ?_; refine EL.callP rfl rfl rfl ent111 rfl (with_c (fillS p i) i hlt') ?_; refine .sa ?_; refine .go ?_; repeat constructor
        exact .cy ()
      · rw [fillS_n p i (by rw [hpi]; exact hb)]
        refine .go ?_; repeat constructor
        exact .cy ()
    refine .go ?_; (repeat constructor); refine .mv ?_; refine .a1 ?_; refine .as_ ?_; refine .go ?_; repeat constructor
    exact .ly (i + 1) (by omega) (by omega)
  obtain rfl : i = 256 := by omega
  rw [hm]
  refine .go ?_; (repeat constructor); refine .lg ?_; refine .sa ?_; refine .go ?_; repeat constructor
  exact PX.ret rfl Tryz.results95 (.cons (.blkA rfl rfl rfl (by repeat constructor) rfl) .nil) (fun w hs => ⟨(), rfl, hs.ent (.nil _)⟩)
theorem ror_c (s t : BS) (w : World) : Pure Tryz.prog 109 #[Bs s, Bs t] (fun _ : Unit => Bs (orS s t)) (fun _ => []) w := by
  obtain ⟨p, hp⟩ : ∃ p : Nat → Bool, p = fun b => hasS s b || hasS t b := ⟨_, rfl⟩
  have hpi : ∀ i, p i = (hasS s i || hasS t i) := fun i => by rw [hp]
  have hm : fillS p 256 = orS s t := fill_eq p _ fun k hk => by rw [has_or, hpi]
  refine calls_of_ES TB Tryz.func109 rfl _ Tryz.ntmps109 rfl (Sat.start w) ?_; refine .go ?_; (repeat constructor); (refine .bx ?_; intro g2); (refine .bx ?_; intro g3); (refine .al ?_; intro g4); refine .go ?_; (repeat constructor); (refine .al ?_; intro g5); refine .go ?_; (repeat constructor); refine .as_ ?_; refine .go ?_; repeat constructor
  refine ES.blkEq (g := g5) (o' := .cells (fillS p 0).cells 43) (by repeat constructor) (by rw [← fillS_0 p]; rfl) ?_
  refine ES.loop (σ := Nat) (fun i => i ≤ 256) (fun i => [(2, Pv g2 0), (3, Pv g3 0), (4, Pv g4 0), (5, Pv g5 0), (6, Iv i)]) (fun i => [SB g5 (fillS p i), SB g4 zeroS, SB g3 t, SB g2 s]) (fun i => 256 - i) 0 (by omega) ⟨rfl, rfl, rfl, rfl, rfl, trivial⟩ (.i (by repeat constructor)) ?_
  intro i hi
  refine .go ?_; (repeat constructor); refine .mv ?_; refine .ls ?_; refine .go ?_; repeat constructor
  refine ES.condD rfl (fun hlt => ?_) (fun hge => ?_)
  · have hlt' : i < 256 := by omega
    refine .go ?_; (repeat constructor); refine EL.cut [(18, .bool (p i)), (2, Pv g2 0), (3, Pv g3 0), (4, Pv g4 0), (5, Pv g5 0), (6, Iv i)] [SB g5 (fillS p i), SB g4 zeroS, SB g3 t, SB g2 s] ?_ ?_
    · refine .go ?_; (repeat constructor); refine .lg ?_; refine .mv ?_; refine EL.callP rfl rfl rfl ent110 rfl (rhas_c s i hlt') ?_; refine .mv ?_
      first | refine EL.splitD (d := 14) rfl (fun hp14 => ?_) (fun hp14 => ?_) | refine EL.splitN (d := 14) rfl (fun hp14 => ?_) (fun hp14 => ?_) | refine EL.splitB (d := 14) rfl (fun hp14 => ?_) (fun hp14 => ?_)
      · refine .ps ?_; refine .ps ?_; refine .ps ?_; refine .pt ?_
        exact .kx ⟨getB rfl (by rw [hpi]; first | (rw [show hasS s i = true from decide_eq_true hp14]; rfl) | (rw [show hasS s i = false from decide_eq_false hp14]; rfl)), rfl, rfl, rfl, rfl, rfl, trivial⟩
      · refine .lg ?_; refine .mv ?_; refine EL.callP rfl rfl rfl ent110 rfl (rhas_c t i hlt') ?_; refine .pf ?_
        exact .kx ⟨getB rfl (by rw [hpi]; first | (rw [show hasS s i = true from decide_eq_true hp14]; rfl) | (rw [show hasS s i = false from decide_eq_false hp14]; rfl)), rfl, rfl, rfl, rfl, rfl, trivial⟩
    refine ES.cutC (X := Unit) (fun _ => [(2, Pv g2 0), (3, Pv g3 0), (4, Pv g4 0), (5, Pv g5 0), (6, Iv i)]) (fun _ => [SB g5 (fillS p (i + 1)), SB g4 zeroS, SB g3 t, SB g2 s]) ?_ (fun _ => ?_)
    · refine ES.cond rfl (fun hb => ?_) (fun hb => ?_)
      · rw [← fillS_y p i hb]
        refine .go ?_; (repeat constructor); refine .lg ?_; refine .mv ?_; refine EL.callP rfl rfl rfl ent111 rfl (with_c (fillS p i) i hlt') ?_; refine .sa ?_; refine .go ?_; repeat constructor
        exact .cy ()
      · rw [fillS_n p i hb]
        refine .go ?_; repeat constructor
        exact .cy ()
    refine .go ?_; (repeat constructor); refine .mv ?_; refine .a1 ?_; refine .as_ ?_; refine .go ?_; repeat constructor
    exact .ly (i + 1) (by omega) (by omega)
  obtain rfl : i = 256 := by omega
  rw [hm]
  refine .go ?_; (repeat constructor); refine .lg ?_; refine .sa ?_; refine .go ?_; repeat constructor
  exact PX.ret rfl Tryz.results109 (.cons (.blkA rfl rfl rfl (by repeat constructor) rfl) .nil) (fun w hs => ⟨(), rfl, hs.ent (.nil _)⟩)
end Go.Proofs.YthcbjbkheodejaaGreat
namespace Go.Proofs.YthcbjbkheodejaaGreat
open Go Go.RowKit Sl
set_option maxRecDepth 100000
set_option maxHeartbeats 8000000
attribute [local irreducible] ES EL PX wps
def clM (t : List UInt8) (a : Nat) (m : UInt8) : Int := if Lib.index (t.drop a) [m, 93] < 0 then -1 else (a : Int) + Lib.index (t.drop a) [m, 93]
theorem pre2 {t : List UInt8} {i : Nat} (h : i + 1 < t.length) (m : UInt8) : [m, 93].isPrefixOf (t.drop i) = (decide (t.getD i 0 = m) && decide (t.getD (i + 1) 0 = 93)) := by
  rw [List.drop_eq_getElem_cons (show i < t.length by omega), List.drop_eq_getElem_cons h, List.getD_eq_getElem?_getD, List.getElem?_eq_getElem (show i < t.length by omega), List.getD_eq_getElem?_getD, List.getElem?_eq_getElem h, Bool.eq_iff_iff]
  simp only [List.isPrefixOf, Bool.and_true, Bool.and_eq_true, beq_iff_eq, decide_eq_true_eq, Option.getD_some]
  exact ⟨fun h => ⟨h.1.symm, h.2.symm⟩, fun h => ⟨h.1.symm, h.2.symm⟩⟩
theorem cl_hit {t : List UInt8} {i : Nat} {m : UInt8} (h : i + 1 < t.length) (h1 : t.getD i 0 = m) (h2 : t.getD (i + 1) 0 = 93) : clM t i m = i := by
  have hp := pre2 h m
  rw [h1, h2] at hp
  have hx : Lib.index (t.drop i) [m, 93] = 0 := by
    have hd := List.drop_eq_getElem_cons (show i < t.length by omega)
    rw [hd] at hp ⊢
    rw [Lib.index, hp]
    simp
  unfold clM
  rw [hx]
  simp
theorem cl_step {t : List UInt8} {i : Nat} {m : UInt8} (h : i + 1 < t.length) (hno : ¬ (t.getD i 0 = m ∧ t.getD (i + 1) 0 = 93)) : clM t i m = clM t (i + 1) m := by
  have hp := pre2 h m
  have hf : (decide (t.getD i 0 = m) && decide (t.getD (i + 1) 0 = 93)) = false := by
    cases hx : (decide (t.getD i 0 = m) && decide (t.getD (i + 1) 0 = 93)) with
    | false => rfl
    | true => rw [Bool.and_eq_true, decide_eq_true_eq, decide_eq_true_eq] at hx; exact absurd hx hno
  rw [hf] at hp
  have hge := Lib.index_ge (t.drop (i + 1)) [m, 93]
  have hd := List.drop_eq_getElem_cons (show i < t.length by omega)
  have hx : Lib.index (t.drop i) [m, 93] = if Lib.index (t.drop (i + 1)) [m, 93] = -1 then -1 else Lib.index (t.drop (i + 1)) [m, 93] + 1 := by
    rw [hd] at hp ⊢
    rw [Lib.index, hp]
    simp
  unfold clM
  rw [hx]
  by_cases h2 : Lib.index (t.drop (i + 1)) [m, 93] = -1
  · rw [if_pos h2, if_pos (by omega), if_pos (by omega)]
  · rw [if_neg h2, if_neg (by omega), if_neg (by omega)]
    push_cast
    omega
theorem cl_end {t : List UInt8} {i : Nat} {m : UInt8} (h : t.length ≤ i + 1) : clM t i m = -1 := by
  unfold clM
  rw [if_pos]
  rcases Int.lt_or_le (Lib.index (t.drop i) [m, 93]) 0 with h1 | h1
  · exact h1
  · have := Lib.index_room (t.drop i) [m, 93] h1
    simp only [List.length_drop, List.length_cons, List.length_nil] at this
    omega
theorem closes_c (t : List UInt8) (a : Nat) (m : UInt8) (ht : t.length ≤ 1073741824) (ha : a ≤ 2147483648) (w : World) : Pure Tryz.prog 128 #[Sv t, Iv (a : Nat), Uv m] (fun _ : Unit => Iv (clM t a m)) (fun _ => []) w := by
  refine calls_of_ES TB Tryz.func128 rfl _ Tryz.ntmps128 rfl (Sat.start w) ?_; refine .go ?_; (repeat constructor); refine .as_ ?_; refine .go ?_; (repeat constructor); refine .mv ?_; refine .as_ ?_; refine .go ?_; (repeat constructor); refine ES.loop (σ := Nat) (fun i => i ≤ max a t.length ∧ clM t i m = clM t a m) (fun i => [(0, Sv t), (2, Uv m), (7, Iv (i : Nat))]) (fun _ => []) (fun i => max a t.length - i) a ⟨by omega, rfl⟩ ⟨rfl, rfl, rfl, trivial⟩ (.i (by repeat constructor)) ?_
  rintro i ⟨hi, hc⟩
  refine .go ?_; (repeat constructor); refine .mv ?_; refine .a1 ?_; refine .mv ?_; refine .lS ?_; refine .ls ?_; refine .go ?_; repeat constructor
  refine ES.condD rfl (fun hlt => ?_) (fun hge => ?_)
  · have hlt' : i + 1 < t.length := by omega
    refine .go ?_; repeat constructor
    refine EL.cutX (X := Unit) (fun _ => [(0, Sv t), (2, Uv m), (7, Iv (i : Nat)), (27, .bool (decide (t.getD i 0 = m ∧ t.getD (i + 1) 0 = 93)))]) (fun _ => []) ?_ (fun _ => ?_)
    · have e1 : (((t.getD i 0).toNat : Int) = (m.toNat : Int)) ↔ t.getD i 0 = m := ⟨fun h => UInt8.toNat_inj.1 (by omega), fun h => by rw [h]⟩
      have e2 : (((t.getD (i + 1) 0).toNat : Int) = 93) ↔ t.getD (i + 1) 0 = 93 := ⟨fun h => UInt8.toNat_inj.1 (by show (t.getD (i + 1) 0).toNat = 93; omega), fun h => by rw [h]; rfl⟩
      refine .go ?_; (repeat constructor); refine .mv ?_; refine .mv ?_; refine .iS ?_; refine .mv ?_; refine .ei ?_; refine .mv ?_
      first | refine EL.splitD (d := 21) rfl (fun hp21 => ?_) (fun hp21 => ?_) | refine EL.splitN (d := 21) rfl (fun hp21 => ?_) (fun hp21 => ?_) | refine EL.splitB (d := 21) rfl (fun hp21 => ?_) (fun hp21 => ?_)
      · refine .mv ?_; refine .mv ?_; refine .a1 ?_; refine .iS ?_; refine .ei ?_; refine .pt ?_
        exact .dx () ⟨rfl, rfl, rfl, getA rfl (congrArg Value.bool (by rw [Bool.eq_iff_iff]; simp_all)), trivial⟩
      · refine .ps ?_; refine .ps ?_; refine .ps ?_; refine .ps ?_; refine .ps ?_; refine .pf ?_
        exact .dx () ⟨rfl, rfl, rfl, getA rfl (congrArg Value.bool (by rw [Bool.eq_iff_iff]; simp_all)), trivial⟩
    refine ES.condD rfl (fun hh => ?_) (fun hh => ?_)
    · refine .go ?_; (repeat constructor); refine .mv ?_; refine .as_ ?_; refine .go ?_; repeat constructor
      exact PX.ret rfl Tryz.results128 (.cons (.tmp rfl) .nil) (fun w hs => ⟨(), by rw [← hc, cl_hit hlt' hh.1 hh.2]; rfl, hs.ent (.nil _)⟩)
    · refine .go ?_; (repeat constructor); refine .mv ?_; refine .a1 ?_; refine .as_ ?_; refine .go ?_; repeat constructor
      exact .ly (i + 1) ⟨by omega, by rw [← cl_step hlt' hh]; exact hc⟩ (by omega)
  · refine .go ?_; (repeat constructor); refine .as_ ?_; refine .go ?_; repeat constructor
    exact PX.ret rfl Tryz.results128 (.cons (.tmp rfl) .nil) (fun w hs => ⟨(), by rw [← hc, cl_end (by omega)]; rfl, hs.ent (.nil _)⟩)
theorem dash3_c (t : List UInt8) (a : Nat) (ht : t.length ≤ 1073741824) (ha : a ≤ 2147483648) (w : World) : Pure Tryz.prog 123 #[Sv t, Iv (a : Nat)] (fun _ : Unit => .bool (dashM t a)) (fun _ => []) w := by
  refine calls_of_ES TB Tryz.func123 rfl _ Tryz.ntmps123 rfl (Sat.start w) ?_
  by_cases h1 : a < t.length ∧ ((t.getD a 0).toNat : Int) = 45
  · have e1 : ¬ (t.length : Int) ≤ (a : Int) := by omega
    refine .go ?_; (repeat constructor); refine .as_ ?_; refine .go ?_; (repeat constructor); refine .mv ?_; refine .mv ?_; refine .lS ?_; refine .gq ?_; refine .mv ?_; refine EL.rew (d := 9) (v' := .bool false) rfl (congrArg Value.bool (decide_eq_false (by omega))) ?_; refine .mv ?_; refine .mv ?_; refine .iS ?_; refine .ni ?_; refine .pf ?_; refine .go ?_; repeat constructor
    refine ES.condN rfl (fun h => absurd h1.2 h) (fun _ => ?_)
    refine .go ?_; repeat constructor
    refine EL.cutX (X := Unit) (fun _ => [(4, .bool (dashM t a))]) (fun _ => []) ?_ (fun _ => ?_)
    · refine .go ?_; (repeat constructor); refine .mv ?_; refine .a1 ?_; refine .mv ?_; refine .lS ?_; refine .ei ?_; refine .mv ?_
      first | refine EL.splitD (d := 20) rfl (fun hp20 => ?_) (fun hp20 => ?_) | refine EL.splitN (d := 20) rfl (fun hp20 => ?_) (fun hp20 => ?_) | refine EL.splitB (d := 20) rfl (fun hp20 => ?_) (fun hp20 => ?_)
      · refine .ps ?_; refine .ps ?_; refine .ps ?_; refine .ps ?_; refine .ps ?_; refine .pt ?_; refine .as_ ?_
        exact .dx () ⟨getA rfl (congrArg Value.bool (by unfold dashM; rw [Bool.eq_iff_iff]; simp_all <;> omega)), trivial⟩
      · refine .mv ?_; refine .mv ?_; refine .a1 ?_; refine .iS ?_; refine .ni ?_; refine .pf ?_; refine .as_ ?_
        exact .dx () ⟨getA rfl (congrArg Value.bool (by unfold dashM; rw [Bool.eq_iff_iff]; simp_all <;> omega)), trivial⟩
    refine .go ?_; repeat constructor
    exact PX.ret rfl Tryz.results123 (.cons (.tmp rfl) .nil) (fun w hs => ⟨(), rfl, hs.ent (.nil _)⟩)
  · have hd : dashM t a = false := by
      unfold dashM
      by_cases h2 : (a : Int) < (t.length : Int)
      · rw [decide_eq_false (p := ((t.getD a 0).toNat : Int) = 45) (fun e => h1 ⟨by omega, e⟩)]; simp
      · rw [decide_eq_false h2]; simp
    by_cases h2 : a < t.length
    · refine .go ?_; (repeat constructor); refine .as_ ?_; refine .go ?_; (repeat constructor); refine .mv ?_; refine .mv ?_; refine .lS ?_; refine .gq ?_; refine .mv ?_; refine EL.rew (d := 9) (v' := .bool false) rfl (congrArg Value.bool (decide_eq_false (by omega))) ?_; refine .mv ?_; refine .mv ?_; refine .iS ?_; refine .ni ?_; refine .pf ?_; refine .go ?_; repeat constructor
      refine ES.condN rfl (fun _ => ?_) (fun h => absurd ⟨h2, h⟩ h1)
      refine .go ?_; (repeat constructor); refine .as_ ?_; refine .go ?_; repeat constructor
      exact PX.ret rfl Tryz.results123 (.cons (.tmp rfl) .nil) (fun w hs => ⟨(), by rw [hd]; rfl, hs.ent (.nil _)⟩)
    · refine .go ?_; (repeat constructor); refine .as_ ?_; refine .go ?_; (repeat constructor); refine .mv ?_; refine .mv ?_; refine .lS ?_; refine .gq ?_; refine .mv ?_; refine EL.rew (d := 9) (v' := .bool true) rfl (congrArg Value.bool (decide_eq_true (by omega))) ?_; refine .ps ?_; refine .ps ?_; refine .ps ?_; refine .ps ?_; refine .pt ?_; refine .go ?_; (repeat constructor); refine ES.condT rfl ?_; refine .go ?_; (repeat constructor); refine .as_ ?_; refine .go ?_; repeat constructor
      exact PX.ret rfl Tryz.results123 (.cons (.tmp rfl) .nil) (fun w hs => ⟨(), by rw [hd]; rfl, hs.ent (.nil _)⟩)
def item3 (t : List UInt8) (a : Nat) : It :=
  if itC t a = true then ⟨ofS [t.getD a 0], t.getD a 0, true, a + 1, 0⟩
  else if clM t (a + 3) (t.getD (a + 1) 0) < 0 then ⟨zeroS, 0, false, 0, 6⟩
  else if t.getD (a + 1) 0 = 58 then ⟨(docClassM ((t.drop (a + 2)).take ((clM t (a + 3) (t.getD (a + 1) 0)).toNat - (a + 2)))).1, 0, false, (clM t (a + 3) (t.getD (a + 1) 0)).toNat + 2, (docClassM ((t.drop (a + 2)).take ((clM t (a + 3) (t.getD (a + 1) 0)).toNat - (a + 2)))).2⟩
  else if ((t.drop (a + 2)).take ((clM t (a + 3) (t.getD (a + 1) 0)).toNat - (a + 2))).length ≠ 1 then ⟨zeroS, 0, false, 0, 8⟩
  else ⟨ofS ((t.drop (a + 2)).take ((clM t (a + 3) (t.getD (a + 1) 0)).toNat - (a + 2))), ((t.drop (a + 2)).take ((clM t (a + 3) (t.getD (a + 1) 0)).toNat - (a + 2))).getD 0 0, decide (t.getD (a + 1) 0 = 46), (clM t (a + 3) (t.getD (a + 1) 0)).toNat + 2, 0⟩
theorem cl_nm (t : List UInt8) (a : Nat) : (clM t (a + 3) (t.getD (a + 1) 0) < 0 ↔ nmK t a < 0) ∧ (0 ≤ nmK t a → clM t (a + 3) (t.getD (a + 1) 0) = ((a + 3 : Nat) : Int) + nmK t a) := by
  unfold nmK
  by_cases h : a + 2 < t.length
  · rw [if_pos h]
    show (clM t (a + 3) _ < 0 ↔ Lib.index (t.drop (a + 3)) _ < 0) ∧ _
    unfold clM
    have hge := Lib.index_ge (t.drop (a + 3)) [t.getD (a + 1) 0, 93]
    show ((if Lib.index (t.drop (a + 3)) [t.getD (a + 1) 0, 93] < 0 then (-1 : Int) else ((a + 3 : Nat) : Int) + Lib.index (t.drop (a + 3)) [t.getD (a + 1) 0, 93]) < 0 ↔ Lib.index (t.drop (a + 3)) [t.getD (a + 1) 0, 93] < 0) ∧ (0 ≤ Lib.index (t.drop (a + 3)) [t.getD (a + 1) 0, 93] → (if Lib.index (t.drop (a + 3)) [t.getD (a + 1) 0, 93] < 0 then (-1 : Int) else ((a + 3 : Nat) : Int) + Lib.index (t.drop (a + 3)) [t.getD (a + 1) 0, 93]) = ((a + 3 : Nat) : Int) + Lib.index (t.drop (a + 3)) [t.getD (a + 1) 0, 93])
    split <;> constructor <;> omega
  · rw [if_neg h, cl_end (by omega)]
    constructor <;> omega
theorem item3_is (t : List UInt8) (a : Nat) : (item3 t a).e = (itemM t a).e ∧ ((itemM t a).e = 0 → item3 t a = itemM t a) := by
  obtain ⟨h1, h2⟩ := cl_nm t a
  unfold item3 itemM
  by_cases c0 : itC t a = true
  · rw [if_pos c0, if_pos c0]
    exact ⟨rfl, fun _ => rfl⟩
  rw [if_neg c0, if_neg c0]
  by_cases c1 : nmK t a < 0
  · have he : nmE t a = 6 := by unfold nmE; rw [if_pos c1]
    rw [if_pos (h1.2 c1), if_pos (by rw [he]; decide), he]
    exact ⟨rfl, fun h => absurd h (by show ¬ (6 : Int) = 0; decide)⟩
  have he : nmE t a = 0 := by unfold nmE; rw [if_neg c1]
  have hc := h2 (by omega)
  have hn : (t.drop (a + 2)).take ((clM t (a + 3) (t.getD (a + 1) 0)).toNat - (a + 2)) = nmN t a := by
    unfold nmN
    rw [if_neg c1, hc]
    congr 1
    omega
  have hx : (clM t (a + 3) (t.getD (a + 1) 0)).toNat + 2 = nmA t a := by
    unfold nmA
    rw [if_neg c1, hc]
    omega
  have hcl : ¬ clM t (a + 3) (t.getD (a + 1) 0) < 0 := fun h => c1 (h1.1 h)
  rw [if_neg hcl, if_neg (show ¬ nmE t a ≠ 0 by rw [he]; simp), hn, hx, class_eq]
  by_cases c2 : t.getD (a + 1) 0 = 58
  · rw [if_pos c2, if_pos c2]
    exact ⟨rfl, fun _ => rfl⟩
  rw [if_neg c2, if_neg c2]
  by_cases c3 : (nmN t a).length ≠ 1
  · rw [if_pos c3, if_pos c3]
    exact ⟨rfl, fun h => absurd h (by show ¬ (8 : Int) = 0; decide)⟩
  rw [if_neg c3, if_neg c3]
  exact ⟨rfl, fun _ => rfl⟩
def itCells (i : It) : List Value := [Wv i.set.a, Wv i.set.b, Wv i.set.c, Wv i.set.d, Uv i.b, .bool i.single, Iv (i.at_ : Nat), Iv i.e]
theorem itC_is (t : List UInt8) (a : Nat) : itC t a = (decide ((t.getD a 0).toNat ≠ 91) || (decide (t.length ≤ a + 1) || (decide ((t.getD (a + 1) 0).toNat ≠ 58) && decide ((t.getD (a + 1) 0).toNat ≠ 61) && decide ((t.getD (a + 1) 0).toNat ≠ 46)))) := by
  have hx : ∀ c : UInt8, idxB [46, 61, 58] c < 0 ↔ (c.toNat ≠ 58 ∧ c.toNat ≠ 61 ∧ c.toNat ≠ 46) := fun c => by
    have h := idxB_nonneg [46, 61, 58] c
    have e1 : (c = 46 ∨ c = 61 ∨ c = 58) ↔ (c.toNat = 46 ∨ c.toNat = 61 ∨ c.toNat = 58) := by
      constructor
      · rintro (h | h | h) <;> subst h <;> simp
      · rintro (h | h | h)
        · exact .inl (UInt8.toNat_inj.1 h)
        · exact .inr (.inl (UInt8.toNat_inj.1 h))
        · exact .inr (.inr (UInt8.toNat_inj.1 h))
    have h' : 0 ≤ idxB [46, 61, 58] c ↔ (c = 46 ∨ c = 61 ∨ c = 58) := by rw [h]; simp
    rw [e1] at h'
    omega
  unfold itC
  rw [Bool.eq_iff_iff]
  simp only [Bool.or_eq_true, Bool.and_eq_true, Bool.not_eq_true', decide_eq_true_eq, decide_eq_false_iff_not, hx]
  omega
theorem item3_c (t : List UInt8) (a : Nat) (ha : a < t.length) (ht : t.length ≤ 1073741824) (w : World) : Pure Tryz.prog 122 #[Sv t, Iv (a : Nat)] (fun _ : Unit => .agg (itCells (item3 t a)).toArray) (fun _ => []) w := by
  refine calls_of_ES TB Tryz.func122 rfl _ Tryz.ntmps122 rfl (Sat.start w) ?_; refine .go ?_; (repeat constructor); (refine .al ?_; intro g4); refine .go ?_; (repeat constructor); refine .mv ?_; refine .mv ?_; refine .iS ?_; refine .as_ ?_; refine .go ?_; repeat constructor
  refine EL.cutX (X := Unit) (fun _ => [(0, Sv t), (1, Iv (a : Nat)), (4, Pv g4 0), (5, Uv (t.getD a 0)), (43, .bool (itC t a))]) (fun _ => [HA.blk g4 (.cells (itCells ⟨zeroS, 0, false, 0, 0⟩).toArray 223)]) ?_ (fun _ => ?_)
  · refine .go ?_; (repeat constructor); refine .mv ?_; refine .ni ?_; refine .mv ?_
    first | refine EL.splitD (d := 16) rfl (fun hp16 => ?_) (fun hp16 => ?_) | refine EL.splitN (d := 16) rfl (fun hp16 => ?_) (fun hp16 => ?_) | refine EL.splitB (d := 16) rfl (fun hp16 => ?_) (fun hp16 => ?_)
    · refine .ps ?_; refine .ps ?_; refine .ps ?_; refine .ps ?_; refine .ps ?_; refine .pt ?_; refine .mv ?_; refine .ps ?_; refine .ps ?_; refine .ps ?_; refine .ps ?_; refine .ps ?_; refine .ps ?_; refine .ps ?_; refine .ps ?_; refine .ps ?_; refine .ps ?_; refine .ps ?_; refine .ps ?_; refine .ps ?_; refine .ps ?_; refine .ps ?_; refine .ps ?_; refine .ps ?_; refine .ps ?_; refine .ps ?_; refine .pt ?_
      exact .dx () ⟨rfl, rfl, rfl, rfl, getA rfl (congrArg Value.bool (by rw [itC_is, Bool.eq_iff_iff]; simp only [Bool.or_eq_true, Bool.and_eq_true, Bool.not_eq_true', decide_eq_true_eq, decide_eq_false_iff_not] at *; simp_all <;> omega)), trivial⟩
    · refine .mv ?_; refine .a1 ?_; refine .mv ?_; refine .lS ?_; refine .gq ?_; refine .pf ?_; refine .mv ?_
      first | refine EL.splitD (d := 23) rfl (fun hp23 => ?_) (fun hp23 => ?_) | refine EL.splitN (d := 23) rfl (fun hp23 => ?_) (fun hp23 => ?_) | refine EL.splitB (d := 23) rfl (fun hp23 => ?_) (fun hp23 => ?_)
      · refine .ps ?_; refine .ps ?_; refine .ps ?_; refine .ps ?_; refine .ps ?_; refine .ps ?_; refine .ps ?_; refine .ps ?_; refine .ps ?_; refine .ps ?_; refine .ps ?_; refine .ps ?_; refine .ps ?_; refine .ps ?_; refine .ps ?_; refine .ps ?_; refine .ps ?_; refine .ps ?_; refine .ps ?_; refine .pt ?_
        exact .dx () ⟨rfl, rfl, rfl, rfl, getA rfl (congrArg Value.bool (by rw [itC_is, Bool.eq_iff_iff]; simp only [Bool.or_eq_true, Bool.and_eq_true, Bool.not_eq_true', decide_eq_true_eq, decide_eq_false_iff_not] at *; simp_all <;> omega)), trivial⟩
      · refine .mv ?_; refine .mv ?_; refine .a1 ?_; refine .iS ?_; refine .ni ?_; refine .mv ?_
        first | refine EL.splitD (d := 29) rfl (fun hp29 => ?_) (fun hp29 => ?_) | refine EL.splitN (d := 29) rfl (fun hp29 => ?_) (fun hp29 => ?_) | refine EL.splitB (d := 29) rfl (fun hp29 => ?_) (fun hp29 => ?_)
        · refine .mv ?_; refine .mv ?_; refine .a1 ?_; refine .iS ?_; refine .ni ?_; refine .pt ?_; refine .mv ?_
          first | refine EL.splitD (d := 36) rfl (fun hp36 => ?_) (fun hp36 => ?_) | refine EL.splitN (d := 36) rfl (fun hp36 => ?_) (fun hp36 => ?_) | refine EL.splitB (d := 36) rfl (fun hp36 => ?_) (fun hp36 => ?_)
          · refine .mv ?_; refine .mv ?_; refine .a1 ?_; refine .iS ?_; refine .ni ?_; refine .pt ?_; refine .pf ?_
            exact .dx () ⟨rfl, rfl, rfl, rfl, getA rfl (congrArg Value.bool (by rw [itC_is, Bool.eq_iff_iff]; simp only [Bool.or_eq_true, Bool.and_eq_true, Bool.not_eq_true', decide_eq_true_eq, decide_eq_false_iff_not] at *; simp_all <;> omega)), trivial⟩
          · refine .ps ?_; refine .ps ?_; refine .ps ?_; refine .ps ?_; refine .ps ?_; refine .pf ?_; refine .pf ?_
            exact .dx () ⟨rfl, rfl, rfl, rfl, getA rfl (congrArg Value.bool (by rw [itC_is, Bool.eq_iff_iff]; simp only [Bool.or_eq_true, Bool.and_eq_true, Bool.not_eq_true', decide_eq_true_eq, decide_eq_false_iff_not] at *; simp_all <;> omega)), trivial⟩
        · refine .ps ?_; refine .ps ?_; refine .ps ?_; refine .ps ?_; refine .ps ?_; refine .pf ?_; refine .mv ?_; refine .ps ?_; refine .ps ?_; refine .ps ?_; refine .ps ?_; refine .ps ?_; refine .pf ?_; refine .pf ?_
          exact .dx () ⟨rfl, rfl, rfl, rfl, getA rfl (congrArg Value.bool (by rw [itC_is, Bool.eq_iff_iff]; simp only [Bool.or_eq_true, Bool.and_eq_true, Bool.not_eq_true', decide_eq_true_eq, decide_eq_false_iff_not] at *; simp_all <;> omega)), trivial⟩
  have hsl : (t.drop a).take (a + 1 - a) = [t.getD a 0] := by
    rw [show a + 1 - a = 1 by omega, List.drop_eq_getElem_cons ha, List.take_succ_cons, List.take_zero, List.getD_eq_getElem?_getD, List.getElem?_eq_getElem ha]
    rfl
  refine ES.cond rfl (fun hc => ?_) (fun hc => ?_)
  · have hi : item3 t a = ⟨ofS [t.getD a 0], t.getD a 0, true, a + 1, 0⟩ := by unfold item3; rw [if_pos hc]
    rw [hi]
    refine .go ?_; (repeat constructor); refine .mv ?_; refine .mv ?_; refine .mv ?_; refine .a1 ?_
    (refine EL.sliceS (m := a) (n := a + 1) rfl rfl rfl rfl rfl ⟨_, rfl⟩ ⟨_, rfl⟩ (by omega) (by omega) ?_; rw [hsl])
    refine EL.callP rfl rfl rfl ent112 rfl (rof_c [t.getD a 0] (by simp)) ?_; refine .mv ?_; refine .mv ?_; refine .a1 ?_; refine EL.buildS (itCells ⟨ofS [t.getD a 0], t.getD a 0, true, a + 1, 0⟩).toArray rfl rfl rfl rfl rfl (by kernel_rfl) rfl ?_; refine .sa ?_; refine .go ?_; repeat constructor
    exact PX.ret rfl Tryz.results122 (.cons (.blkA rfl rfl rfl (by repeat constructor) rfl) .nil) (fun w hs => ⟨(), rfl, hs.ent (.nil _)⟩)
  have hcn : ¬ itC t a = true := by rw [hc]; simp
  have hal : a + 1 < t.length := by
    rw [itC_is, Bool.or_eq_false_iff, Bool.or_eq_false_iff, decide_eq_false_iff_not, decide_eq_false_iff_not] at hc
    omega
  obtain ⟨hn1, hn2⟩ := cl_nm t a
  refine .go ?_; (repeat constructor); refine .mv ?_; refine .mv ?_; refine .a1 ?_; refine .iS ?_; refine .as_ ?_; refine .go ?_; (repeat constructor); refine .mv ?_; refine .mv ?_; refine EL.addN (n := 3) rfl rfl rfl rfl rfl (by omega) ?_; refine .mv ?_; refine EL.callP rfl rfl rfl ent128 rfl (closes_c t (a + 3) (t.getD (a + 1) 0) ht (by omega)) ?_; refine .as_ ?_; refine .go ?_; (repeat constructor); refine .mv ?_; refine .ls ?_; refine .go ?_; repeat constructor
  refine ES.condD rfl (fun hneg => ?_) (fun hpos => ?_)
  · have hi : item3 t a = ⟨zeroS, 0, false, 0, 6⟩ := by unfold item3; rw [if_neg hcn, if_pos hneg]
    rw [hi]
    refine .go ?_; (repeat constructor); refine EL.buildS (itCells ⟨zeroS, 0, false, 0, 6⟩).toArray rfl rfl rfl rfl rfl (by kernel_rfl) rfl ?_; refine .sa ?_; refine .go ?_; repeat constructor
    exact PX.ret rfl Tryz.results122 (.cons (.blkA rfl rfl rfl (by repeat constructor) rfl) .nil) (fun w hs => ⟨(), rfl, hs.ent (.nil _)⟩)
  obtain ⟨j, hj⟩ : ∃ j : Nat, nmK t a = j := ⟨(nmK t a).toNat, by have : ¬ nmK t a < 0 := fun h => hpos (hn1.2 h); omega⟩
  have hroom := nmK_room t a j hj
  have hk : clM t (a + 3) (t.getD (a + 1) 0) = ((a + 3 + j : Nat) : Int) := by rw [hn2 (by omega), hj]; omega
  obtain ⟨nm, hnm⟩ : ∃ nm, nm = (t.drop (a + 2)).take (a + 3 + j - (a + 2)) := ⟨_, rfl⟩
  have hnl : nm.length = j + 1 := by rw [hnm, List.length_take, List.length_drop]; omega
  rw [hk]
  have hi0 : item3 t a = if t.getD (a + 1) 0 = 58 then ⟨(docClassM nm).1, 0, false, a + 3 + j + 2, (docClassM nm).2⟩ else if nm.length ≠ 1 then ⟨zeroS, 0, false, 0, 8⟩ else ⟨ofS nm, nm.getD 0 0, decide (t.getD (a + 1) 0 = 46), a + 3 + j + 2, 0⟩ := by
    unfold item3
    rw [if_neg hcn, if_neg hpos, hk, Int.toNat_natCast, ← hnm]
  have hx58 : (((t.getD (a + 1) 0).toNat : Int) = 58) ↔ t.getD (a + 1) 0 = 58 := ⟨fun h => UInt8.toNat_inj.1 (by show (t.getD (a + 1) 0).toNat = 58; omega), fun h => by rw [h]; rfl⟩
  refine .go ?_; (repeat constructor); refine .mv ?_; refine .mv ?_; refine EL.addN (n := 2) rfl rfl rfl rfl rfl (by omega) ?_; refine .mv ?_
  (refine EL.sliceS (m := a + 2) (n := a + 3 + j) rfl rfl rfl rfl rfl ⟨_, rfl⟩ ⟨_, rfl⟩ (by omega) (by omega) ?_; rw [← hnm])
  refine .as_ ?_; refine .go ?_; (repeat constructor); refine .mv ?_; refine .ei ?_; refine .go ?_; repeat constructor
  refine ES.condD rfl (fun h58 => ?_) (fun h58 => ?_)
  · rw [hi0, if_pos (hx58.1 h58)]
    refine .go ?_; (repeat constructor); refine .mv ?_; refine EL.callP rfl rfl rfl ent129 rfl (rclass_c nm) ?_; refine .mv ?_; refine .ex ?_; refine .ex ?_; (refine .al ?_; intro g9); refine .sa ?_; refine .as_ ?_; refine .go ?_; (repeat constructor); refine .lg ?_; refine .mv ?_; refine EL.addN (n := 2) rfl rfl rfl rfl rfl (by omega) ?_; refine .mv ?_; refine EL.buildS (itCells ⟨(docClassM nm).1, 0, false, a + 3 + j + 2, (docClassM nm).2⟩).toArray rfl rfl rfl rfl rfl (by kernel_rfl) rfl ?_; refine .sa ?_; refine .go ?_; repeat constructor
    exact PX.ret rfl Tryz.results122 (.cons (.blkA rfl rfl rfl (by repeat constructor) rfl) .nil) (fun w hs => ⟨(), rfl, hs.ent (.nil _)⟩)
  rw [hi0, if_neg (fun h => h58 (hx58.2 h))]
  refine .go ?_; (repeat constructor); refine .mv ?_; refine .lS ?_; refine .ni ?_; refine .go ?_; repeat constructor
  refine ES.condN rfl (fun h1 => ?_) (fun h1 => ?_)
  · rw [if_pos (show nm.length ≠ 1 by omega)]
    refine .go ?_; (repeat constructor); refine EL.buildS (itCells ⟨zeroS, 0, false, 0, 8⟩).toArray rfl rfl rfl rfl rfl (by kernel_rfl) rfl ?_; refine .sa ?_; refine .go ?_; repeat constructor
    exact PX.ret rfl Tryz.results122 (.cons (.blkA rfl rfl rfl (by repeat constructor) rfl) .nil) (fun w hs => ⟨(), rfl, hs.ent (.nil _)⟩)
  rw [if_neg (show ¬ nm.length ≠ 1 by omega)]
  have e46 : decide (((t.getD (a + 1) 0).toNat : Int) = 46) = decide (t.getD (a + 1) 0 = 46) := by
    rw [decide_eq_decide]
    exact ⟨fun h => UInt8.toNat_inj.1 (by show (t.getD (a + 1) 0).toNat = 46; omega), fun h => by rw [h]; rfl⟩
  rw [← e46]
  refine .g0 ?_; repeat constructor
  refine ES.draw (X := Unit) (fun _ => [(4, Pv g4 0)]) (fun _ => [HA.blk g4 (.cells (itCells ⟨ofS nm, nm.getD 0 0, decide (((t.getD (a + 1) 0).toNat : Int) = 46), a + 3 + j + 2, 0⟩).toArray 223)]) [HA.blk g4 (.cells (itCells ⟨zeroS, 0, false, 0, 0⟩).toArray 223)] mixed (.i (by repeat constructor)) ?_ (fun _ => ?_)
  · refine .tk 0 rfl (RV.move rfl) ?_; refine .tk 2 rfl (RV.move rfl) ?_; refine .tk 3 rfl (RV.indexSN (i := 0) rfl rfl rfl rfl (by omega)) ?_; refine .tk 4 rfl (RV.move rfl) ?_; refine .tk 5 rfl (RV.eqlI rfl rfl) ?_; refine .tk 6 rfl (RV.move rfl) ?_; refine .tk 7 rfl (RV.addN (n := 2) rfl rfl rfl (by omega)) ?_; refine .ld 1 ?_
    (refine EL.callP rfl rfl rfl ent112 rfl (rof_c nm (by omega)) ?_)
    refine .nx ?_; refine ED.take 8 rfl (by decide +kernel) CutX.no_panic (by decide +kernel) rfl rfl rfl (RV.buildS (itCells ⟨ofS nm, nm.getD 0 0, decide (((t.getD (a + 1) 0).toNat : Int) = 46), a + 3 + j + 2, 0⟩).toArray rfl rfl rfl rfl (by kernel_rfl)) ?_; refine ED.last 9 rfl (by decide +kernel) (by decide +kernel) (by decide +kernel) ?_; refine .sa ?_; refine EL.endQ ?_
    exact .cy ()
  refine .go ?_; repeat constructor
  exact PX.ret rfl Tryz.results122 (.cons (.blkA rfl rfl rfl (by repeat constructor) rfl) .nil) (fun w hs => ⟨(), rfl, hs.ent (.nil _)⟩)
def rng3 (t : List UInt8) (a : Nat) : It :=
  if (item3 t a).e ≠ 0 ∨ dashM t (item3 t a).at_ = false then item3 t a
  else if (item3 t a).at_ + 1 = t.length then ⟨zeroS, 0, false, 0, 6⟩
  else if (item3 t a).single = false then ⟨zeroS, 0, false, 0, 7⟩
  else if (item3 t ((item3 t a).at_ + 1)).e ≠ 0 then item3 t ((item3 t a).at_ + 1)
  else if (item3 t ((item3 t a).at_ + 1)).single = false ∨ (item3 t ((item3 t a).at_ + 1)).b.toNat < (item3 t a).b.toNat ∨ dashM t (item3 t ((item3 t a).at_ + 1)).at_ = true then ⟨zeroS, 0, false, 0, 7⟩
  else ⟨(spanM (item3 t a).b (item3 t ((item3 t a).at_ + 1)).b).1, 0, false, (item3 t ((item3 t a).at_ + 1)).at_, 0⟩
theorem item3_at (t : List UInt8) (a : Nat) (h : a < t.length) (he : (item3 t a).e = 0) : a < (item3 t a).at_ ∧ (item3 t a).at_ ≤ t.length := by
  obtain ⟨h1, h2⟩ := item3_is t a
  rw [h1] at he
  have := item_at t a h
  rw [h2 he]
  exact ⟨this.2.2 he, this.2.1⟩
theorem rng3_is (t : List UInt8) (a : Nat) (h : a < t.length) : (rng3 t a).e = (spanT t a).e ∧ ((spanT t a).e = 0 → (rng3 t a).set = (spanT t a).set ∧ (rng3 t a).at_ = (spanT t a).at_) := by
  obtain ⟨h1, h2⟩ := item3_is t a
  have hat := item_at t a h
  have fin : ∀ (x : It) (y : Sp), rng3 t a = x → spanT t a = y → (x.e = y.e ∧ (y.e = 0 → x.set = y.set ∧ x.at_ = y.at_)) → (rng3 t a).e = (spanT t a).e ∧ ((spanT t a).e = 0 → (rng3 t a).set = (spanT t a).set ∧ (rng3 t a).at_ = (spanT t a).at_) := fun x y e1 e2 h => by rw [e1, e2]; exact h
  have hs := show spanT t a = _ by unfold spanT; rfl
  have hr := show rng3 t a = _ by unfold rng3; rfl
  dsimp only at hs
  by_cases c0 : ¬ (itemM t a).e = 0
  · rw [if_pos (.inl (by rw [h1]; exact c0))] at hr
    rw [if_pos (.inl c0)] at hs
    exact fin _ _ hr hs ⟨h1, fun he => absurd he c0⟩
  have c0 := Classical.not_not.1 c0
  have hlt := hat.2.2 c0
  rw [h2 c0] at hr
  generalize itemM t a = i at *
  by_cases c1 : dashM t i.at_ = false
  · rw [if_pos (.inr c1)] at hr hs
    exact fin _ _ hr hs ⟨rfl, fun _ => ⟨rfl, rfl⟩⟩
  have hd : dashM t i.at_ = true := by simpa using c1
  have hdl := dash_lt hd
  rw [if_neg (by rw [c0, hd]; simp)] at hr hs
  by_cases c2 : i.at_ + 1 = t.length
  · rw [if_pos c2] at hr
    rw [if_pos (by omega)] at hs
    exact fin _ _ hr hs ⟨rfl, fun he => absurd he (by show ¬ (6 : Int) = 0; decide)⟩
  rw [if_neg c2] at hr
  rw [if_neg (by omega)] at hs
  by_cases c3 : i.single = false
  · rw [if_pos c3] at hr hs
    exact fin _ _ hr hs ⟨rfl, fun he => absurd he (by show ¬ (7 : Int) = 0; decide)⟩
  rw [if_neg c3] at hr hs
  obtain ⟨g1, g2⟩ := item3_is t (i.at_ + 1)
  by_cases c4 : ¬ (itemM t (i.at_ + 1)).e = 0
  · rw [if_pos (by rw [g1]; exact c4)] at hr
    rw [if_pos c4] at hs
    exact fin _ _ hr hs ⟨g1, fun he => absurd he c4⟩
  have c4 := Classical.not_not.1 c4
  rw [g2 c4] at hr
  rw [if_neg (by rw [c4]; simp)] at hr hs
  generalize itemM t (i.at_ + 1) = j at *
  by_cases c5 : j.single = false
  · rw [if_pos (.inl c5)] at hr
    rw [if_pos c5] at hs
    exact fin _ _ hr hs ⟨rfl, fun he => absurd he (by show ¬ (7 : Int) = 0; decide)⟩
  rw [if_neg c5] at hs
  by_cases c6 : j.b.toNat < i.b.toNat
  · have hsp : (spanM i.b j.b).2 = 7 := by unfold spanM; rw [if_pos c6]
    rw [if_pos (.inr (.inl c6))] at hr
    rw [if_neg (by rw [hsp]; rintro ⟨h, _⟩; revert h; decide), hsp] at hs
    exact fin _ _ hr hs ⟨rfl, fun he => absurd he (by show ¬ (7 : Int) = 0; decide)⟩
  have hsp : (spanM i.b j.b).2 = 0 := by unfold spanM; rw [if_neg c6]
  by_cases c7 : dashM t j.at_ = true
  · rw [if_pos (.inr (.inr c7))] at hr
    rw [if_pos ⟨hsp, c7⟩] at hs
    exact fin _ _ hr hs ⟨rfl, fun he => absurd he (by show ¬ (7 : Int) = 0; decide)⟩
  rw [if_neg (by rintro (h | h | h) <;> first | exact c5 h | exact c6 h | exact c7 h)] at hr
  rw [if_neg (by rintro ⟨_, h⟩; exact c7 h), hsp] at hs
  exact fin _ _ hr hs ⟨rfl, fun _ => ⟨rfl, rfl⟩⟩
theorem rng3_c (t : List UInt8) (a : Nat) (ha : a < t.length) (ht : t.length ≤ 1073741824) (w : World) : Pure Tryz.prog 108 #[Sv t, Iv (a : Nat)] (fun _ : Unit => .agg (itCells (rng3 t a)).toArray) (fun _ => []) w := by
  have hic := item3_c t a ha ht
  have hia := item3_at t a ha
  have hrng : rng3 t a = if (item3 t a).e ≠ 0 ∨ dashM t (item3 t a).at_ = false then item3 t a
    else if (item3 t a).at_ + 1 = t.length then ⟨zeroS, 0, false, 0, 6⟩
    else if (item3 t a).single = false then ⟨zeroS, 0, false, 0, 7⟩
    else if (item3 t ((item3 t a).at_ + 1)).e ≠ 0 then item3 t ((item3 t a).at_ + 1)
    else if (item3 t ((item3 t a).at_ + 1)).single = false ∨ (item3 t ((item3 t a).at_ + 1)).b.toNat < (item3 t a).b.toNat ∨ dashM t (item3 t ((item3 t a).at_ + 1)).at_ = true then ⟨zeroS, 0, false, 0, 7⟩
    else ⟨(spanM (item3 t a).b (item3 t ((item3 t a).at_ + 1)).b).1, 0, false, (item3 t ((item3 t a).at_ + 1)).at_, 0⟩ := rfl
  generalize item3 t a = i at hic hia hrng
  refine calls_of_ES TB Tryz.func108 rfl _ Tryz.ntmps108 rfl (Sat.start w) ?_; refine .go ?_; (repeat constructor); (refine .al ?_; intro g4); refine .go ?_; (repeat constructor); refine .mv ?_; refine .mv ?_; refine EL.callP rfl rfl rfl ent122 rfl hic ?_; (refine .al ?_; intro g5); refine .sa ?_; refine .go ?_; repeat constructor
  refine EL.cutX (X := Unit) (fun _ => [(0, Sv t), (4, Pv g4 0), (5, Pv g5 0), (21, .bool (!decide (i.e = 0) || !dashM t i.at_))]) (fun _ => [HA.blk g5 (.cells (itCells i).toArray 223), HA.blk g4 (.cells (itCells ⟨zeroS, 0, false, 0, 0⟩).toArray 223)]) ?_ (fun _ => ?_)
  · by_cases he : i.e = 0
    · have hi2 := hia he
      refine .go ?_; (repeat constructor); refine .fa ?_; refine .lb ?_; refine .ni ?_; refine .mv ?_
      refine EL.rew (d := 15) (v' := .bool false) rfl (congrArg Value.bool (by rw [he]; rfl)) ?_
      refine .mv ?_; refine .fa ?_; refine .lb ?_; refine EL.callP rfl rfl rfl ent123 rfl (dash3_c t i.at_ ht (by omega)) ?_; refine .nt ?_; refine .pf ?_
      exact .dx () ⟨rfl, rfl, rfl, getA rfl (congrArg Value.bool (by rw [he]; simp)), trivial⟩
    · refine .go ?_; (repeat constructor); refine .fa ?_; refine .lb ?_; refine .ni ?_; refine .mv ?_; refine EL.rew (d := 15) (v' := .bool true) rfl (congrArg Value.bool (by simp [he])) ?_; refine .ps ?_; refine .ps ?_; refine .ps ?_; refine .ps ?_; refine .ps ?_; refine .pt ?_
      exact .dx () ⟨rfl, rfl, rfl, getA rfl (congrArg Value.bool (by simp [he])), trivial⟩
  refine ES.cond rfl (fun hc => ?_) (fun hc => ?_)
  · rw [if_pos (by
      rcases Bool.or_eq_true_iff.1 hc with h1 | h1
      · exact .inl (by simpa using h1)
      · exact .inr (by simpa using h1))] at hrng
    rw [hrng]
    refine .go ?_; (repeat constructor); refine .lg ?_; refine .sa ?_; refine .go ?_; repeat constructor
    exact PX.ret rfl Tryz.results108 (.cons (.blkA rfl rfl rfl (by repeat constructor) rfl) .nil) (fun w hs => ⟨(), rfl, hs.ent (.nil _)⟩)
  rw [Bool.or_eq_false_iff] at hc
  have he0 : i.e = 0 := by simpa using hc.1
  have hda : dashM t i.at_ = true := by simpa using hc.2
  have hdl := dash_lt hda
  rw [if_neg (by rw [he0, hda]; simp)] at hrng
  refine .go ?_; (repeat constructor); refine .fa ?_; refine .lb ?_; refine .a1 ?_; refine .mv ?_; refine .lS ?_; refine .ei ?_; refine .go ?_; repeat constructor
  refine ES.condD rfl (fun hend => ?_) (fun hend => ?_)
  · rw [if_pos (by omega)] at hrng
    rw [hrng]
    refine .go ?_; (repeat constructor); refine EL.buildS (itCells ⟨zeroS, 0, false, 0, 6⟩).toArray rfl rfl rfl rfl rfl (by kernel_rfl) rfl ?_; refine .sa ?_; refine .go ?_; repeat constructor
    exact PX.ret rfl Tryz.results108 (.cons (.blkA rfl rfl rfl (by repeat constructor) rfl) .nil) (fun w hs => ⟨(), rfl, hs.ent (.nil _)⟩)
  rw [if_neg (by omega)] at hrng
  refine .go ?_; (repeat constructor); refine .fa ?_; refine .lb ?_; refine .nt ?_; refine .go ?_; repeat constructor
  refine ES.cond rfl (fun hs1 => ?_) (fun hs1 => ?_)
  · rw [if_pos (by simpa using hs1)] at hrng
    rw [hrng]
    refine .go ?_; (repeat constructor); refine EL.buildS (itCells ⟨zeroS, 0, false, 0, 7⟩).toArray rfl rfl rfl rfl rfl (by kernel_rfl) rfl ?_; refine .sa ?_; refine .go ?_; repeat constructor
    exact PX.ret rfl Tryz.results108 (.cons (.blkA rfl rfl rfl (by repeat constructor) rfl) .nil) (fun w hs => ⟨(), rfl, hs.ent (.nil _)⟩)
  rw [if_neg (by simpa using hs1)] at hrng
  have hjc := item3_c t (i.at_ + 1) (by omega) ht
  have hja := item3_at t (i.at_ + 1) (by omega)
  generalize item3 t (i.at_ + 1) = j at hjc hja hrng
  refine .go ?_; (repeat constructor); refine .mv ?_; refine .fa ?_; refine .lb ?_; refine .a1 ?_; refine EL.callP rfl rfl rfl ent122 rfl hjc ?_; (refine .al ?_; intro g6); refine .sa ?_; refine .go ?_; (repeat constructor); refine .fa ?_; refine .lb ?_; refine .ni ?_; refine .go ?_; repeat constructor
  refine ES.condN rfl (fun hne => ?_) (fun heq => ?_)
  · rw [if_pos hne] at hrng
    rw [hrng]
    refine .go ?_; (repeat constructor); refine .lg ?_; refine .sa ?_; refine .go ?_; repeat constructor
    exact PX.ret rfl Tryz.results108 (.cons (.blkA rfl rfl rfl (by repeat constructor) rfl) .nil) (fun w hs => ⟨(), rfl, hs.ent (.nil _)⟩)
  have heq : j.e = 0 := heq
  have hj2 := hja heq
  rw [if_neg (by simpa using heq)] at hrng
  refine .go ?_; repeat constructor
  refine EL.cutX (X := Unit) (fun _ => [(4, Pv g4 0), (5, Pv g5 0), (6, Pv g6 0), (58, .bool (decide (j.single = false ∨ j.b.toNat < i.b.toNat ∨ dashM t j.at_ = true)))]) (fun _ => [HA.blk g6 (.cells (itCells j).toArray 223), HA.blk g5 (.cells (itCells i).toArray 223), HA.blk g4 (.cells (itCells ⟨zeroS, 0, false, 0, 0⟩).toArray 223)]) ?_ (fun _ => ?_)
  · refine .go ?_; (repeat constructor); refine .fa ?_; refine .lb ?_; refine .nt ?_; refine .mv ?_
    first | refine EL.splitD (d := 46) rfl (fun hp46 => ?_) (fun hp46 => ?_) | refine EL.splitN (d := 46) rfl (fun hp46 => ?_) (fun hp46 => ?_) | refine EL.splitB (d := 46) rfl (fun hp46 => ?_) (fun hp46 => ?_)
    · refine .ps ?_; refine .ps ?_; refine .ps ?_; refine .ps ?_; refine .ps ?_; refine .pt ?_; refine .mv ?_; refine .ps ?_; refine .ps ?_; refine .ps ?_; refine .ps ?_; refine .pt ?_
      exact .dx () ⟨rfl, rfl, rfl, getA rfl (congrArg Value.bool (by rw [Bool.eq_iff_iff]; simp_all <;> omega)), trivial⟩
    · refine .fa ?_; refine .lb ?_; refine .fa ?_; refine .lb ?_; refine .ls ?_; refine .pf ?_; refine .mv ?_
      first | refine EL.splitD (d := 53) rfl (fun hp53 => ?_) (fun hp53 => ?_) | refine EL.splitN (d := 53) rfl (fun hp53 => ?_) (fun hp53 => ?_) | refine EL.splitB (d := 53) rfl (fun hp53 => ?_) (fun hp53 => ?_)
      · refine .ps ?_; refine .ps ?_; refine .ps ?_; refine .ps ?_; refine .pt ?_
        exact .dx () ⟨rfl, rfl, rfl, getA rfl (congrArg Value.bool (by rw [Bool.eq_iff_iff]; simp_all <;> omega)), trivial⟩
      · refine .mv ?_; refine .fa ?_; refine .lb ?_; refine EL.callP rfl rfl rfl ent123 rfl (dash3_c t j.at_ ht (by omega)) ?_; refine .pf ?_
        exact .dx () ⟨rfl, rfl, rfl, getA rfl (congrArg Value.bool (by rw [Bool.eq_iff_iff]; simp_all <;> omega)), trivial⟩
  refine ES.condD rfl (fun hb => ?_) (fun hb => ?_)
  · rw [if_pos hb] at hrng
    rw [hrng]
    refine .go ?_; (repeat constructor); refine EL.buildS (itCells ⟨zeroS, 0, false, 0, 7⟩).toArray rfl rfl rfl rfl rfl (by kernel_rfl) rfl ?_; refine .sa ?_; refine .go ?_; repeat constructor
    exact PX.ret rfl Tryz.results108 (.cons (.blkA rfl rfl rfl (by repeat constructor) rfl) .nil) (fun w hs => ⟨(), rfl, hs.ent (.nil _)⟩)
  rw [if_neg hb] at hrng
  rw [hrng]
  have hspc := rspan_c i.b j.b
  generalize spanM i.b j.b = q at hspc
  obtain ⟨q1, q2⟩ := q
  refine .go ?_; (repeat constructor); refine .fa ?_; refine .lb ?_; refine .fa ?_; refine .lb ?_; refine EL.callP rfl rfl rfl ent124 rfl hspc ?_; refine .mv ?_; refine .ex ?_; refine .ex ?_; (refine .al ?_; intro g7); refine .sa ?_; refine .as_ ?_; refine .go ?_; (repeat constructor); refine .lg ?_; refine .fa ?_; refine .lb ?_; refine EL.buildS (itCells ⟨q1, 0, false, j.at_, 0⟩).toArray rfl rfl rfl rfl rfl (by kernel_rfl) rfl ?_; refine .sa ?_; refine .go ?_; repeat constructor
  exact PX.ret rfl Tryz.results108 (.cons (.blkA rfl rfl rfl (by repeat constructor) rfl) .nil) (fun w hs => ⟨(), rfl, hs.ent (.nil _)⟩)
theorem brdoc_c (t : List UInt8) (a : Nat) (ht : t.length ≤ 1073741824) (ha : a ≤ 1073741824) (w : World) :
    Pure Tryz.prog 93 #[Sv t, Iv (a : Nat)] (fun _ : Unit => .tuple #[Bs (brackM t a).set, Iv ((brackM t a).at_ : Nat), Iv (brackM t a).e]) (fun _ => []) w := by
  refine calls_of_ES TB Tryz.func93 rfl _ Tryz.ntmps93 rfl (Sat.start w) ?_; refine .go ?_; (repeat constructor); (refine .al ?_; intro g4); refine .as_ ?_; refine .as_ ?_; refine .go ?_; (repeat constructor); (refine .al ?_; intro g7); refine .go ?_; repeat constructor
  refine EL.cutX (X := Unit) (fun _ => [(0, Sv t), (1, Iv (a : Nat)), (4, Pv g4 0), (7, Pv g7 0), (24, .bool (brBad t a))]) (fun _ => [SB g7 zeroS, SB g4 zeroS]) ?_ (fun _ => ?_)
  · refine .go ?_; (repeat constructor); refine .mv ?_; refine .ls ?_; refine .mv ?_; refine EL.rew (d := 13) (v' := .bool false) rfl (congrArg Value.bool (decide_eq_false (by omega))) ?_; refine .mv ?_; refine .mv ?_; refine .lS ?_; refine .gq ?_; refine .pf ?_; refine .mv ?_
    first | refine EL.splitD (d := 19) rfl (fun hp19 => ?_) (fun hp19 => ?_) | refine EL.splitN (d := 19) rfl (fun hp19 => ?_) (fun hp19 => ?_) | refine EL.splitB (d := 19) rfl (fun hp19 => ?_) (fun hp19 => ?_)
    · refine .ps ?_; refine .ps ?_; refine .ps ?_; refine .ps ?_; refine .pt ?_
      exact .dx () ⟨rfl, rfl, rfl, rfl, getA rfl (congrArg Value.bool (by unfold brBad; simp_all <;> omega)), trivial⟩
    · refine .mv ?_; refine .mv ?_; refine .iS ?_; refine .ni ?_; refine .pf ?_
      exact .dx () ⟨rfl, rfl, rfl, rfl, getA rfl (congrArg Value.bool (by unfold brBad; simp_all <;> omega)), trivial⟩
  refine ES.cond rfl (fun hbad => ?_) (fun hok => ?_)
  · have hm : brackM t a = ⟨zeroS, 0, 1⟩ := by unfold brackM; rw [if_pos hbad]
    rw [hm]
    refine .go ?_; (repeat constructor); refine .lg ?_; refine .sa ?_; refine .as_ ?_; refine .as_ ?_; refine .go ?_; repeat constructor
    exact PX.ret rfl Tryz.results93 (.cons (.blkA rfl rfl rfl (by repeat constructor) rfl) (.cons (.tmp rfl) (.cons (.tmp rfl) .nil))) (fun w hs => ⟨(), rfl, hs.ent (.i (by repeat constructor))⟩)
  have hok2 := brBad_false hok
  obtain ⟨nt, hnt⟩ : ∃ nt, nt = brNot t a := ⟨_, rfl⟩
  refine .go ?_; (repeat constructor); refine .mv ?_; refine .a1 ?_; refine .as_ ?_; refine .go ?_; repeat constructor
  refine EL.cutX (X := Unit) (fun _ => [(0, Sv t), (1, Iv ((a + 1 : Nat) : Int)), (4, Pv g4 0), (7, Pv g7 0), (8, .bool nt)]) (fun _ => [SB g7 zeroS, SB g4 zeroS]) ?_ (fun _ => ?_)
  · refine .go ?_; (repeat constructor); refine .mv ?_; refine .mv ?_; refine .lS ?_; refine .ls ?_; refine .mv ?_
    first | refine EL.splitD (d := 32) rfl (fun hp32 => ?_) (fun hp32 => ?_) | refine EL.splitN (d := 32) rfl (fun hp32 => ?_) (fun hp32 => ?_) | refine EL.splitB (d := 32) rfl (fun hp32 => ?_) (fun hp32 => ?_)
    · refine .mv ?_; refine .mv ?_; refine .iS ?_; refine .ei ?_; refine .pt ?_; refine .as_ ?_
      exact .dx () ⟨rfl, rfl, rfl, rfl, getA rfl (congrArg Value.bool (by rw [hnt]; unfold brNot; simp_all <;> omega)), trivial⟩
    · refine .ps ?_; refine .ps ?_; refine .ps ?_; refine .ps ?_; refine .pf ?_; refine .as_ ?_
      exact .dx () ⟨rfl, rfl, rfl, rfl, getA rfl (congrArg Value.bool (by rw [hnt]; unfold brNot; simp_all <;> omega)), trivial⟩
  refine .go ?_; (repeat constructor); refine .mv ?_; refine .go ?_; repeat constructor
  refine ES.cutC (X := Unit) (fun _ => [(0, Sv t), (1, Iv ((if nt = true then a + 2 else a + 1 : Nat) : Int)), (4, Pv g4 0), (7, Pv g7 0), (8, .bool nt)]) (fun _ => [SB g7 zeroS, SB g4 zeroS]) ?_ (fun _ => ?_)
  · refine ES.cond rfl (fun hn => ?_) (fun hn => ?_)
    · rw [if_pos hn]
      refine .go ?_; (repeat constructor); refine .mv ?_; refine .a1 ?_; refine .as_ ?_; refine .go ?_; repeat constructor
      exact .cy ()
    · rw [if_neg (by rw [hn]; decide)]
      refine .go ?_; repeat constructor
      exact .cy ()
  have hm : brackM t a = brOut nt (brFrom t (if nt = true then a + 2 else a + 1)) := by
    unfold brackM brOut
    rw [if_neg (by rw [hok]; decide), ← hnt]
    split <;> rfl
  rw [hm]
  have hfrom : (if nt = true then a + 2 else a + 1) ≤ t.length := by
    split
    · rename_i hn
      rw [hnt] at hn
      have := brNot_true hn
      omega
    · omega
  generalize (if nt = true then a + 2 else a + 1) = from_ at hfrom ⊢
  obtain ⟨res, hres⟩ : ∃ res, res = brFrom t from_ := ⟨_, rfl⟩
  rw [← hres]
  refine .go ?_; (repeat constructor); refine .as_ ?_; refine .go ?_; repeat constructor
  refine ES.loop (σ := Nat × Nat × BS × Nat) (fun (a, n, s, m) => n ≤ a ∧ a ≤ t.length ∧ t.length + 1 ≤ m + a ∧ brGo t m a (decide (n = 0)) s = res) (fun (a, n, s, m) => [(0, Sv t), (1, Iv (a : Nat)), (4, Pv g4 0), (7, Pv g7 0), (8, .bool nt), (9, Iv (n : Nat))])
    (fun (a, n, s, m) => [SB g7 s, SB g4 zeroS]) (fun (a, n, s, m) => t.length + 1 - a) (from_, 0, zeroS, t.length + 1 - from_) ⟨Nat.zero_le _, hfrom, by omega, hres.symm⟩ ⟨rfl, rfl, rfl, rfl, rfl, rfl, trivial⟩ (.i (by repeat constructor)) ?_
  rintro ⟨a, n, s, m⟩ ⟨hna, hale, hn, hgo⟩
  dsimp only at hna hale hn hgo ⊢
  obtain ⟨m, rfl⟩ : ∃ k, m = k + 1 := ⟨m - 1, by omega⟩
  refine .go ?_; (repeat constructor); refine .mv ?_; refine .mv ?_; refine .lS ?_; refine .gq ?_; refine .go ?_; repeat constructor
  refine ES.condD rfl (fun hge => ?_) (fun hlt => ?_)
  · rw [brGo, if_pos (by omega)] at hgo
    rw [← hgo, brOut_bad nt 6 (by decide)]
    refine .go ?_; (repeat constructor); refine EL.buildZA rfl rfl rfl rfl rfl ?_; refine .sa ?_; refine .as_ ?_; refine .as_ ?_; refine .go ?_; repeat constructor
    exact PX.ret rfl Tryz.results93 (.cons (.blkA rfl rfl rfl (by repeat constructor) rfl) (.cons (.tmp rfl) (.cons (.tmp rfl) .nil))) (fun w hs => ⟨(), rfl, hs.ent (.i (by repeat constructor))⟩)
  have hlt' : a < t.length := by omega
  rw [brGo, if_neg (by omega)] at hgo
  refine .go ?_; repeat constructor
  refine EL.cutX (X := Unit) (fun _ => [(0, Sv t), (1, Iv (a : Nat)), (4, Pv g4 0), (7, Pv g7 0), (8, .bool nt), (9, Iv (n : Nat)), (55, .bool (brEnd t a (decide (n = 0))))]) (fun _ => [SB g7 s, SB g4 zeroS]) ?_ (fun _ => ?_)
  · refine .go ?_; (repeat constructor); refine .mv ?_; refine .gt_ ?_; refine .mv ?_
    first | refine EL.splitD (d := 50) rfl (fun hp50 => ?_) (fun hp50 => ?_) | refine EL.splitN (d := 50) rfl (fun hp50 => ?_) (fun hp50 => ?_) | refine EL.splitB (d := 50) rfl (fun hp50 => ?_) (fun hp50 => ?_)
    · refine .mv ?_; refine .mv ?_; refine .iS ?_; refine .ei ?_; refine .pt ?_
      exact .dx () ⟨rfl, rfl, rfl, rfl, rfl, rfl, getA rfl (congrArg Value.bool (by unfold brEnd; rw [Bool.eq_iff_iff]; simp_all <;> omega)), trivial⟩
    · refine .ps ?_; refine .ps ?_; refine .ps ?_; refine .ps ?_; refine .pf ?_
      exact .dx () ⟨rfl, rfl, rfl, rfl, rfl, rfl, getA rfl (congrArg Value.bool (by unfold brEnd; rw [Bool.eq_iff_iff]; simp_all <;> omega)), trivial⟩
  refine ES.cond rfl (fun hend => ?_) (fun hnend => ?_)
  · rw [if_pos hend] at hgo
    rw [← hgo]
    refine .go ?_; (repeat constructor); refine .mv ?_; refine .go ?_; repeat constructor
    cases nt
    · refine ES.condF rfl ?_; refine .go ?_; (repeat constructor); refine .lg ?_; refine .mv ?_; refine .a1 ?_; refine .sa ?_; refine .as_ ?_; refine .as_ ?_; refine .go ?_; repeat constructor
      exact PX.ret rfl Tryz.results93 (.cons (.blkA rfl rfl rfl (by repeat constructor) rfl) (.cons (.tmp rfl) (.cons (.tmp rfl) .nil))) (fun w hs => ⟨(), rfl, hs.ent (.i (by repeat constructor))⟩)
    · refine ES.condT rfl ?_; refine .go ?_; (repeat constructor); refine .lg ?_; refine EL.callP rfl rfl rfl ent95 rfl (rnot_c s) ?_; refine .sa ?_; refine .go ?_; (repeat constructor); refine .lg ?_; refine .mv ?_; refine .a1 ?_; refine .sa ?_; refine .as_ ?_; refine .as_ ?_; refine .go ?_; repeat constructor
      exact PX.ret rfl Tryz.results93 (.cons (.blkA rfl rfl rfl (by repeat constructor) rfl) (.cons (.tmp rfl) (.cons (.tmp rfl) .nil))) (fun w hs => ⟨(), rfl, hs.ent (.i (by repeat constructor))⟩)
  · rw [if_neg (by rw [hnend]; decide)] at hgo
    obtain ⟨r1, r2⟩ := rng3_is t a hlt'
    have hsa := span_at t a hlt'
    have hrc := rng3_c t a hlt' ht
    rw [← r1] at hgo
    refine .go ?_; (repeat constructor); refine .mv ?_; refine .mv ?_; refine EL.callP rfl rfl rfl ent108 rfl hrc ?_; (refine .al ?_; intro g10); refine .sa ?_; refine .go ?_; (repeat constructor); refine .fa ?_; refine .lb ?_; refine .ni ?_; refine .go ?_; repeat constructor
    refine ES.condN rfl (fun hne => ?_) (fun heq => ?_)
    · rw [if_pos hne] at hgo
      rw [← hgo, brOut_bad nt _ hne]
      refine .g0 ?_; repeat constructor
      refine ES.draw (X := Unit) (fun _ => [(4, Pv g4 0), (5, Iv 0), (6, Iv (rng3 t a).e)]) (fun _ => [SB g4 zeroS]) [HA.blk g10 (.cells (itCells (rng3 t a)).toArray 223)] mixed (.i (by repeat constructor)) ?_ (fun _ => ?_)
      · refine .tk 1 rfl (RV.fieldAddr rfl rfl rfl rfl rfl rfl) ?_; refine .tk 2 rfl (RV.loadB rfl rfl rfl (by repeat constructor) rfl) ?_; refine .ld 0 ?_; refine EL.buildZA rfl rfl rfl rfl rfl ?_; refine .nx ?_; refine .ld 3 ?_; refine .sa ?_; refine .nx ?_; refine .tk 4 rfl (RV.assign rfl) ?_; refine .tk 5 rfl (RV.assign rfl) ?_; refine .dn ?_
        exact .cy ()
      refine .go ?_; repeat constructor
      exact PX.ret rfl Tryz.results93 (.cons (.blkA rfl rfl rfl (by repeat constructor) rfl) (.cons (.tmp rfl) (.cons (.tmp rfl) .nil))) (fun w hs => ⟨(), rfl, hs.ent (.i (by repeat constructor))⟩)
    · have heq : (rng3 t a).e = 0 := heq
      have he2 : (spanT t a).e = 0 := by rw [← r1]; exact heq
      obtain ⟨q1, q2⟩ := r2 he2
      have q3 := hsa.2.2 he2
      rw [if_neg (by simpa using heq), ← q1, ← q2] at hgo
      rw [← q2] at q3 hsa
      generalize rng3 t a = i at *
      refine .go ?_; (repeat constructor); refine .lg ?_; refine .fa ?_
      refine EL.ofRV (RV.loadBA [Wv i.set.a, Wv i.set.b, Wv i.set.c, Wv i.set.d] rfl rfl rfl rfl (by repeat constructor) rfl) rfl rfl rfl (by intro c h; cases h) ?_
      refine EL.callP rfl rfl rfl ent109 rfl (ror_c s i.set) ?_; refine .sa ?_; refine .go ?_; (repeat constructor); refine .fa ?_; refine .lb ?_; refine .as_ ?_; refine .go ?_; (repeat constructor); refine .go ?_; (repeat constructor); refine .mv ?_; refine .a1 ?_; refine .as_ ?_; refine .go ?_; repeat constructor
      refine .ly (i.at_, n + 1, orS s i.set, m) ⟨by simp only; omega, hsa.2.1, by simp only; omega, by simp only; rw [decide_eq_false (by omega)]; exact hgo⟩ (by simp only; omega)
end Go.Proofs.YthcbjbkheodejaaGreat
namespace Go.Proofs.YthcbjbkheodejaaGreat
open Go Go.RowKit Sl
set_option maxRecDepth 100000
set_option maxHeartbeats 8000000
attribute [local irreducible] ES EL PX wps
mutual
def posR : RE → Nat
  | .cat ks => posL ks
  | .byte _ => 1
  | .bol => 0
  | .eol => 0
  | .group _ k => posR k
  | .rep lo hi k => posR k * timesM lo hi
  | .back _ => 1
def posL : List RE → Nat
  | [] => 0
  | k :: ks => posR k + posL ks
end
theorem posL_sum : ∀ ks : List RE, posL ks = (ks.map posR).sum
  | [] => rfl
  | k :: ks => by rw [posL, posL_sum ks, List.map_cons, List.sum_cons]
theorem posR_cat (ks : List RE) : posR (.cat ks) = (ks.map posR).sum := by rw [posR, posL_sum]
structure DR where
  at_ : Nat
  e : Int
  place : Nat
  groups : Nat
  closed : List Bool
  size : Int
def DR.fail (r : DR) (e : Int) (a : Nat) : DR := if r.e = 0 then { r with e := e, place := a } else r
def DR.grown (r : DR) (n : Int) (a : Nat) : DR := if 256 < r.size + n then DR.fail { r with size := r.size + n } 13 a else { r with size := r.size + n }
def DR.to (r : DR) (a : Nat) : DR := { r with at_ := a }
def see2 (t : List UInt8) (a : Nat) (x y : UInt8) : Bool := decide (a + 2 ≤ t.length) && decide ((t.drop a).take 2 = [x, y])
def dEsc (t : List UInt8) (r : DR) : RE × DR :=
  if r.at_ + 1 = t.length then (.cat [], r.fail 6 r.at_)
  else
    let b := t.getD (r.at_ + 1) 0
    let r1 := r.to (r.at_ + 2)
    if b.toNat = 110 then (.byte (ofS [10]), r1.grown 1 r.at_)
    else if 49 ≤ b.toNat ∧ b.toNat ≤ 57 then (.back (b.toNat - 48), (if r1.closed.getD (b.toNat - 48) false = true then r1 else r1.fail 11 r.at_).grown 1 r.at_)
    else if isAln b = true then (.byte (ofS [b]), (r1.fail 12 r.at_).grown 1 r.at_)
    else (.byte (ofS [b]), r1.grown 1 r.at_)
def dLeaf (t : List UInt8) (r : DR) (first : Bool) : RE × DR :=
  let b := t.getD r.at_ 0
  if see2 t r.at_ 92 123 = true ∨ see2 t r.at_ 92 125 = true then (.cat [], r.fail 9 r.at_)
  else if b.toNat = 92 then dEsc t r
  else if b.toNat = 91 then (if (brackM t r.at_).e ≠ 0 then (.cat [], r.fail (brackM t r.at_).e r.at_) else (.byte (brackM t r.at_).set, (r.to (brackM t r.at_).at_).grown 1 r.at_))
  else if b.toNat = 94 ∧ first = true then (.bol, r.to (r.at_ + 1))
  else if b.toNat = 36 ∧ (r.at_ + 1 = t.length ∨ see2 t (r.at_ + 1) 92 41 = true) then (.eol, r.to (r.at_ + 1))
  else if b.toNat = 46 then (.byte (notS zeroS), (r.to (r.at_ + 1)).grown 1 r.at_)
  else (.byte (ofS [b]), (r.to (r.at_ + 1)).grown 1 r.at_)
def ivA (t : List UInt8) (a : Nat) : Nat := (if (numM t a).2 < t.length ∧ t.getD (numM t a).2 0 = 44 then numM t ((numM t a).2 + 1) else numM t a).2
def dReps (t : List UInt8) : Nat → RE → DR → RE × DR
  | 0, p, r => (p, r)
  | n + 1, p, r =>
    if r.e ≠ 0 then (p, r)
    else if decide (r.at_ < t.length) && decide ((t.getD r.at_ 0).toNat = 42) then dReps t n (.rep 0 (-1) p) ((r.to (r.at_ + 1)).grown ((posR (.rep 0 (-1) p) : Int) - posR p) r.at_)
    else if see2 t r.at_ 92 123 = true then
      match ivM t (r.at_ + 2) with
      | none => (p, (r.to (ivA t (r.at_ + 2))).fail 9 r.at_)
      | some (lo, hi, a) => dReps t n (.rep lo hi p) ((r.to a).grown ((posR (.rep lo hi p) : Int) - posR p) r.at_)
    else (p, r)
def isAnch : RE → Bool
  | .bol => true
  | .eol => true
  | _ => false
def dRow (t : List UInt8) : Nat → Bool → Nat → List RE → DR → RE × DR
  | 0, _, _, ks, r => (.cat ks, r)
  | n + 1, in_, op, ks, r =>
    if r.e ≠ 0 then (.cat ks, r)
    else if r.at_ = t.length then (.cat ks, if in_ = true then r.fail 10 op else r)
    else if see2 t r.at_ 92 41 = true then (.cat ks, (if in_ = true then r else r.fail 10 r.at_).to (r.at_ + 2))
    else
      let x : RE × DR :=
        if see2 t r.at_ 92 40 = true then
          (if r.groups = 9 then (.cat [], r.fail 4 r.at_)
          else
            let y := dRow t n true r.at_ [] { r with groups := r.groups + 1, at_ := r.at_ + 2 }
            (.group (r.groups + 1) y.1, { y.2 with closed := y.2.closed.set (r.groups + 1) true }))
        else dLeaf t r (decide (ks = []))
      let z := if isAnch x.1 = true then x else dReps t t.length x.1 x.2
      dRow t n in_ op (ks ++ [z.1]) z.2
def dr0 : DR := ⟨0, 0, 0, 0, List.replicate 10 false, 0⟩
def docM (t : List UInt8) : Parsed :=
  if 512 < t.length then ⟨.cat [], 2, 0⟩
  else
    let x := dRow t (t.length + 1) false 0 [] dr0
    if x.2.e ≠ 0 then ⟨.cat [], x.2.e, x.2.place⟩ else ⟨x.1, 0, 0⟩
structure DRel (ks : List RE) (r : DR) (P : PS) : Prop where
  kids : P.top.kids = ks
  sizes : P.top.sizes = ks.map posR
  groups : P.groups = r.groups
  shut : P.shut = r.closed
  size : (P.size : Int) = r.size
  tot : P.top.sizes.sum + (P.rest.map Frame.tot).sum ≤ P.size
  e : r.e = 0
theorem fail_ok {r : DR} (h : r.e = 0) (e : Int) (a : Nat) : r.fail e a = { r with e := e, place := a } := if_pos h
theorem grown_two {r : DR} (h : r.e = 0) (n : Int) (a : Nat) : (growE (r.size + n).toNat = 0 ∧ r.grown n a = { r with size := r.size + n }) ∨ (growE (r.size + n).toNat = 13 ∧ r.grown n a = { r with size := r.size + n, e := 13, place := a }) := by
  unfold DR.grown growE
  by_cases hb : 256 < r.size + n
  · right
    rw [if_pos hb, if_pos (by omega)]
    exact ⟨rfl, fail_ok (r := { r with size := r.size + n }) h 13 a⟩
  · left
    rw [if_neg hb, if_neg (by omega)]
    exact ⟨rfl, rfl⟩
end Go.Proofs.YthcbjbkheodejaaGreat
namespace Go.Proofs.YthcbjbkheodejaaGreat
open Go Go.RowKit Sl
set_option maxRecDepth 100000
set_option maxHeartbeats 8000000
attribute [local irreducible] ES EL PX wps
theorem take2 {t : List UInt8} {a : Nat} (h : a + 2 ≤ t.length) : (t.drop a).take 2 = [t.getD a 0, t.getD (a + 1) 0] := by
  rw [List.drop_eq_getElem_cons (show a < t.length by omega), List.drop_eq_getElem_cons (show a + 1 < t.length by omega)]
  rw [List.take_succ_cons, List.take_succ_cons, List.take_zero, List.getD_eq_getElem?_getD, List.getElem?_eq_getElem (show a < t.length by omega), List.getD_eq_getElem?_getD, List.getElem?_eq_getElem (show a + 1 < t.length by omega)]
  rfl
theorem see2_iff (t : List UInt8) (a : Nat) (x y : UInt8) : see2 t a x y = true ↔ a + 2 ≤ t.length ∧ t.getD a 0 = x ∧ t.getD (a + 1) 0 = y := by
  unfold see2
  rw [Bool.and_eq_true, decide_eq_true_eq, decide_eq_true_eq]
  constructor
  · rintro ⟨h1, h2⟩
    rw [take2 h1] at h2
    simp only [List.cons.injEq, and_true] at h2
    exact ⟨h1, h2⟩
  · rintro ⟨h1, h2⟩
    rw [take2 h1, h2.1, h2.2]
    exact ⟨h1, rfl⟩
def pg (t : List UInt8) (m a : Nat) (f b : Bool) (P : PS) : Parsed := parseGo (toksGo t m a f b) P
theorem pg_end {t : List UInt8} {a : Nat} (h : t.length ≤ a) (m : Nat) (f b : Bool) (P : PS) : pg t m a f b P = endM P := by
  cases m with
  | zero => rfl
  | succ m => unfold pg; rw [toksGo, if_pos h]; rfl
theorem pg_bad {t : List UInt8} {m a a' : Nat} {f b : Bool} {e : Int} (h : a < t.length) (hk : readT t a f b = (badT a e, a')) (he : e ≠ 0) (P : PS) : pg t (m + 1) a f b P = ⟨.cat [], e, a⟩ := by
  unfold pg
  rw [toksGo, if_neg (by omega), hk]
  dsimp only
  rw [if_pos (show (badT a e).kind = 7 from rfl), parseGo, takeM_7 (show 7 ≤ (badT a e).kind from Nat.le_refl 7), if_pos (show (badT a e).e ≠ 0 from he)]
  rfl
theorem pg_tok {t : List UInt8} {m a a' : Nat} {f b : Bool} {k : Tok} (h : a < t.length) (hk : readT t a f b = (k, a')) (h7 : k.kind ≠ 7) (P : PS) :
    pg t (m + 1) a f b P = if (takeM P k).2 ≠ 0 then ⟨.cat [], (takeM P k).2, k.at_⟩ else pg t m a' (decide (k.kind = 3)) (decide (k.kind = 3) || decide (k.kind = 1)) (takeM P k).1 := by
  unfold pg
  rw [toksGo, if_neg (by omega), hk]
  dsimp only
  rw [if_neg h7, parseGo]
def isBol : RE → Bool
  | .bol => true
  | _ => false
def Aft (t : List UInt8) (m a : Nat) (f b : Bool) (P : PS) (ks : List RE) (x : RE × DR) : Prop :=
  (x.2.e ≠ 0 ∧ pg t m a f b P = ⟨.cat [], x.2.e, x.2.place⟩) ∨
  (x.2.e = 0 ∧ ∃ m' P', DRel (ks ++ [x.1]) x.2 P' ∧ P'.rest = P.rest ∧ P'.top.group = P.top.group ∧ P'.top.at_ = P.top.at_ ∧ t.length ≤ m' + x.2.at_ ∧ a < x.2.at_ ∧ x.2.at_ ≤ t.length ∧ pg t m a f b P = pg t m' x.2.at_ false (isBol x.1) P')
theorem put_rel {ks : List RE} {r : DR} {P : PS} (h : DRel ks r P) (p : RE) (n a : Nat) (hn : n = posR p) : DRel (ks ++ [p]) { r.to a with size := r.size + n } { P with top := P.top.put p n, size := P.size + n } := by
  refine ⟨?_, ?_, h.groups, h.shut, ?_, ?_, h.e⟩
  · show P.top.kids ++ [p] = _
    rw [h.kids]
  · show P.top.sizes ++ [n] = _
    rw [h.sizes, List.map_append, hn]
    rfl
  · show ((P.size + n : Nat) : Int) = r.size + n
    have := h.size
    omega
  · show (P.top.sizes ++ [n]).sum + (P.rest.map Frame.tot).sum ≤ P.size + n
    have := h.tot
    rw [List.sum_append, List.sum_singleton]
    omega
theorem leaf_one {t : List UInt8} {m a a' : Nat} {f b : Bool} {k : Tok} {ks : List RE} {r : DR} {P : PS} {p : RE} (h : DRel ks r P) (ha : r.at_ = a) (hlt : a < t.length) (hm : t.length ≤ m + a) (hk : readT t a f b = (k, a')) (hat : k.at_ = a) (h7 : k.kind ≠ 7) (h3 : k.kind ≠ 3) (h1 : k.kind ≠ 1)
    (hp : posR p = 1) (hb : isBol p = false) (ht : takeM P k = ({ P with top := P.top.put p 1, size := P.size + 1 }, growE (P.size + 1))) : Aft t m a f b P ks (p, (r.to a').grown 1 a) := by
  obtain ⟨m, rfl⟩ : ∃ n, m = n + 1 := ⟨m - 1, by omega⟩
  have hn := readT_at t a f b hlt (by rw [hk]; exact h7)
  rw [hk] at hn
  have hs : (r.size + 1).toNat = P.size + 1 := by have := h.size; omega
  have he : (r.to a').e = 0 := h.e
  rcases grown_two he 1 a with ⟨g1, g2⟩ | ⟨g1, g2⟩
  · right
    have g1' : growE (P.size + 1) = 0 := by rw [← hs]; exact g1
    rw [g2]
    refine ⟨h.e, m, { P with top := P.top.put p 1, size := P.size + 1 }, put_rel h p 1 a' hp.symm, rfl, rfl, rfl, by show t.length ≤ m + a'; omega, hn.1, hn.2, ?_⟩
    rw [pg_tok hlt hk h7 P, ht, g1', if_neg (by simp), decide_eq_false h3, decide_eq_false h1]
    show _ = pg t m a' false (isBol p) _
    rw [hb]
    rfl
  · left
    have g1' : growE (P.size + 1) = 13 := by rw [← hs]; exact g1
    rw [g2]
    refine ⟨by simp, ?_⟩
    rw [pg_tok hlt hk h7 P, ht, g1', if_pos (by simp), hat]
theorem bad_aft {t : List UInt8} {m a a' : Nat} {f b : Bool} {e : Int} {ks : List RE} {r : DR} {P : PS} {p : RE} (h : DRel ks r P) (hlt : a < t.length) (hm : t.length ≤ m + a) (hk : readT t a f b = (badT a e, a')) (he : e ≠ 0) : Aft t m a f b P ks (p, r.fail e a) := by
  obtain ⟨m, rfl⟩ : ∃ n, m = n + 1 := ⟨m - 1, by omega⟩
  left
  rw [fail_ok h.e]
  exact ⟨he, pg_bad hlt hk he P⟩
theorem to_fail {r : DR} (h : r.e = 0) (a' : Nat) (e : Int) (a : Nat) : ((r.to a').fail e a) = { r.to a' with e := e, place := a } := fail_ok (r := r.to a') h e a
theorem grown_bad {r : DR} (h : r.e ≠ 0) (n : Int) (a : Nat) : r.grown n a = { r with size := r.size + n } := by
  unfold DR.grown
  split
  · exact if_neg h
  · rfl
theorem esc_aft {t : List UInt8} {m a : Nat} {f b : Bool} {ks : List RE} {r : DR} {P : PS} (h : DRel ks r P) (ha : r.at_ = a) (hlt : a < t.length) (hm : t.length ≤ m + a) (hb : (t.getD a 0).toNat = 92)
    (hsh : see2 t a 92 41 = false) (hop : see2 t a 92 40 = false) (hiv : see2 t a 92 123 = false) (hiw : see2 t a 92 125 = false) : Aft t m a f b P ks (dEsc t r) := by
  have hr : readT t a f b = escT t a b := by unfold readT; rw [if_pos hb]
  have hb' : t.getD a 0 = 92 := UInt8.toNat_inj.1 hb
  unfold dEsc
  rw [ha]
  by_cases hl : a + 1 = t.length
  · rw [if_pos hl]
    exact bad_aft h hlt hm (by rw [hr, escT, if_pos hl]) (by decide)
  have hno : ∀ y : UInt8, see2 t a 92 y = false → (t.getD (a + 1) 0).toNat ≠ y.toNat := fun y hy e => by
    have := (see2_iff t a 92 y).2 ⟨by omega, hb', UInt8.toNat_inj.1 e⟩
    rw [hy] at this
    cases this
  have n1 : (t.getD (a + 1) 0).toNat ≠ 40 := hno 40 hop
  have n2 : (t.getD (a + 1) 0).toNat ≠ 41 := hno 41 hsh
  have n3 : (t.getD (a + 1) 0).toNat ≠ 123 := hno 123 hiv
  have n4 : (t.getD (a + 1) 0).toNat ≠ 125 := hno 125 hiw
  rw [if_neg hl]
  dsimp only
  by_cases c1 : (t.getD (a + 1) 0).toNat = 110
  · rw [if_pos c1]
    exact leaf_one h ha hlt hm (k := oneT a 10) (a' := a + 2) (by rw [hr, escT, if_neg hl]; dsimp only; rw [if_neg n1, if_neg n2, if_neg n3, if_neg n4, if_pos c1]) rfl (show (0 : Nat) ≠ 7 by decide) (show (0 : Nat) ≠ 3 by decide) (show (0 : Nat) ≠ 1 by decide) rfl rfl (takeM_0 rfl)
  · rw [if_neg c1]
    by_cases c2 : 49 ≤ (t.getD (a + 1) 0).toNat ∧ (t.getD (a + 1) 0).toNat ≤ 57
    · rw [if_pos c2]
      have hk : readT t a f b = (⟨6, a, zeroS, (((t.getD (a + 1) 0).toNat - 48 : Nat) : Int), 0, 0⟩, a + 2) := by rw [hr, escT, if_neg hl]; dsimp only; rw [if_neg n1, if_neg n2, if_neg n3, if_neg n4, if_neg c1, if_pos c2]
      by_cases hc : r.closed.getD ((t.getD (a + 1) 0).toNat - 48) false = true
      · have hc' : (r.to (a + 2)).closed.getD ((t.getD (a + 1) 0).toNat - 48) false = true := hc
        rw [if_pos hc']
        exact leaf_one h ha hlt hm hk rfl (show (6 : Nat) ≠ 7 by decide) (show (6 : Nat) ≠ 3 by decide) (show (6 : Nat) ≠ 1 by decide) rfl rfl (by
          rw [takeM_6 rfl]
          have : P.shut.getD ((((t.getD (a + 1) 0).toNat - 48 : Nat) : Int)).toNat false = true := by rw [h.shut]; exact hc
          rw [if_pos this]
          rfl)
      · have hc' : ¬ (r.to (a + 2)).closed.getD ((t.getD (a + 1) 0).toNat - 48) false = true := hc
        rw [if_neg hc', to_fail h.e, grown_bad (by simp)]
        obtain ⟨m, rfl⟩ : ∃ n, m = n + 1 := ⟨m - 1, by omega⟩
        left
        refine ⟨by simp, ?_⟩
        rw [pg_tok hlt hk (show (6 : Nat) ≠ 7 by decide) P, takeM_6 rfl]
        have : ¬ P.shut.getD ((((t.getD (a + 1) 0).toNat - 48 : Nat) : Int)).toNat false = true := by rw [h.shut]; exact hc
        rw [if_neg this, if_pos (by simp)]
    · rw [if_neg c2]
      by_cases c3 : isAln (t.getD (a + 1) 0) = true
      · rw [if_pos c3, to_fail h.e, grown_bad (by simp)]
        obtain ⟨m, rfl⟩ : ∃ n, m = n + 1 := ⟨m - 1, by omega⟩
        left
        refine ⟨by simp, ?_⟩
        exact pg_bad hlt (e := 12) (by rw [hr, escT, if_neg hl]; dsimp only; rw [if_neg n1, if_neg n2, if_neg n3, if_neg n4, if_neg c1, if_neg c2, if_pos c3]) (by decide) P
      · rw [if_neg c3]
        exact leaf_one h ha hlt hm (k := oneT a (t.getD (a + 1) 0)) (a' := a + 2) (by rw [hr, escT, if_neg hl]; dsimp only; rw [if_neg n1, if_neg n2, if_neg n3, if_neg n4, if_neg c1, if_neg c2, if_neg c3]) rfl (show (0 : Nat) ≠ 7 by decide) (show (0 : Nat) ≠ 3 by decide) (show (0 : Nat) ≠ 1 by decide) rfl rfl (takeM_0 rfl)
theorem leaf_anchor {t : List UInt8} {m a : Nat} {f b : Bool} {k : Tok} {ks : List RE} {r : DR} {P : PS} {p : RE} (h : DRel ks r P) (hlt : a < t.length) (hm : t.length ≤ m + a) (hk : readT t a f b = (k, a + 1)) (h7 : k.kind ≠ 7) (h3 : k.kind ≠ 3) (h1 : decide (k.kind = 1) = isBol p)
    (hp : posR p = 0) (ht : takeM P k = ({ P with top := P.top.put p 0 }, 0)) : Aft t m a f b P ks (p, r.to (a + 1)) := by
  obtain ⟨m, rfl⟩ : ∃ n, m = n + 1 := ⟨m - 1, by omega⟩
  right
  have hq := put_rel h p 0 (a + 1) hp.symm
  have e1 : { r.to (a + 1) with size := r.size + ((0 : Nat) : Int) } = r.to (a + 1) := by
    rw [show r.size + ((0 : Nat) : Int) = r.size by omega]
    rfl
  rw [e1] at hq
  refine ⟨h.e, m, { P with top := P.top.put p 0 }, hq, rfl, rfl, rfl, by show t.length ≤ m + (a + 1); omega, Nat.lt_succ_self a, hlt, ?_⟩
  rw [pg_tok hlt hk h7 P, ht, if_neg (by simp), decide_eq_false h3, h1]
  rfl
theorem leaf_aft {t : List UInt8} {m a : Nat} {b : Bool} {ks : List RE} {r : DR} {P : PS} (h : DRel ks r P) (ha : r.at_ = a) (hlt : a < t.length) (hm : t.length ≤ m + a)
    (hsh : see2 t a 92 41 = false) (hop : see2 t a 92 40 = false) (hbg : b = false → (t.getD a 0).toNat ≠ 42 ∧ see2 t a 92 123 = false) : Aft t m a (decide (ks = [])) b P ks (dLeaf t r (decide (ks = []))) := by
  unfold dLeaf
  rw [ha]
  dsimp only
  have hq : ∀ y : UInt8, see2 t a 92 y = true → a + 2 ≤ t.length ∧ (t.getD a 0).toNat = 92 ∧ (t.getD (a + 1) 0).toNat = y.toNat := fun y hy => by
    obtain ⟨h1, h2, h3⟩ := (see2_iff t a 92 y).1 hy
    rw [h2, h3]
    exact ⟨h1, rfl, rfl⟩
  by_cases c0 : see2 t a 92 123 = true ∨ see2 t a 92 125 = true
  · rw [if_pos c0]
    refine bad_aft h hlt hm (a' := a) ?_ (by decide)
    rcases c0 with c | c
    · obtain ⟨h1, h2, h3⟩ := hq 123 c
      have h3' : (t.getD (a + 1) 0).toNat = 123 := h3
      have hbt : b = true := by
        cases b with
        | true => rfl
        | false => rw [(hbg rfl).2] at c; cases c
      unfold readT escT
      rw [if_pos h2, if_neg (by omega)]
      dsimp only
      rw [if_neg (by omega), if_neg (by omega), if_pos h3', hbt]
      cases ivM t (a + 2) with
      | none => rfl
      | some x => rfl
    · obtain ⟨h1, h2, h3⟩ := hq 125 c
      have h3' : (t.getD (a + 1) 0).toNat = 125 := h3
      unfold readT escT
      rw [if_pos h2, if_neg (by omega)]
      dsimp only
      rw [if_neg (by omega), if_neg (by omega), if_neg (by omega), if_pos h3']
  rw [if_neg c0]
  have c1 : see2 t a 92 123 = false := by cases hx : see2 t a 92 123 with | false => rfl | true => exact absurd (.inl hx) c0
  have c2 : see2 t a 92 125 = false := by cases hx : see2 t a 92 125 with | false => rfl | true => exact absurd (.inr hx) c0
  by_cases h92 : (t.getD a 0).toNat = 92
  · rw [if_pos h92]
    exact esc_aft h ha hlt hm h92 hsh hop c1 c2
  rw [if_neg h92]
  by_cases h91 : (t.getD a 0).toNat = 91
  · rw [if_pos h91]
    by_cases he : (brackM t a).e ≠ 0
    · rw [if_pos he]
      exact bad_aft h hlt hm (a' := a) (by unfold readT; rw [if_neg h92, if_pos h91, if_pos he]) he
    · rw [if_neg he]
      exact leaf_one h ha hlt hm (k := byteT a (brackM t a).set) (by unfold readT; rw [if_neg h92, if_pos h91, if_neg he]) rfl (show (0 : Nat) ≠ 7 by decide) (show (0 : Nat) ≠ 3 by decide) (show (0 : Nat) ≠ 1 by decide) rfl rfl (takeM_0 rfl)
  rw [if_neg h91]
  by_cases h94 : (t.getD a 0).toNat = 94 ∧ decide (ks = []) = true
  · rw [if_pos h94]
    exact leaf_anchor h hlt hm (k := ⟨1, a, zeroS, 0, 0, 0⟩) (by unfold readT; rw [if_neg h92, if_neg h91, if_neg (by omega), if_neg (fun x => by omega), if_pos h94]) (show (1 : Nat) ≠ 7 by decide) (show (1 : Nat) ≠ 3 by decide) rfl rfl (takeM_1 rfl)
  rw [if_neg h94]
  have heol : eolM t a = true ↔ (a + 1 = t.length ∨ see2 t (a + 1) 92 41 = true) := by
    unfold eolM see2
    simp only [Bool.or_eq_true, Bool.and_eq_true, decide_eq_true_eq]
    constructor
    · rintro (h | h)
      · exact .inl h
      · exact .inr ⟨by omega, h.2⟩
    · rintro (h | h)
      · exact .inl h
      · exact .inr ⟨by omega, h.2⟩
  by_cases h36 : (t.getD a 0).toNat = 36 ∧ (a + 1 = t.length ∨ see2 t (a + 1) 92 41 = true)
  · rw [if_pos h36]
    exact leaf_anchor h hlt hm (k := ⟨2, a, zeroS, 0, 0, 0⟩) (by unfold readT; rw [if_neg h92, if_neg h91, if_neg (by omega), if_neg (fun x => by omega), if_neg (fun x => by omega), if_pos ⟨h36.1, heol.2 h36.2⟩]) (show (2 : Nat) ≠ 7 by decide) (show (2 : Nat) ≠ 3 by decide) rfl rfl (takeM_2 rfl)
  rw [if_neg h36]
  by_cases h46 : (t.getD a 0).toNat = 46
  · rw [if_pos h46]
    exact leaf_one h ha hlt hm (k := byteT a (notS zeroS)) (a' := a + 1) (by unfold readT; rw [if_neg h92, if_neg h91, if_pos h46]) rfl (show (0 : Nat) ≠ 7 by decide) (show (0 : Nat) ≠ 3 by decide) (show (0 : Nat) ≠ 1 by decide) rfl rfl (takeM_0 rfl)
  rw [if_neg h46]
  have hstar : ¬ ((t.getD a 0).toNat = 42 ∧ b = false) := fun x => (hbg x.2).1 x.1
  exact leaf_one h ha hlt hm (k := oneT a (t.getD a 0)) (a' := a + 1) (by unfold readT; rw [if_neg h92, if_neg h91, if_neg h46, if_neg hstar, if_neg h94, if_neg (fun x => h36 ⟨x.1, heol.1 x.2⟩)]) rfl (show (0 : Nat) ≠ 7 by decide) (show (0 : Nat) ≠ 3 by decide) (show (0 : Nat) ≠ 1 by decide) rfl rfl (takeM_0 rfl)
theorem reps_bad (t : List UInt8) (n : Nat) (p : RE) {r : DR} (h : r.e ≠ 0) : dReps t n p r = (p, r) := by
  cases n with
  | zero => rfl
  | succ n => rw [dReps, if_pos h]
theorem row_bad (t : List UInt8) (n : Nat) (i : Bool) (op : Nat) (ks : List RE) {r : DR} (h : r.e ≠ 0) : dRow t n i op ks r = (.cat ks, r) := by
  cases n with
  | zero => rfl
  | succ n => rw [dRow, if_pos h]
structure NoRep (t : List UInt8) (a : Nat) : Prop where
  star : a < t.length → (t.getD a 0).toNat ≠ 42
  iv : see2 t a 92 123 = false
def repS (P : PS) (lo : Nat) (hi : Int) : PS :=
  { P with top := { P.top with kids := P.top.kids.dropLast ++ [.rep lo hi (P.top.kids.getLastD .bol)], sizes := P.top.sizes.dropLast ++ [P.top.sizes.getLastD 0 * timesM lo hi] }, size := P.size - P.top.sizes.getLastD 0 + P.top.sizes.getLastD 0 * timesM lo hi }
theorem rep_rel {ks : List RE} {p : RE} {r : DR} {P : PS} (h : DRel (ks ++ [p]) r P) (lo : Nat) (hi : Int) (a : Nat) :
    DRel (ks ++ [.rep lo hi p]) { r.to a with size := r.size + ((posR (.rep lo hi p) : Int) - posR p) } (repS P lo hi) ∧ ((repS P lo hi).size : Int) = r.size + ((posR (.rep lo hi p) : Int) - posR p) := by
  have hl : P.top.sizes.getLastD 0 = posR p := by rw [h.sizes, List.map_append]; simp
  have hk : P.top.kids.getLastD .bol = p := by rw [h.kids]; simp
  have ht := h.tot
  rw [h.sizes, List.map_append, List.sum_append] at ht
  simp only [List.map_cons, List.map_nil, List.sum_singleton] at ht
  have hs := h.size
  have hsz : ((repS P lo hi).size : Int) = r.size + ((posR (.rep lo hi p) : Int) - posR p) := by
    show ((P.size - P.top.sizes.getLastD 0 + P.top.sizes.getLastD 0 * timesM lo hi : Nat) : Int) = _
    rw [hl, posR]
    omega
  refine ⟨⟨?_, ?_, h.groups, h.shut, hsz, ?_, h.e⟩, hsz⟩
  · show P.top.kids.dropLast ++ [_] = _
    rw [hk, h.kids]
    simp
  · show P.top.sizes.dropLast ++ [_] = _
    rw [hl, h.sizes, List.map_append, List.map_append]
    simp [posR]
  · show (P.top.sizes.dropLast ++ [P.top.sizes.getLastD 0 * timesM lo hi]).sum + (P.rest.map Frame.tot).sum ≤ P.size - P.top.sizes.getLastD 0 + P.top.sizes.getLastD 0 * timesM lo hi
    rw [hl, List.sum_append, List.sum_singleton, h.sizes, List.map_append]
    simp only [List.map_cons, List.map_nil, List.dropLast_concat]
    omega
def Beh (t : List UInt8) (m a : Nat) (f b : Bool) (P : PS) (ks : List RE) (x : RE × DR) : Prop :=
  (x.2.e ≠ 0 ∧ pg t m a f b P = ⟨.cat [], x.2.e, x.2.place⟩) ∨
  (x.2.e = 0 ∧ ∃ m' P', DRel (ks ++ [x.1]) x.2 P' ∧ P'.rest = P.rest ∧ P'.top.group = P.top.group ∧ P'.top.at_ = P.top.at_ ∧ t.length ≤ m' + x.2.at_ ∧ a ≤ x.2.at_ ∧ x.2.at_ ≤ t.length ∧ NoRep t x.2.at_ ∧ pg t m a f b P = pg t m' x.2.at_ false false P')
theorem reps_one {t : List UInt8} {m a a' lo : Nat} {hi : Int} {ks : List RE} {p : RE} {r : DR} {P : PS} (n : Nat) (ih : ∀ (p : RE) (r : DR) (P : PS) (m : Nat), DRel (ks ++ [p]) r P → r.at_ ≤ t.length → t.length ≤ m + r.at_ → t.length ≤ n + r.at_ → Beh t m r.at_ false false P ks (dReps t n p r))
    (h : DRel (ks ++ [p]) r P) (ha : r.at_ = a) (hlt : a < t.length) (hm : t.length ≤ m + a) (hn : t.length ≤ n + 1 + a) (hk : readT t a false false = (⟨5, a, zeroS, (lo : Int), hi, 0⟩, a')) :
    Beh t m a false false P ks (dReps t n (.rep lo hi p) ((r.to a').grown ((posR (.rep lo hi p) : Int) - posR p) a)) := by
  obtain ⟨m, rfl⟩ : ∃ n, m = n + 1 := ⟨m - 1, by omega⟩
  have hat := readT_at t a false false hlt (by rw [hk]; show (5 : Nat) ≠ 7; decide)
  rw [hk] at hat
  obtain ⟨hr, hs⟩ := rep_rel h lo hi a'
  have ht : takeM P ⟨5, a, zeroS, (lo : Int), hi, 0⟩ = (repS P lo hi, growE (repS P lo hi).size) := by
    rw [takeM_5 rfl]
    rfl
  have hs' : (r.size + ((posR (.rep lo hi p) : Int) - posR p)).toNat = (repS P lo hi).size := by omega
  have he : (r.to a').e = 0 := h.e
  have hst := pg_tok (m := m) hlt hk (show (5 : Nat) ≠ 7 by decide) P
  rw [ht] at hst
  rcases grown_two he ((posR (.rep lo hi p) : Int) - posR p) a with ⟨g1, g2⟩ | ⟨g1, g2⟩
  · have g1' : growE (repS P lo hi).size = 0 := by rw [← hs']; exact g1
    rw [g1', if_neg (by simp)] at hst
    rw [g2]
    have := ih (.rep lo hi p) _ _ m hr hat.2 (by show t.length ≤ m + a'; have := hat.1; omega) (by show t.length ≤ n + a'; have := hat.1; omega)
    rcases this with ⟨e1, e2⟩ | ⟨e1, m', P', e2, e3, e4, e5, e6, e7, e8, e9, e10⟩
    · exact .inl ⟨e1, hst.trans e2⟩
    · exact .inr ⟨e1, m', P', e2, e3, e4, e5, e6, Nat.le_trans (Nat.le_of_lt hat.1) e7, e8, e9, hst.trans e10⟩
  · have g1' : growE (repS P lo hi).size = 13 := by rw [← hs']; exact g1
    rw [g1', if_pos (by simp)] at hst
    rw [g2, reps_bad _ _ _ (by simp)]
    exact .inl ⟨by simp, hst⟩
theorem reps_aft {t : List UInt8} {ks : List RE} : ∀ (n : Nat) (p : RE) (r : DR) (P : PS) (m : Nat), DRel (ks ++ [p]) r P → r.at_ ≤ t.length → t.length ≤ m + r.at_ → t.length ≤ n + r.at_ → Beh t m r.at_ false false P ks (dReps t n p r)
  | 0, p, r, P, m, h, hat, hm, hn => by
    refine .inr ⟨h.e, m, P, h, rfl, rfl, rfl, hm, Nat.le_refl _, hat, ⟨fun hl => ?_, ?_⟩, rfl⟩
    · show _
      have hl' : r.at_ < t.length := hl
      omega
    · cases hx : see2 t r.at_ 92 123 with
      | false => exact hx
      | true => have := ((see2_iff ..).1 hx).1; omega
  | n + 1, p, r, P, m, h, hat, hm, hn => by
    rw [dReps, if_neg (by rw [h.e]; simp)]
    by_cases c1 : (decide (r.at_ < t.length) && decide ((t.getD r.at_ 0).toNat = 42)) = true
    · rw [if_pos c1]
      rw [Bool.and_eq_true, decide_eq_true_eq, decide_eq_true_eq] at c1
      exact reps_one (lo := 0) n (fun p r P m => reps_aft n p r P m) h rfl c1.1 hm hn (by unfold readT; rw [if_neg (by omega), if_neg (by omega), if_neg (by omega), if_pos ⟨c1.2, rfl⟩]; rfl)
    · rw [if_neg c1]
      by_cases c2 : see2 t r.at_ 92 123 = true
      · rw [if_pos c2]
        obtain ⟨h1, h2, h3⟩ := (see2_iff ..).1 c2
        have h2' : (t.getD r.at_ 0).toNat = 92 := by rw [h2]; rfl
        have h3' : (t.getD (r.at_ + 1) 0).toNat = 123 := by rw [h3]; rfl
        have hrd : readT t r.at_ false false = escT t r.at_ false := by unfold readT; rw [if_pos h2']
        cases hv : ivM t (r.at_ + 2) with
        | none =>
          obtain ⟨m, rfl⟩ : ∃ n, m = n + 1 := ⟨m - 1, by omega⟩
          dsimp only
          rw [to_fail h.e]
          refine .inl ⟨by simp, ?_⟩
          exact pg_bad (by omega) (e := 9) (a' := r.at_) (by rw [hrd, escT, if_neg (by omega)]; dsimp only; rw [if_neg (by omega), if_neg (by omega), if_pos h3', hv]) (by decide) P
        | some x =>
          obtain ⟨lo, hi, a'⟩ := x
          exact reps_one n (fun p r P m => reps_aft n p r P m) h rfl (by omega) hm hn (by rw [hrd, escT, if_neg (by omega)]; dsimp only; rw [if_neg (by omega), if_neg (by omega), if_pos h3', hv]; rfl)
      · rw [if_neg c2]
        refine .inr ⟨h.e, m, P, h, rfl, rfl, rfl, hm, Nat.le_refl _, hat, ⟨fun hl e => c1 ?_, by simpa using c2⟩, rfl⟩
        rw [Bool.and_eq_true, decide_eq_true_eq, decide_eq_true_eq]
        exact ⟨hl, e⟩
def closeS (P : PS) (fr : Frame) (rest : List Frame) : PS := { P with top := fr.put (.group P.top.group (.cat P.top.kids)) P.top.sizes.sum, rest := rest, shut := P.shut.set P.top.group true }
def RowD (t : List UInt8) (m a : Nat) (f b : Bool) (in_ : Bool) (P : PS) (x : RE × DR) : Prop :=
  (x.2.e ≠ 0 ∧ pg t m a f b P = ⟨.cat [], x.2.e, x.2.place⟩) ∨
  (x.2.e = 0 ∧ in_ = false ∧ pg t m a f b P = ⟨x.1, 0, 0⟩) ∨
  (x.2.e = 0 ∧ in_ = true ∧ ∃ ks' m' P', x.1 = .cat ks' ∧ DRel ks' x.2 P' ∧ P'.rest = P.rest ∧ P'.top.group = P.top.group ∧ t.length ≤ m' + x.2.at_ ∧ a + 2 ≤ x.2.at_ ∧ x.2.at_ ≤ t.length ∧
    ∀ fr rest, P.rest = fr :: rest → pg t m a f b P = pg t m' x.2.at_ false false (closeS P' fr rest))
theorem RowD.trans {t : List UInt8} {m a m' a' : Nat} {f b f' b' in_ : Bool} {P P' : PS} {x : RE × DR} (h : RowD t m' a' f' b' in_ P' x) (hp : pg t m a f b P = pg t m' a' f' b' P') (ha : a ≤ a') (hr : P'.rest = P.rest) (hg : P'.top.group = P.top.group) : RowD t m a f b in_ P x := by
  rcases h with ⟨h1, h2⟩ | ⟨h1, h2, h3⟩ | ⟨h1, h2, ks', m2, P2, h3, h4, h5, h6, h7, h8, h9, h10⟩
  · exact .inl ⟨h1, hp.trans h2⟩
  · exact .inr (.inl ⟨h1, h2, hp.trans h3⟩)
  · exact .inr (.inr ⟨h1, h2, ks', m2, P2, h3, h4, h5.trans hr, h6.trans hg, h7, by omega, h9, fun fr rest hf => hp.trans (h10 fr rest (hr.trans hf))⟩)
theorem close_rel {ks ks' : List RE} {r r' : DR} {P P' : PS} {a : Nat} (h : DRel ks r P) (h' : DRel ks' r' P') (g : Nat) (hg : P'.top.group = g) (hr : P'.rest = P.top :: P.rest) : DRel (ks ++ [.group g (.cat ks')]) { r' with closed := r'.closed.set g true } (closeS P' P.top P.rest) := by
  have ht := h'.tot
  rw [hr, List.map_cons, List.sum_cons] at ht
  have hs : P'.top.sizes.sum = posR (.group g (.cat ks')) := by rw [posR, posR_cat, h'.sizes]
  refine ⟨?_, ?_, h'.groups, ?_, h'.size, ?_, h'.e⟩
  · show P.top.kids ++ [_] = _
    rw [h.kids, hg, h'.kids]
  · show P.top.sizes ++ [_] = _
    rw [h.sizes, hs, List.map_append]
    rfl
  · show P'.shut.set P'.top.group true = _
    rw [hg, h'.shut]
  · show (P.top.sizes ++ [P'.top.sizes.sum]).sum + (P.rest.map Frame.tot).sum ≤ P'.size
    rw [List.sum_append, List.sum_singleton]
    have : P.top.tot = P.top.sizes.sum := rfl
    omega
theorem esc_eol (t : List UInt8) (r : DR) : (dEsc t r).1 ≠ .eol := by
  unfold dEsc
  dsimp only
  repeat (first | (split) | (intro h; cases h))
theorem leaf_eol (t : List UInt8) (r : DR) (f : Bool) (h : (dLeaf t r f).1 = .eol) : (dLeaf t r f).2.at_ = t.length ∨ see2 t (dLeaf t r f).2.at_ 92 41 = true := by
  unfold dLeaf at h ⊢
  dsimp only at h ⊢
  split at h <;> rename_i c1
  · cases h
  rw [if_neg c1]
  split at h <;> rename_i c2
  · exact absurd h (esc_eol t r)
  rw [if_neg c2]
  split at h <;> rename_i c3
  · split at h <;> cases h
  rw [if_neg c3]
  split at h <;> rename_i c4
  · cases h
  rw [if_neg c4]
  split at h <;> rename_i c5
  · rw [if_pos c5]
    exact c5.2
  rw [if_neg c5]
  split at h <;> cases h
theorem anch_is {p : RE} (h : isAnch p = true) : p = .bol ∨ p = .eol := by cases p <;> simp [isAnch] at h ⊢
theorem bol_no {p : RE} (h : isAnch p = false) : isBol p = false := by cases p <;> simp [isAnch, isBol] at h ⊢
def dPart (t : List UInt8) (n : Nat) (r : DR) (first : Bool) : RE × DR :=
  if see2 t r.at_ 92 40 = true then
    (if r.groups = 9 then (.cat [], r.fail 4 r.at_)
    else (.group (r.groups + 1) (dRow t n true r.at_ [] { r with groups := r.groups + 1, at_ := r.at_ + 2 }).1, { (dRow t n true r.at_ [] { r with groups := r.groups + 1, at_ := r.at_ + 2 }).2 with closed := (dRow t n true r.at_ [] { r with groups := r.groups + 1, at_ := r.at_ + 2 }).2.closed.set (r.groups + 1) true }))
  else dLeaf t r first
def dFull (t : List UInt8) (x : RE × DR) : RE × DR := if isAnch x.1 = true then x else dReps t t.length x.1 x.2
theorem dRow_step (t : List UInt8) (n : Nat) (in_ : Bool) (op : Nat) (ks : List RE) (r : DR) : dRow t (n + 1) in_ op ks r =
    if r.e ≠ 0 then (.cat ks, r)
    else if r.at_ = t.length then (.cat ks, if in_ = true then r.fail 10 op else r)
    else if see2 t r.at_ 92 41 = true then (.cat ks, (if in_ = true then r else r.fail 10 r.at_).to (r.at_ + 2))
    else dRow t n in_ op (ks ++ [(dFull t (dPart t n r (decide (ks = [])))).1]) (dFull t (dPart t n r (decide (ks = [])))).2 := by
  rw [dRow]
  rfl
theorem full_bad {t : List UInt8} {x : RE × DR} (h : x.2.e ≠ 0) : (dFull t x).2 = x.2 := by
  unfold dFull
  split
  · rfl
  · rw [reps_bad _ _ _ h]
abbrev RowIH (t : List UInt8) (n : Nat) : Prop := ∀ (in_ : Bool) (op : Nat) (ks : List RE) (r : DR) (P : PS) (m : Nat) (b : Bool), DRel ks r P → r.at_ ≤ t.length → t.length ≤ m + r.at_ → t.length < n + r.at_ → (b = false → NoRep t r.at_) →
  (in_ = true → P.rest ≠ [] ∧ P.top.at_ = op) → (in_ = false → P.rest = []) → RowD t m r.at_ (decide (ks = [])) b in_ P (dRow t n in_ op ks r)
theorem group_aft {t : List UInt8} {n m : Nat} {b : Bool} {ks : List RE} {r : DR} {P : PS} (ih : RowIH t n) (h : DRel ks r P) (hlt : r.at_ < t.length) (hm : t.length ≤ m + r.at_) (hn : t.length < n + 1 + r.at_) (hop : see2 t r.at_ 92 40 = true) : Aft t m r.at_ (decide (ks = [])) b P ks (dPart t n r (decide (ks = []))) := by
  obtain ⟨h1, h2, h3⟩ := (see2_iff ..).1 hop
  have h2' : (t.getD r.at_ 0).toNat = 92 := by rw [h2]; rfl
  have h3' : (t.getD (r.at_ + 1) 0).toNat = 40 := by rw [h3]; rfl
  have hk : readT t r.at_ (decide (ks = [])) b = (⟨3, r.at_, zeroS, 0, 0, 0⟩, r.at_ + 2) := by unfold readT; rw [if_pos h2', escT, if_neg (by omega)]; dsimp only; rw [if_pos h3']
  obtain ⟨m, rfl⟩ : ∃ n, m = n + 1 := ⟨m - 1, by omega⟩
  have hst := pg_tok (m := m) hlt hk (show (3 : Nat) ≠ 7 by decide) P
  rw [takeM_3 rfl] at hst
  unfold dPart
  rw [if_pos hop]
  by_cases h9 : r.groups = 9
  · rw [if_pos h9, fail_ok h.e]
    rw [if_pos (h.groups.trans h9), if_pos (by simp)] at hst
    exact .inl ⟨by simp, hst⟩
  rw [if_neg h9]
  rw [if_neg (fun e => h9 (h.groups.symm.trans e)), if_neg (by simp)] at hst
  have hrel : DRel [] { r with groups := r.groups + 1, at_ := r.at_ + 2 } { P with top := ⟨[], [], P.groups + 1, r.at_⟩, rest := P.top :: P.rest, groups := P.groups + 1 } := by
    refine ⟨rfl, rfl, ?_, h.shut, h.size, ?_, h.e⟩
    · show P.groups + 1 = r.groups + 1
      rw [h.groups]
    · show ([] : List Nat).sum + ((P.top :: P.rest).map Frame.tot).sum ≤ P.size
      have := h.tot
      rw [List.map_cons, List.sum_cons, List.sum_nil, Nat.zero_add]
      exact this
  have hrow := ih true r.at_ [] { r with groups := r.groups + 1, at_ := r.at_ + 2 } _ m true hrel h1 (by show t.length ≤ m + (r.at_ + 2); omega) (by show t.length < n + (r.at_ + 2); omega) (fun e => by cases e) (fun _ => ⟨by simp, rfl⟩) (fun e => by cases e)
  generalize dRow t n true r.at_ [] { r with groups := r.groups + 1, at_ := r.at_ + 2 } = y at hrow ⊢
  have hst' : pg t (m + 1) r.at_ (decide (ks = [])) b P = pg t m (r.at_ + 2) true true { P with top := ⟨[], [], P.groups + 1, r.at_⟩, rest := P.top :: P.rest, groups := P.groups + 1 } := hst
  have hrow' : RowD t m (r.at_ + 2) true true true { P with top := ⟨[], [], P.groups + 1, r.at_⟩, rest := P.top :: P.rest, groups := P.groups + 1 } y := hrow
  rcases hrow' with ⟨e1, e2⟩ | ⟨_, e2, _⟩ | ⟨e1, _, ks', m', P', e3, e4, e5, e6, e7, e8, e9, e10⟩
  · exact .inl ⟨e1, hst'.trans e2⟩
  · cases e2
  · have hg : P'.top.group = r.groups + 1 := e6.trans (by show P.groups + 1 = _; rw [h.groups])
    have hc := close_rel (a := 0) h e4 (r.groups + 1) hg e5
    rw [← e3] at hc
    refine .inr ⟨e1, m', closeS P' P.top P.rest, hc, rfl, rfl, rfl, e7, by show r.at_ < y.2.at_; omega, e9, ?_⟩
    exact hst'.trans (e10 P.top P.rest rfl)
theorem part_aft {t : List UInt8} {n m : Nat} {b : Bool} {ks : List RE} {r : DR} {P : PS} (ih : RowIH t n) (h : DRel ks r P) (hlt : r.at_ < t.length) (hm : t.length ≤ m + r.at_) (hn : t.length < n + 1 + r.at_) (hsh : see2 t r.at_ 92 41 = false) (hnr : b = false → NoRep t r.at_) :
    Aft t m r.at_ (decide (ks = [])) b P ks (dPart t n r (decide (ks = []))) ∧ ((dPart t n r (decide (ks = []))).1 = .eol → (dPart t n r (decide (ks = []))).2.at_ = t.length ∨ see2 t (dPart t n r (decide (ks = []))).2.at_ 92 41 = true) := by
  by_cases hop : see2 t r.at_ 92 40 = true
  · refine ⟨group_aft ih h hlt hm hn hop, fun he => ?_⟩
    unfold dPart at he
    rw [if_pos hop] at he
    split at he <;> cases he
  · have hd : dPart t n r (decide (ks = [])) = dLeaf t r (decide (ks = [])) := by unfold dPart; rw [if_neg hop]
    rw [hd]
    exact ⟨leaf_aft h rfl hlt hm hsh (by simpa using hop) (fun e => ⟨(hnr e).star hlt, (hnr e).iv⟩), leaf_eol t r _⟩
theorem norep_eol {t : List UInt8} {a : Nat} (h : a = t.length ∨ see2 t a 92 41 = true) : NoRep t a := by
  rcases h with h | h
  · refine ⟨fun hl => by omega, ?_⟩
    cases hx : see2 t a 92 123 with
    | false => rfl
    | true => have := ((see2_iff ..).1 hx).1; omega
  · obtain ⟨h1, h2, h3⟩ := (see2_iff ..).1 h
    refine ⟨fun _ => by rw [h2]; decide, ?_⟩
    cases hx : see2 t a 92 123 with
    | false => rfl
    | true =>
      have := ((see2_iff ..).1 hx).2.2
      rw [h3] at this
      exact absurd this (by decide)
theorem row_aft {t : List UInt8} : ∀ n, RowIH t n
  | 0 => fun in_ op ks r P m b h hat hm hn => by omega
  | n + 1 => fun in_ op ks r P m b h hat hm hn hnr hin hout => by
    have ih := row_aft (t := t) n
    rw [dRow_step, if_neg (by rw [h.e]; simp)]
    by_cases hend : r.at_ = t.length
    · rw [if_pos hend]
      have hp := pg_end (show t.length ≤ r.at_ by omega) m (decide (ks = [])) b P
      cases in_ with
      | false =>
        refine .inr (.inl ⟨h.e, rfl, hp.trans ?_⟩)
        unfold endM
        rw [hout rfl, h.kids]
      | true =>
        obtain ⟨h1, h2⟩ := hin rfl
        rw [if_pos rfl, fail_ok h.e]
        refine .inl ⟨by simp, hp.trans ?_⟩
        unfold endM
        cases hr : P.rest with
        | nil => exact absurd hr h1
        | cons f fs => dsimp only; rw [h2]
    rw [if_neg hend]
    have hlt : r.at_ < t.length := by omega
    by_cases hsh : see2 t r.at_ 92 41 = true
    · rw [if_pos hsh]
      obtain ⟨h1, h2, h3⟩ := (see2_iff ..).1 hsh
      have h2' : (t.getD r.at_ 0).toNat = 92 := by rw [h2]; rfl
      have h3' : (t.getD (r.at_ + 1) 0).toNat = 41 := by rw [h3]; rfl
      have hk : readT t r.at_ (decide (ks = [])) b = (⟨4, r.at_, zeroS, 0, 0, 0⟩, r.at_ + 2) := by unfold readT; rw [if_pos h2', escT, if_neg (by omega)]; dsimp only; rw [if_neg (by omega), if_pos h3']
      obtain ⟨m, rfl⟩ : ∃ n, m = n + 1 := ⟨m - 1, by omega⟩
      have hst := pg_tok (m := m) hlt hk (show (4 : Nat) ≠ 7 by decide) P
      rw [takeM_4 rfl] at hst
      cases in_ with
      | false =>
        rw [hout rfl] at hst
        dsimp only at hst
        rw [if_pos (by simp)] at hst
        rw [if_neg (by simp), fail_ok h.e]
        exact .inl ⟨by show (10 : Int) ≠ 0; decide, hst⟩
      | true =>
        rw [if_pos rfl]
        refine .inr (.inr ⟨h.e, rfl, ks, m, P, rfl, ⟨h.kids, h.sizes, h.groups, h.shut, h.size, h.tot, h.e⟩, rfl, rfl, by show t.length ≤ m + (r.at_ + 2); omega, Nat.le_refl _, h1, fun fr rest hr => ?_⟩)
        rw [hr] at hst
        dsimp only at hst
        rw [if_neg (by simp)] at hst
        exact hst
    rw [if_neg hsh]
    have hsh' : see2 t r.at_ 92 41 = false := by simpa using hsh
    obtain ⟨hA, hE⟩ := part_aft (b := b) ih h hlt hm (by omega) hsh' hnr
    generalize dPart t n r (decide (ks = [])) = x at hA hE ⊢
    rcases hA with ⟨e1, e2⟩ | ⟨e1, m', P', e2, e3, e4, e5, e6, e7, e8, e9⟩
    · rw [full_bad e1, row_bad _ _ _ _ _ e1]
      exact .inl ⟨e1, e2⟩
    · have hd : decide (ks ++ [x.1] = []) = false := by simp
      have hinn : in_ = true → P'.rest ≠ [] ∧ P'.top.at_ = op := fun e => ⟨by rw [e3]; exact (hin e).1, e5.trans (hin e).2⟩
      have hon : in_ = false → P'.rest = [] := fun e => e3.trans (hout e)
      cases ha : isAnch x.1 with
      | true =>
        have hf : dFull t x = x := by unfold dFull; rw [if_pos ha]
        rw [hf]
        have := ih in_ op (ks ++ [x.1]) x.2 P' m' (isBol x.1) e2 e8 e6 (by omega) (fun hb => by
          rcases anch_is ha with e | e
          · rw [e] at hb; cases hb
          · exact norep_eol (hE e)) hinn hon
        rw [hd] at this
        exact this.trans e9 (by omega) e3 e4
      | false =>
        have hf : dFull t x = dReps t t.length x.1 x.2 := by unfold dFull; rw [if_neg (by rw [ha]; simp)]
        rw [hf]
        rw [bol_no ha] at e9
        rcases reps_aft t.length x.1 x.2 P' m' e2 e8 e6 (by omega) with ⟨f1, f2⟩ | ⟨f1, m2, P2, f2, f3, f4, f5, f6, f7, f8, f9, f10⟩
        · rw [row_bad _ _ _ _ _ f1]
          exact .inl ⟨f1, e9.trans f2⟩
        · have := ih in_ op _ _ P2 m2 false f2 f8 f6 (by omega) (fun _ => f9) (fun e => ⟨by rw [f3]; exact (hinn e).1, f5.trans (hinn e).2⟩) (fun e => f3.trans (hon e))
          have hd2 : decide (ks ++ [(dReps t t.length x.1 x.2).1] = []) = false := by simp
          rw [hd2] at this
          exact this.trans (e9.trans f10) (by omega) (f3.trans e3) (f4.trans e4)
theorem doc_is (t : List UInt8) : docM t = parseM t := by
  unfold docM parseM
  by_cases h : 512 < t.length
  · rw [if_pos h, if_pos h]
  rw [if_neg h, if_neg h]
  have h0 : DRel [] dr0 ps0 := ⟨rfl, rfl, rfl, rfl, rfl, by decide, rfl⟩
  have hr := row_aft (t := t) (t.length + 1) false 0 [] dr0 ps0 t.length true h0 (Nat.zero_le _) (by show t.length ≤ t.length + 0; omega) (by show t.length < t.length + 1 + 0; omega) (fun e => by cases e) (fun e => by cases e) (fun _ => rfl)
  have hpg : parseGo (toksM t) ps0 = pg t t.length 0 true true ps0 := rfl
  dsimp only
  rw [hpg]
  rcases hr with ⟨e1, e2⟩ | ⟨e1, _, e2⟩ | ⟨_, e2, _⟩
  · rw [if_pos e1]
    exact e2.symm
  · rw [if_neg (by rw [e1]; simp)]
    exact e2.symm
  · cases e2
abbrev rdC (t : List UInt8) (a : Nat) (e : Int) (pl gr : Nat) (tl : List Value) : List Value := Sv t :: Iv (a : Nat) :: Iv e :: Iv (pl : Nat) :: Iv (gr : Nat) :: tl
abbrev RB (g : Nat) (t : List UInt8) (a : Nat) (e : Int) (pl gr : Nat) (tl : List Value) : HA := HA.blk g (.cells (rdC t a e pl gr tl).toArray 127)
abbrev CT (sh : List Bool) (sz : Int) : List Value := sh.map Value.bool ++ [Iv sz]
abbrev DRB (g : Nat) (t : List UInt8) (r : DR) : HA := RB g t r.at_ r.e r.place r.groups (CT r.closed r.size)
theorem rd_set1 (t : List UInt8) (a : Nat) (e : Int) (pl gr : Nat) (tl : List Value) (u : Value) : (rdC t a e pl gr tl).toArray.setIfInBounds 1 u = (Sv t :: u :: Iv e :: Iv (pl : Nat) :: Iv (gr : Nat) :: tl).toArray := by rw [setIf_list]; rfl
theorem rd_set2 (t : List UInt8) (a : Nat) (e : Int) (pl gr : Nat) (tl : List Value) (u : Value) : (rdC t a e pl gr tl).toArray.setIfInBounds 2 u = (Sv t :: Iv (a : Nat) :: u :: Iv (pl : Nat) :: Iv (gr : Nat) :: tl).toArray := by rw [setIf_list]; rfl
theorem rd_set3 (t : List UInt8) (a : Nat) (e : Int) (pl gr : Nat) (tl : List Value) (u : Value) : (rdC t a e pl gr tl).toArray.setIfInBounds 3 u = (Sv t :: Iv (a : Nat) :: Iv e :: u :: Iv (gr : Nat) :: tl).toArray := by rw [setIf_list]; rfl
theorem rd_set4 (t : List UInt8) (a : Nat) (e : Int) (pl gr : Nat) (tl : List Value) (u : Value) : (rdC t a e pl gr tl).toArray.setIfInBounds 4 u = (Sv t :: Iv (a : Nat) :: Iv e :: Iv (pl : Nat) :: u :: tl).toArray := by rw [setIf_list]; rfl
theorem rd_size_get (t : List UInt8) (a : Nat) (e : Int) (pl gr : Nat) (sh : List Bool) (sz : Int) (h : sh.length = 10) : (rdC t a e pl gr (CT sh sz)).toArray[15]? = some (Iv sz) := by
  simp only [List.getElem?_toArray, rdC, CT, List.getElem?_cons_succ]
  rw [List.getElem?_append_right (by simp; omega)]
  simp [h]
theorem rd_size_set (t : List UInt8) (a : Nat) (e : Int) (pl gr : Nat) (sh : List Bool) (sz s2 : Int) (h : sh.length = 10) : (rdC t a e pl gr (CT sh sz)).toArray.setIfInBounds 15 (Iv s2) = (rdC t a e pl gr (CT sh s2)).toArray := by
  rw [setIf_list]
  simp only [rdC, CT, List.set_cons_succ]
  rw [List.set_append_right _ _ (by simp; omega)]
  simp [h]
theorem rd_len (t : List UInt8) (a : Nat) (e : Int) (pl gr : Nat) (sh : List Bool) (sz : Int) (h : sh.length = 10) : (rdC t a e pl gr (CT sh sz)).toArray.size = 16 := by simp [h]
theorem rd_shut_get (t : List UInt8) (a : Nat) (e : Int) (pl gr i n : Nat) (sh : List Bool) (sz : Int) (hi : i < sh.length) (hn : n = 5 + i) : (rdC t a e pl gr (CT sh sz)).toArray[n]? = some (.bool (sh.getD i false)) := by
  subst hn
  rw [List.getElem?_toArray, show 5 + i = i + 1 + 1 + 1 + 1 + 1 by omega]
  simp only [rdC, CT, List.getElem?_cons_succ]
  rw [List.getElem?_append_left (by simpa using hi), List.getElem?_map, List.getElem?_eq_getElem hi]
  simp [List.getD_eq_getElem?_getD, List.getElem?_eq_getElem hi]
theorem rd_shut_set (t : List UInt8) (a : Nat) (e : Int) (pl gr i n : Nat) (sh : List Bool) (sz : Int) (b : Bool) (hi : i < sh.length) (hn : n = 5 + i) : (rdC t a e pl gr (CT sh sz)).toArray.setIfInBounds n (.bool b) = (rdC t a e pl gr (CT (sh.set i b) sz)).toArray := by
  subst hn
  rw [setIf_list, show 5 + i = i + 1 + 1 + 1 + 1 + 1 by omega]
  simp only [rdC, CT, List.set_cons_succ]
  rw [List.set_append_left _ _ (by simpa using hi), List.map_set]
theorem dfail_c (g : Nat) (t : List UInt8) (at_ : Nat) (e0 : Int) (pl gr : Nat) (tl : List Value) (e : Int) (a : Nat) : Mut Tryz.prog 75 #[Pv g 0, Iv e, Iv (a : Nat)] [RB g t at_ e0 pl gr tl] (fun _ : Unit => .tuple #[]) (fun _ => [RB g t at_ (if e0 = 0 then e else e0) (if e0 = 0 then a else pl) gr tl]) := by
  intro w0 B R w h
  replace h : Sat w0 B (RB g t at_ e0 pl gr tl :: R) w := h
  refine calls_of_ES TB Tryz.func75 rfl _ Tryz.ntmps75 rfl h ?_; refine .go ?_; (repeat constructor); refine .mv ?_; refine .nc ?_; refine .fa ?_; refine .lb ?_; refine .ei ?_; refine .go ?_; repeat constructor
  refine ES.condD rfl (fun h0 => ?_) (fun h0 => ?_)
  · rw [if_pos h0, if_pos h0]
    refine .go ?_; (repeat constructor); refine .mv ?_; refine .mv ?_; refine .nc ?_; refine .fa ?_
    (refine EL.storeB rfl rfl rfl rfl rfl rfl (by repeat constructor) (by simp) ?_; refine EL.blkEq (g := g) (by repeat constructor) (congrArg (fun a => Obj.cells a 127 (0, 0)) (rd_set2 _ _ _ _ _ _ _)) ?_)
    refine .go ?_; (repeat constructor); refine .mv ?_; refine .mv ?_; refine .nc ?_; refine .fa ?_
    (refine EL.storeB rfl rfl rfl rfl rfl rfl (by repeat constructor) (by simp) ?_; refine EL.blkEq (g := g) (by repeat constructor) (congrArg (fun a => Obj.cells a 127 (0, 0)) (rd_set3 _ _ _ _ _ _ _)) ?_)
    refine .go ?_; repeat constructor
    exact PX.end rfl Tryz.results75 .nil (fun w hs => ⟨(), rfl, hs.ent (.i (by repeat constructor))⟩)
  · rw [if_neg h0, if_neg h0]
    refine .go ?_; repeat constructor
    exact PX.end rfl Tryz.results75 .nil (fun w hs => ⟨(), rfl, hs.ent (.i (by repeat constructor))⟩)
def seeM (t : List UInt8) (a : Nat) (l : List UInt8) : Bool := decide (a + l.length ≤ t.length) && decide ((t.drop a).take l.length = l)
theorem see2_is (t : List UInt8) (a : Nat) (x y : UInt8) : seeM t a [x, y] = see2 t a x y := rfl
theorem dsee_c (g : Nat) (t : List UInt8) (a : Nat) (e0 : Int) (pl gr : Nat) (tl : List Value) (l : List UInt8) (ht : t.length ≤ 1073741824) (ha : a ≤ 2147483648) (hl : l.length ≤ 4) : Mut Tryz.prog 76 #[Pv g 0, Sv l] [RB g t a e0 pl gr tl] (fun _ : Unit => .bool (seeM t a l)) (fun _ => [RB g t a e0 pl gr tl]) := by
  intro w0 B R w h
  replace h : Sat w0 B (RB g t a e0 pl gr tl :: R) w := h
  refine calls_of_ES TB Tryz.func76 rfl _ Tryz.ntmps76 rfl h ?_; refine .go ?_; (repeat constructor); refine .as_ ?_; refine .go ?_; repeat constructor
  refine ES.draw (X := Unit) (fun _ => [(4, .bool (seeM t a l))]) (fun _ => RB g t a e0 pl gr tl :: R) (RB g t a e0 pl gr tl :: R) mixed (.i (by repeat constructor)) ?_ (fun _ => ?_)
  · refine .tk 0 rfl (RV.move rfl) ?_; refine .tk 1 rfl (RV.nilCheck rfl) ?_; refine .tk 2 rfl (RV.fieldAddr rfl rfl rfl rfl rfl rfl) ?_; refine .tk 3 rfl (RV.loadB rfl rfl rfl (by repeat constructor) rfl) ?_; refine .tk 4 rfl (RV.move rfl) ?_; refine .tk 5 rfl (RV.lenS rfl rfl rfl) ?_; refine .tk 6 rfl (RV.addN rfl rfl rfl (by omega)) ?_; refine .tk 7 rfl (RV.move rfl) ?_; refine .tk 8 rfl (RV.nilCheck rfl) ?_; refine .tk 9 rfl (RV.fieldAddr rfl rfl rfl rfl rfl rfl) ?_; refine .tk 10 rfl (RV.loadB rfl rfl rfl (by repeat constructor) rfl) ?_; refine .tk 11 rfl (RV.lenS rfl rfl rfl) ?_; refine .tk 12 rfl (RV.leq rfl rfl) ?_; refine .tk 13 rfl (RV.move rfl) ?_
    first | refine ED.part (d := 18) rfl (fun hp18 => ?_) (fun hp18 => ?_) | refine ED.partN (d := 18) rfl (fun hp18 => ?_) (fun hp18 => ?_) | refine ED.partB (d := 18) rfl (fun hp18 => ?_) (fun hp18 => ?_)
    · refine .tk 14 rfl (RV.move rfl) ?_; refine .tk 15 rfl (RV.nilCheck rfl) ?_; refine .tk 16 rfl (RV.fieldAddr rfl rfl rfl rfl rfl rfl) ?_; refine .tk 17 rfl (RV.loadB rfl rfl rfl (by repeat constructor) rfl) ?_; refine .tk 18 rfl (RV.move rfl) ?_; refine .tk 19 rfl (RV.nilCheck rfl) ?_; refine .tk 20 rfl (RV.fieldAddr rfl rfl rfl rfl rfl rfl) ?_; refine .tk 21 rfl (RV.loadB rfl rfl rfl (by repeat constructor) rfl) ?_; refine .tk 22 rfl (RV.move rfl) ?_; refine .tk 23 rfl (RV.nilCheck rfl) ?_; refine .tk 24 rfl (RV.fieldAddr rfl rfl rfl rfl rfl rfl) ?_; refine .tk 25 rfl (RV.loadB rfl rfl rfl (by repeat constructor) rfl) ?_; refine .tk 26 rfl (RV.move rfl) ?_; refine .tk 27 rfl (RV.lenS rfl rfl rfl) ?_; refine .tk 28 rfl (RV.addN rfl rfl rfl (by omega)) ?_; refine .tk 29 rfl (RV.sliceS (m := a) (n := a + l.length) rfl rfl rfl ⟨_, rfl⟩ ⟨_, rfl⟩ (by omega) (by omega)) ?_; refine .tk 30 rfl (RV.move rfl) ?_; refine .tk 31 rfl (RV.eqlS rfl rfl) ?_; refine .tk 32 rfl (RV.pickT rfl rfl) ?_; refine .tk 33 rfl (RV.assign rfl) ?_; refine .dn ?_
      exact .cx () ⟨getA rfl (congrArg Value.bool (by unfold seeM; (try simp only [Nat.add_sub_cancel_left]); rw [Bool.eq_iff_iff]; simp_all <;> omega)), trivial⟩
    · refine .pa 14 rfl ?_; refine .pa 15 rfl ?_; refine .pa 16 rfl ?_; refine .pa 17 rfl ?_; refine .pa 18 rfl ?_; refine .pa 19 rfl ?_; refine .pa 20 rfl ?_; refine .pa 21 rfl ?_; refine .pa 22 rfl ?_; refine .pa 23 rfl ?_; refine .pa 24 rfl ?_; refine .pa 25 rfl ?_; refine .pa 26 rfl ?_; refine .pa 27 rfl ?_; refine .pa 28 rfl ?_; refine .pa 29 rfl ?_; refine .pa 30 rfl ?_; refine .pa 31 rfl ?_; refine .tk 32 rfl (RV.pickF rfl rfl) ?_; refine .tk 33 rfl (RV.assign rfl) ?_; refine .dn ?_
      exact .cx () ⟨getA rfl (congrArg Value.bool (by unfold seeM; (try simp only [Nat.add_sub_cancel_left]); rw [Bool.eq_iff_iff]; simp_all <;> omega)), trivial⟩
  refine .go ?_; repeat constructor
  exact PX.ret rfl Tryz.results76 (.cons (.tmp rfl) .nil) (fun w hs => ⟨(), rfl, hs.ent (.i (by repeat constructor))⟩)
theorem ddig_c (g : Nat) (t : List UInt8) (a : Nat) (e0 : Int) (pl gr : Nat) (tl : List Value) (ht : t.length ≤ 1073741824) (ha : a ≤ t.length) : Mut Tryz.prog 113 #[Pv g 0] [RB g t a e0 pl gr tl] (fun _ : Unit => Iv (numM t a).1) (fun _ => [RB g t (numM t a).2 e0 pl gr tl]) := by
  intro w0 B R w h
  replace h : Sat w0 B (RB g t a e0 pl gr tl :: R) w := h
  obtain ⟨res, hres⟩ : ∃ res, res = numGo t (t.length - a) 0 a := ⟨_, rfl⟩
  have hm : numM t a = (if res.2 = a then -1 else (res.1 : Int), res.2) := by rw [hres]; rfl
  rw [hm]
  refine calls_of_ES TB Tryz.func113 rfl _ Tryz.ntmps113 rfl h ?_; refine .go ?_; (repeat constructor); refine .as_ ?_; refine .go ?_; (repeat constructor); refine .as_ ?_; refine .go ?_; (repeat constructor); refine ES.loop (σ := Nat × Nat) (fun (n, c) => n ≤ 256 ∧ a ≤ c ∧ c ≤ t.length ∧ (c = a → n = 0) ∧ numGo t (t.length - c) n c = res) (fun (n, c) => [(0, Pv g 0), (3, Iv (if c = a then -1 else (n : Int)))]) (fun (n, c) => RB g t c e0 pl gr tl :: R) (fun (n, c) => t.length - c) (0, a) ⟨by omega, Nat.le_refl _, ha, fun _ => rfl, hres.symm⟩ ⟨rfl, getA rfl (congrArg Iv (by rw [if_pos rfl])), trivial⟩ (.i (by repeat constructor)) ?_
  rintro ⟨n, c⟩ ⟨hn, hac, hc, hca, hgo⟩
  dsimp only at hn hac hc hca hgo ⊢
  refine .g0 ?_; repeat constructor
  refine ES.draw (X := Unit) (fun _ => [(0, Pv g 0), (3, Iv (if c = a then -1 else (n : Int))), (37, .bool (decide ((c : Int) < (t.length : Int)) && isDig (t.getD c 0)))]) (fun _ => RB g t c e0 pl gr tl :: R) (RB g t c e0 pl gr tl :: R) mixed (.i (by repeat constructor)) ?_ (fun _ => ?_)
  · refine .tk 0 rfl (RV.move rfl) ?_; refine .tk 1 rfl (RV.nilCheck rfl) ?_; refine .tk 2 rfl (RV.fieldAddr rfl rfl rfl rfl rfl rfl) ?_; refine .tk 3 rfl (RV.loadB rfl rfl rfl (by repeat constructor) rfl) ?_; refine .tk 4 rfl (RV.move rfl) ?_; refine .tk 5 rfl (RV.nilCheck rfl) ?_; refine .tk 6 rfl (RV.fieldAddr rfl rfl rfl rfl rfl rfl) ?_; refine .tk 7 rfl (RV.loadB rfl rfl rfl (by repeat constructor) rfl) ?_; refine .tk 8 rfl (RV.lenS rfl rfl rfl) ?_; refine .tk 9 rfl (RV.lss rfl rfl) ?_; refine .tk 10 rfl (RV.move rfl) ?_
    first | refine ED.part (d := 14) rfl (fun hp14 => ?_) (fun hp14 => ?_) | refine ED.partN (d := 14) rfl (fun hp14 => ?_) (fun hp14 => ?_) | refine ED.partB (d := 14) rfl (fun hp14 => ?_) (fun hp14 => ?_)
    · refine .tk 11 rfl (RV.move rfl) ?_; refine .tk 12 rfl (RV.nilCheck rfl) ?_; refine .tk 13 rfl (RV.fieldAddr rfl rfl rfl rfl rfl rfl) ?_; refine .tk 14 rfl (RV.loadB rfl rfl rfl (by repeat constructor) rfl) ?_; refine .tk 15 rfl (RV.move rfl) ?_; refine .tk 16 rfl (RV.nilCheck rfl) ?_; refine .tk 17 rfl (RV.fieldAddr rfl rfl rfl rfl rfl rfl) ?_; refine .tk 18 rfl (RV.loadB rfl rfl rfl (by repeat constructor) rfl) ?_; refine .tk 19 rfl (RV.indexSN rfl rfl rfl rfl (by omega)) ?_; refine .tk 20 rfl (RV.geq rfl rfl) ?_; refine .tk 21 rfl (RV.pickT rfl rfl) ?_; refine .tk 22 rfl (RV.move rfl) ?_
      first | refine ED.part (d := 26) rfl (fun hp26 => ?_) (fun hp26 => ?_) | refine ED.partN (d := 26) rfl (fun hp26 => ?_) (fun hp26 => ?_) | refine ED.partB (d := 26) rfl (fun hp26 => ?_) (fun hp26 => ?_)
      · refine .tk 23 rfl (RV.move rfl) ?_; refine .tk 24 rfl (RV.nilCheck rfl) ?_; refine .tk 25 rfl (RV.fieldAddr rfl rfl rfl rfl rfl rfl) ?_; refine .tk 26 rfl (RV.loadB rfl rfl rfl (by repeat constructor) rfl) ?_; refine .tk 27 rfl (RV.move rfl) ?_; refine .tk 28 rfl (RV.nilCheck rfl) ?_; refine .tk 29 rfl (RV.fieldAddr rfl rfl rfl rfl rfl rfl) ?_; refine .tk 30 rfl (RV.loadB rfl rfl rfl (by repeat constructor) rfl) ?_; refine .tk 31 rfl (RV.indexSN rfl rfl rfl rfl (by omega)) ?_; refine .tk 32 rfl (RV.leq rfl rfl) ?_; refine .tk 33 rfl (RV.pickT rfl rfl) ?_; refine .dn ?_
        exact .cx () ⟨rfl, rfl, getA rfl (congrArg Value.bool (by rw [isDig_int]; simp_all <;> omega)), trivial⟩
      · refine .pa 23 rfl ?_; refine .pa 24 rfl ?_; refine .pa 25 rfl ?_; refine .pa 26 rfl ?_; refine .pa 27 rfl ?_; refine .pa 28 rfl ?_; refine .pa 29 rfl ?_; refine .pa 30 rfl ?_; refine .pa 31 rfl ?_; refine .pa 32 rfl ?_; refine .tk 33 rfl (RV.pickF rfl rfl) ?_; refine .dn ?_
        exact .cx () ⟨rfl, rfl, getA rfl (congrArg Value.bool (by rw [isDig_int]; simp_all <;> omega)), trivial⟩
    · refine .pa 11 rfl ?_; refine .pa 12 rfl ?_; refine .pa 13 rfl ?_; refine .pa 14 rfl ?_; refine .pa 15 rfl ?_; refine .pa 16 rfl ?_; refine .pa 17 rfl ?_; refine .pa 18 rfl ?_; refine .pa 19 rfl ?_; refine .pa 20 rfl ?_; refine .tk 21 rfl (RV.pickF rfl rfl) ?_; refine .tk 22 rfl (RV.move rfl) ?_; refine .pa 23 rfl ?_; refine .pa 24 rfl ?_; refine .pa 25 rfl ?_; refine .pa 26 rfl ?_; refine .pa 27 rfl ?_; refine .pa 28 rfl ?_; refine .pa 29 rfl ?_; refine .pa 30 rfl ?_; refine .pa 31 rfl ?_; refine .pa 32 rfl ?_; refine .tk 33 rfl (RV.pickF rfl rfl) ?_; refine .dn ?_
      exact .cx () ⟨rfl, rfl, getA rfl (congrArg Value.bool (by rw [isDig_int]; simp_all <;> omega)), trivial⟩
  refine .go ?_; repeat constructor
  refine ES.cond rfl (fun hd => ?_) (fun hd => ?_)
  · rw [Bool.and_eq_true, decide_eq_true_eq] at hd
    have hlt : c < t.length := by omega
    have hdig := hd.2
    have hb : 48 ≤ (t.getD c 0).toNat ∧ (t.getD c 0).toNat ≤ 57 := by unfold isDig at hdig; exact of_decide_eq_true hdig
    obtain ⟨k, hk⟩ : ∃ k, t.length - c = k + 1 := ⟨t.length - c - 1, by omega⟩
    rw [hk, numGo, if_pos ⟨hlt, hd.2⟩] at hgo
    refine .go ?_; (repeat constructor); refine .mv ?_; refine .ls ?_; refine .go ?_; repeat constructor
    refine ES.cutC (X := Unit) (fun _ => [(0, Pv g 0), (3, Iv (n : Nat))]) (fun _ => RB g t c e0 pl gr tl :: R) ?_ (fun _ => ?_)
    · refine ES.condD rfl (fun hneg => ?_) (fun hpos => ?_)
      · have : n = 0 := hca (Decidable.byContradiction fun h => by rw [if_neg h] at hneg; omega)
        subst this
        refine .go ?_; (repeat constructor); refine .as_ ?_; refine .go ?_; repeat constructor
        exact .cy ()
      · refine .go ?_; repeat constructor
        exact .cx () ⟨rfl, getA rfl (congrArg Iv (if_neg fun h => by rw [if_pos h] at hpos; omega)), trivial⟩
    refine .g0 ?_; repeat constructor
    refine ES.draw (X := Unit) (fun _ => [(0, Pv g 0), (3, Iv ((10 * n + ((t.getD c 0).toNat - 48) : Nat) : Int))]) (fun _ => RB g t c e0 pl gr tl :: R) (RB g t c e0 pl gr tl :: R) mixed (.i (by repeat constructor)) ?_ (fun _ => ?_)
    · refine .tk 0 rfl (RV.move rfl) ?_
      refine .tk 1 rfl (RV.mul ((10 * n : Nat) : Int) rfl rfl (by rw [wrap_i64 _ (by omega) (by omega)]; omega)) ?_
      refine .tk 2 rfl (RV.move rfl) ?_; refine .tk 3 rfl (RV.nilCheck rfl) ?_; refine .tk 4 rfl (RV.fieldAddr rfl rfl rfl rfl rfl rfl) ?_; refine .tk 5 rfl (RV.loadB rfl rfl rfl (by repeat constructor) rfl) ?_; refine .tk 6 rfl (RV.move rfl) ?_; refine .tk 7 rfl (RV.nilCheck rfl) ?_; refine .tk 8 rfl (RV.fieldAddr rfl rfl rfl rfl rfl rfl) ?_; refine .tk 9 rfl (RV.loadB rfl rfl rfl (by repeat constructor) rfl) ?_; refine .tk 10 rfl (RV.indexSN rfl rfl rfl rfl (by omega)) ?_
      refine .tk 11 rfl (RV.subK (n := 48) rfl rfl (by omega) (by simp only [kmax]; omega)) ?_
      refine .tk 12 rfl (RV.convN rfl rfl rfl rfl (by simp only [kmax]; omega)) ?_
      refine .tk 13 rfl (RV.addN rfl rfl rfl (by omega)) ?_; refine .tk 14 rfl (RV.assign rfl) ?_; refine .dn ?_
      exact .cy ()
    refine .go ?_; (repeat constructor); refine .mv ?_; refine .gt_ ?_; refine .go ?_; repeat constructor
    refine ES.cutC (X := Unit) (fun _ => [(0, Pv g 0), (3, Iv ((min (10 * n + ((t.getD c 0).toNat - 48)) 256 : Nat) : Int))]) (fun _ => RB g t c e0 pl gr tl :: R) ?_ (fun _ => ?_)
    · refine ES.condD rfl (fun hbig => ?_) (fun hsm => ?_)
      · refine .go ?_; (repeat constructor); refine .as_ ?_; refine .go ?_; repeat constructor
        exact .cx () ⟨rfl, getA rfl (congrArg Iv (by omega)), trivial⟩
      · refine .go ?_; repeat constructor
        exact .cx () ⟨rfl, getA rfl (congrArg Iv (by omega)), trivial⟩
    refine .go ?_; (repeat constructor); refine .mv ?_; refine .nc ?_; refine .fa ?_; refine .lb ?_; refine .a1 ?_; refine .nc ?_; refine .fa ?_
    (refine EL.storeB rfl rfl rfl rfl rfl rfl (by repeat constructor) (by simp) ?_; refine EL.blkEq (g := g) (by repeat constructor) (congrArg (fun a => Obj.cells a 127 (0, 0)) (rd_set1 _ _ _ _ _ _ _)) ?_)
    refine .go ?_; repeat constructor
    refine .lx (min (10 * n + ((t.getD c 0).toNat - 48)) 256, c + 1) ⟨by simp only; omega, by simp only; omega, by simp only; omega, by simp only; omega, by simp only; rw [show t.length - (c + 1) = k by omega]; exact hgo⟩ (by simp only; omega) ⟨rfl, getA rfl (congrArg Iv (by rw [if_neg (by omega)])), trivial⟩
  · have hr : res = (n, c) := by
      rw [← hgo]
      cases hk : t.length - c with
      | zero => rfl
      | succ k =>
        rw [numGo, if_neg]
        rintro ⟨h1, h2⟩
        rw [h2, decide_eq_true (by omega)] at hd
        cases hd
    rw [hr]
    refine .go ?_; (repeat constructor); refine .mv ?_; refine .as_ ?_; refine .go ?_; repeat constructor
    exact PX.ret rfl Tryz.results113 (.cons (.tmp rfl) .nil) (fun w hs => ⟨(), rfl, hs.ent (.i (by repeat constructor))⟩)
def ivV3 (o : Option (Nat × Int × Nat)) : Value := match o with
  | none => .tuple #[Iv 0, Iv 0, .bool false]
  | some (lo, hi, _) => .tuple #[Iv (lo : Nat), Iv hi, .bool true]
def ivE (t : List UInt8) (a : Nat) : Nat := match ivM t a with
  | none => ivA t a
  | some (_, _, n) => n
theorem see_one (t : List UInt8) (a : Nat) (x : UInt8) : seeM t a [x] = decide (a < t.length ∧ t.getD a 0 = x) := by
  unfold seeM
  by_cases h : a < t.length
  · rw [List.drop_eq_getElem_cons h, List.getD_eq_getElem?_getD, List.getElem?_eq_getElem h, Bool.eq_iff_iff]
    simp only [Bool.and_eq_true, decide_eq_true_eq, List.length_cons, List.length_nil, List.take_succ_cons, List.take_zero, List.cons.injEq, and_true, Option.getD_some]
    constructor
    · rintro ⟨_, e⟩; exact ⟨h, e⟩
    · rintro ⟨_, e⟩; exact ⟨by omega, e⟩
  · rw [decide_eq_false (show ¬ a + [x].length ≤ t.length by simp; omega), decide_eq_false (p := a < t.length ∧ t.getD a 0 = x) (fun e => h e.1)]
    rfl
theorem diva_c (g : Nat) (t : List UInt8) (a : Nat) (e0 : Int) (pl gr : Nat) (tl : List Value) (ht : t.length ≤ 1073741824) (ha : a ≤ t.length) : Mut Tryz.prog 97 #[Pv g 0] [RB g t a e0 pl gr tl] (fun _ : Unit => ivV3 (ivM t a)) (fun _ => [RB g t (ivE t a) e0 pl gr tl]) := by
  intro w0 B R w h
  replace h : Sat w0 B (RB g t a e0 pl gr tl :: R) w := h
  have hl := numM_le t a ha
  have hnc := ddig_c g t a e0 pl gr tl ht ha
  have hiv : ivM t a = (let l := numM t a
    let h := if l.2 < t.length ∧ t.getD l.2 0 = 44 then numM t (l.2 + 1) else l
    if l.1 < 0 ∨ 255 < l.1 ∨ 255 < h.1 ∨ (0 ≤ h.1 ∧ h.1 < l.1) then none
    else if t.length < h.2 + 2 ∨ (t.drop h.2).take 2 ≠ [92, 125] then none
    else some (l.1.toNat, h.1, h.2 + 2)) := rfl
  have hia : ivA t a = (if (numM t a).2 < t.length ∧ t.getD (numM t a).2 0 = 44 then numM t ((numM t a).2 + 1) else numM t a).2 := rfl
  have hie : ivE t a = match ivM t a with
    | none => ivA t a
    | some (_, _, n) => n := rfl
  rw [hie]
  dsimp only at hiv
  generalize numM t a = l at hl hnc hiv hia
  obtain ⟨l1, l2⟩ := l
  dsimp only at hl hnc hiv hia
  have hsc := dsee_c g t l2 e0 pl gr tl [44] ht (by omega) (by simp)
  rw [see_one] at hsc
  have hd2 := fun (hx : l2 + 1 ≤ t.length) => ddig_c g t (l2 + 1) e0 pl gr tl ht hx
  have hl2 := fun (hx : l2 + 1 ≤ t.length) => numM_le t (l2 + 1) hx
  refine calls_of_ES TB Tryz.func97 rfl _ Tryz.ntmps97 rfl h ?_; refine .go ?_; (repeat constructor); refine .as_ ?_; refine .as_ ?_; refine .as_ ?_; refine .go ?_; (repeat constructor); refine .mv ?_; refine EL.callM1 rfl rfl rfl ent113 rfl hnc (by repeat constructor) ?_; refine .as_ ?_; refine .go ?_; (repeat constructor); refine .mv ?_; refine .as_ ?_; refine .go ?_; (repeat constructor); refine .mv ?_; refine EL.callM1 rfl rfl rfl ent76 rfl hsc (by repeat constructor) ?_; refine .go ?_; repeat constructor
  obtain ⟨hh, hhe⟩ : ∃ hh, hh = (if l2 < t.length ∧ t.getD l2 0 = 44 then numM t (l2 + 1) else (l1, l2)) := ⟨_, rfl⟩
  rw [← hhe] at hiv hia
  have hhl : -1 ≤ hh.1 ∧ hh.1 ≤ 256 ∧ hh.2 ≤ t.length := by
    rw [hhe]
    split
    · rename_i hx; have := hl2 (by omega); omega
    · omega
  refine ES.cutC (X := Unit) (fun _ => [(0, Pv g 0), (2, Iv 0), (3, Iv 0), (4, .bool false), (5, Iv l1), (6, Iv hh.1)]) (fun _ => RB g t hh.2 e0 pl gr tl :: R) ?_ (fun _ => ?_)
  · refine ES.condD rfl (fun hc => ?_) (fun hc => ?_)
    · rw [if_pos hc] at hhe
      rw [hhe]
      refine .go ?_; (repeat constructor); refine .mv ?_; refine .nc ?_; refine .fa ?_; refine .lb ?_; refine .a1 ?_; refine .nc ?_; refine .fa ?_
      (refine EL.storeB rfl rfl rfl rfl rfl rfl (by repeat constructor) (by simp) ?_; refine EL.blkEq (g := g) (by repeat constructor) (congrArg (fun a => Obj.cells a 127 (0, 0)) (rd_set1 _ _ _ _ _ _ _)) ?_)
      refine .go ?_; (repeat constructor); refine .mv ?_; refine EL.callM1 rfl rfl rfl ent113 rfl (hd2 (by omega)) (by repeat constructor) ?_; refine .as_ ?_; refine .go ?_; repeat constructor
      exact .cy ()
    · rw [if_neg hc] at hhe
      rw [hhe]
      refine .go ?_; repeat constructor
      exact .cy ()
  obtain ⟨h1, h2⟩ := hh
  dsimp only at hiv hia hhl ⊢
  rw [hia]
  have hs2 := dsee_c g t h2 e0 pl gr tl [92, 125] ht (by omega) (by simp)
  refine .go ?_; repeat constructor
  refine EL.cutX (X := Unit) (fun _ => [(0, Pv g 0), (5, Iv l1), (6, Iv h1), (44, .bool (decide (l1 < 0 ∨ 255 < l1 ∨ 255 < h1 ∨ (0 ≤ h1 ∧ h1 < l1)) || !seeM t h2 [92, 125]))]) (fun _ => RB g t h2 e0 pl gr tl :: R) ?_ (fun _ => ?_)
  · refine .go ?_; (repeat constructor); refine .mv ?_; refine .ls ?_; refine .mv ?_
    first | refine EL.splitD (d := 23) rfl (fun hp23 => ?_) (fun hp23 => ?_) | refine EL.splitN (d := 23) rfl (fun hp23 => ?_) (fun hp23 => ?_) | refine EL.splitB (d := 23) rfl (fun hp23 => ?_) (fun hp23 => ?_)
    · refine .ps ?_; refine .ps ?_; refine .pt ?_; refine .mv ?_; refine .ps ?_; refine .ps ?_; refine .pt ?_; refine .mv ?_; refine .ps ?_; refine .ps ?_; refine .ps ?_; refine .ps ?_; refine .ps ?_; refine .ps ?_; refine .ps ?_; refine .pt ?_; refine .mv ?_; refine .ps ?_; refine .ps ?_; refine .ps ?_; refine .pt ?_
      exact .dx () ⟨rfl, rfl, rfl, getA rfl (congrArg Value.bool (by first | (rw [decide_eq_true (by omega)]; rfl) | (rw [decide_eq_false (by omega)]; rfl))), trivial⟩
    · refine .mv ?_; refine .gt_ ?_; refine .pf ?_; refine .mv ?_
      first | refine EL.splitD (d := 27) rfl (fun hp27 => ?_) (fun hp27 => ?_) | refine EL.splitN (d := 27) rfl (fun hp27 => ?_) (fun hp27 => ?_) | refine EL.splitB (d := 27) rfl (fun hp27 => ?_) (fun hp27 => ?_)
      · refine .ps ?_; refine .ps ?_; refine .pt ?_; refine .mv ?_; refine .ps ?_; refine .ps ?_; refine .ps ?_; refine .ps ?_; refine .ps ?_; refine .ps ?_; refine .ps ?_; refine .pt ?_; refine .mv ?_; refine .ps ?_; refine .ps ?_; refine .ps ?_; refine .pt ?_
        exact .dx () ⟨rfl, rfl, rfl, getA rfl (congrArg Value.bool (by first | (rw [decide_eq_true (by omega)]; rfl) | (rw [decide_eq_false (by omega)]; rfl))), trivial⟩
      · refine .mv ?_; refine .gt_ ?_; refine .pf ?_; refine .mv ?_
        first | refine EL.splitD (d := 31) rfl (fun hp31 => ?_) (fun hp31 => ?_) | refine EL.splitN (d := 31) rfl (fun hp31 => ?_) (fun hp31 => ?_) | refine EL.splitB (d := 31) rfl (fun hp31 => ?_) (fun hp31 => ?_)
        · refine .ps ?_; refine .ps ?_; refine .ps ?_; refine .ps ?_; refine .ps ?_; refine .ps ?_; refine .ps ?_; refine .pt ?_; refine .mv ?_; refine .ps ?_; refine .ps ?_; refine .ps ?_; refine .pt ?_
          exact .dx () ⟨rfl, rfl, rfl, getA rfl (congrArg Value.bool (by first | (rw [decide_eq_true (by omega)]; rfl) | (rw [decide_eq_false (by omega)]; rfl))), trivial⟩
        · refine .mv ?_; refine .ni ?_; refine .mv ?_
          first | refine EL.splitD (d := 34) rfl (fun hp34 => ?_) (fun hp34 => ?_) | refine EL.splitN (d := 34) rfl (fun hp34 => ?_) (fun hp34 => ?_) | refine EL.splitB (d := 34) rfl (fun hp34 => ?_) (fun hp34 => ?_)
          · refine .mv ?_; refine .mv ?_; refine .ls ?_; refine .pt ?_; refine .pf ?_; refine .mv ?_
            first | refine EL.splitD (d := 40) rfl (fun hp40 => ?_) (fun hp40 => ?_) | refine EL.splitN (d := 40) rfl (fun hp40 => ?_) (fun hp40 => ?_) | refine EL.splitB (d := 40) rfl (fun hp40 => ?_) (fun hp40 => ?_)
            · refine .ps ?_; refine .ps ?_; refine .ps ?_; refine .pt ?_
              exact .dx () ⟨rfl, rfl, rfl, getA rfl (congrArg Value.bool (by first | (rw [decide_eq_true (by omega)]; rfl) | (rw [decide_eq_false (by omega)]; rfl))), trivial⟩
            · refine .mv ?_; refine EL.callM1 rfl rfl rfl ent76 rfl hs2 (by repeat constructor) ?_; refine .nt ?_; refine .pf ?_
              exact .dx () ⟨rfl, rfl, rfl, getA rfl (congrArg Value.bool (by first | (rw [decide_eq_true (by omega)]; rfl) | (rw [decide_eq_false (by omega)]; rfl))), trivial⟩
          · refine .ps ?_; refine .ps ?_; refine .ps ?_; refine .pf ?_; refine .pf ?_; refine .mv ?_; refine .mv ?_; refine EL.callM1 rfl rfl rfl ent76 rfl hs2 (by repeat constructor) ?_; refine .nt ?_; refine .pf ?_
            exact .dx () ⟨rfl, rfl, rfl, getA rfl (congrArg Value.bool (by first | (rw [decide_eq_true (by omega)]; rfl) | (rw [decide_eq_false (by omega)]; rfl))), trivial⟩
  refine ES.cond rfl (fun hb => ?_) (fun hb => ?_)
  · have hno : ivM t a = none := by
      rw [hiv]
      rcases Bool.or_eq_true_iff.1 hb with hx | hx
      · rw [if_pos (of_decide_eq_true hx)]
      · split
        · rfl
        · rw [Bool.not_eq_true'] at hx
          unfold seeM at hx
          rw [if_pos]
          by_cases hq : t.length < h2 + 2
          · exact .inl hq
          · right
            intro e
            rw [decide_eq_true (show h2 + ([92, 125] : List UInt8).length ≤ t.length by simp; omega), decide_eq_true (show List.take ([92, 125] : List UInt8).length (List.drop h2 t) = [92, 125] from e)] at hx
            cases hx
    rw [hno]
    refine .go ?_; (repeat constructor); refine .as_ ?_; refine .as_ ?_; refine .as_ ?_; refine .go ?_; repeat constructor
    exact PX.ret rfl Tryz.results97 (.cons (.tmp rfl) (.cons (.tmp rfl) (.cons (.tmp rfl) .nil))) (fun w hs => ⟨(), rfl, hs.ent (.i (by repeat constructor))⟩)
  · rw [Bool.or_eq_false_iff, decide_eq_false_iff_not, Bool.not_eq_false'] at hb
    have hs := hb.2
    unfold seeM at hs
    rw [Bool.and_eq_true, decide_eq_true_eq, decide_eq_true_eq] at hs
    have hle : h2 + 2 ≤ t.length := hs.1
    have hyes : ivM t a = some (l1.toNat, h1, h2 + 2) := by
      rw [hiv, if_neg hb.1, if_neg]
      rintro (hx | hx)
      · omega
      · exact hx hs.2
    rw [hyes]
    dsimp only
    have hl1 : ((l1.toNat : Nat) : Int) = l1 := by omega
    refine .go ?_; (repeat constructor); refine .mv ?_; refine .nc ?_; refine .fa ?_; refine .lb ?_; refine EL.addN (n := 2) rfl rfl rfl rfl rfl (by omega) ?_; refine .nc ?_; refine .fa ?_
    (refine EL.storeB rfl rfl rfl rfl rfl rfl (by repeat constructor) (by simp) ?_; refine EL.blkEq (g := g) (by repeat constructor) (congrArg (fun a => Obj.cells a 127 (0, 0)) (rd_set1 _ _ _ _ _ _ _)) ?_)
    refine .go ?_; (repeat constructor); refine .mv ?_; refine .mv ?_; refine .as_ ?_; refine .as_ ?_; refine .as_ ?_; refine .go ?_; repeat constructor
    exact PX.ret rfl Tryz.results97 (.cons (.tmp rfl) (.cons (.tmp rfl) (.cons (.tmp rfl) .nil))) (fun w hs => ⟨(), by unfold ivV3; dsimp only; rw [hl1]; rfl, hs.ent (.i (by repeat constructor))⟩)
theorem dbytes_c (b : UInt8) (w : World) : Pure Tryz.prog 96 #[Uv b] (fun _ : Unit => .agg (reCells (.byte (ofS [b])) (.slice none 0 0)).toArray) (fun _ => []) w := by
  refine calls_of_ES TB Tryz.func96 rfl _ Tryz.ntmps96 rfl (Sat.start w) ?_; refine .go ?_; (repeat constructor); (refine .al ?_; intro g2); refine .go ?_; (repeat constructor); refine .mv ?_; (refine .b1 ?_; intro b4); refine EL.bytesS (bs := [b]) rfl rfl rfl rfl rfl rfl rfl rfl rfl (by repeat constructor) ?_
  refine EL.callP rfl rfl rfl ent112 rfl (rof_c [b] (by show 1 ≤ 140737488351232; omega)) ?_
  refine EL.buildS (reCells (.byte (ofS [b])) (.slice none 0 0)).toArray rfl rfl rfl rfl rfl (by kernel_rfl) rfl ?_; refine .sa ?_; refine .go ?_; repeat constructor
  exact PX.ret rfl Tryz.results96 (.cons (.blkA rfl rfl rfl (by repeat constructor) rfl) .nil) (fun w hs => ⟨(), rfl, hs.ent (.nil _)⟩)
theorem dgrown_c (g : Nat) (t : List UInt8) (r : DR) (n : Int) (a : Nat) (hsh : r.closed.length = 10) (h1 : -1073741824 ≤ r.size + n) (h2 : r.size + n ≤ 1073741824) : Mut Tryz.prog 94 #[Pv g 0, Iv n, Iv (a : Nat)] [DRB g t r] (fun _ : Unit => .tuple #[]) (fun _ => [DRB g t (r.grown n a)]) := by
  intro w0 B R w h
  obtain ⟨at_, e0, pl, gr, sh, sz⟩ := r
  dsimp only at hsh h1 h2
  replace h : Sat w0 B (RB g t at_ e0 pl gr (CT sh sz) :: R) w := h
  have hfc := dfail_c g t at_ e0 pl gr (CT sh (sz + n)) 13 a
  refine calls_of_ES TB Tryz.func94 rfl _ Tryz.ntmps94 rfl h ?_; refine .go ?_; (repeat constructor); refine .mv ?_; refine .nc ?_; refine .fa ?_; refine EL.loadB rfl rfl rfl rfl rfl (by repeat constructor) (rd_size_get t at_ e0 pl gr sh sz hsh) ?_; refine .mv ?_; refine EL.add (sz + n) rfl rfl rfl rfl (wrap_i64 _ (by omega) (by omega)) ?_; refine .nc ?_; refine .fa ?_
  (refine EL.storeB rfl rfl rfl rfl rfl rfl (by repeat constructor) (by rw [rd_len _ _ _ _ _ _ _ hsh]; decide) ?_; refine EL.blkEq (g := g) (by repeat constructor) (congrArg (fun a => Obj.cells a 127 (0, 0)) (rd_size_set t at_ e0 pl gr sh sz (sz + n) hsh)) ?_)
  refine .go ?_; (repeat constructor); refine .mv ?_; refine .nc ?_; refine .fa ?_; refine EL.loadB rfl rfl rfl rfl rfl (by repeat constructor) (rd_size_get t at_ e0 pl gr sh (sz + n) hsh) ?_; refine .gt_ ?_; refine .go ?_; repeat constructor
  refine ES.condD rfl (fun hgt => ?_) (fun hle => ?_)
  · have hg : DR.grown ⟨at_, e0, pl, gr, sh, sz⟩ n a = ⟨at_, if e0 = 0 then 13 else e0, if e0 = 0 then a else pl, gr, sh, sz + n⟩ := by
      unfold DR.grown
      rw [if_pos (by simp only; omega)]
      unfold DR.fail
      dsimp only
      split <;> rfl
    rw [hg]
    refine .go ?_; (repeat constructor); refine .mv ?_; refine .mv ?_; refine EL.callM1 rfl rfl rfl ent75 rfl hfc (by repeat constructor) ?_; refine .go ?_; repeat constructor
    exact PX.end rfl Tryz.results94 .nil (fun w hs => ⟨(), rfl, hs.ent (.i (by repeat constructor))⟩)
  · have hg : DR.grown ⟨at_, e0, pl, gr, sh, sz⟩ n a = ⟨at_, e0, pl, gr, sh, sz + n⟩ := by
      unfold DR.grown
      rw [if_neg (by simp only; omega)]
    rw [hg]
    refine .go ?_; repeat constructor
    exact PX.end rfl Tryz.results94 .nil (fun w hs => ⟨(), rfl, hs.ent (.i (by repeat constructor))⟩)
theorem dfail_r (g : Nat) (t : List UInt8) (r : DR) (e : Int) (a : Nat) : Mut Tryz.prog 75 #[Pv g 0, Iv e, Iv (a : Nat)] [DRB g t r] (fun _ : Unit => .tuple #[]) (fun _ => [DRB g t (r.fail e a)]) := by
  obtain ⟨at_, e0, pl, gr, sh, sz⟩ := r
  have hg : DR.fail ⟨at_, e0, pl, gr, sh, sz⟩ e a = ⟨at_, if e0 = 0 then e else e0, if e0 = 0 then a else pl, gr, sh, sz⟩ := by
    unfold DR.fail
    dsimp only
    split <;> rfl
  rw [hg]
  exact dfail_c g t at_ e0 pl gr (CT sh sz) e a
end Go.Proofs.YthcbjbkheodejaaGreat
namespace Go.Proofs.YthcbjbkheodejaaGreat
open Go Go.RowKit Sl
set_option maxRecDepth 100000
set_option maxHeartbeats 8000000
attribute [local irreducible] ES EL PX wps
inductive LeafC (t : List UInt8) (r : DR) (first : Bool) : RE × DR → Prop
  | byte (s : BS) (a : Nat) (hs : r.size + 1 ≤ 256) (h1 : r.at_ < a) (h2 : a ≤ t.length) : LeafC t r first (.byte s, { r.to a with size := r.size + 1 })
  | back (k a : Nat) (hk : 1 ≤ k ∧ k ≤ 9) (hc : r.closed.getD k false = true) (hs : r.size + 1 ≤ 256) (h1 : r.at_ < a) (h2 : a ≤ t.length) : LeafC t r first (.back k, { r.to a with size := r.size + 1 })
  | bol (a : Nat) (hf : first = true) (h1 : r.at_ < a) (h2 : a ≤ t.length) : LeafC t r first (.bol, r.to a)
  | eol (a : Nat) (h1 : r.at_ < a) (h2 : a ≤ t.length) (h3 : a = t.length ∨ see2 t a 92 41 = true) : LeafC t r first (.eol, r.to a)
theorem grown_ok {r : DR} (h : r.e = 0) {n : Int} {a : Nat} (hg : (r.grown n a).e = 0) : r.size + n ≤ 256 ∧ r.grown n a = { r with size := r.size + n } := by
  unfold DR.grown at hg ⊢
  by_cases hb : 256 < r.size + n
  · rw [if_pos hb, fail_ok (r := { r with size := r.size + n }) h] at hg
    exact absurd hg (by show ¬ (13 : Int) = 0; decide)
  · rw [if_neg hb]
    exact ⟨by omega, rfl⟩
theorem fail_no {r : DR} (h : r.e = 0) {e : Int} (he : e ≠ 0) (a : Nat) : (r.fail e a).e ≠ 0 := by rw [fail_ok h]; exact he
theorem grown_keeps {r : DR} (h : r.e ≠ 0) (n : Int) (a : Nat) : (r.grown n a).e ≠ 0 := by rw [grown_bad h]; exact h
theorem lone_c {t : List UInt8} {r : DR} {first : Bool} (h : r.e = 0) (s : BS) {a b : Nat} (hg : ((r.to a).grown 1 b).e = 0) (h1 : r.at_ < a) (h2 : a ≤ t.length) : LeafC t r first (.byte s, (r.to a).grown 1 b) := by
  obtain ⟨g1, g2⟩ := grown_ok (r := r.to a) h hg
  rw [g2]
  exact .byte s a g1 h1 h2
theorem esc_cases (t : List UInt8) (r : DR) (first : Bool) (h : r.e = 0) (hlt : r.at_ < t.length) (he : (dEsc t r).2.e = 0) : LeafC t r first (dEsc t r) := by
  unfold dEsc at he ⊢
  by_cases c0 : r.at_ + 1 = t.length
  · rw [if_pos c0] at he
    exact absurd he (fail_no h (by decide) _)
  rw [if_neg c0] at he ⊢
  dsimp only at he ⊢
  by_cases c1 : (t.getD (r.at_ + 1) 0).toNat = 110
  · rw [if_pos c1] at he ⊢
    exact lone_c h _ he (by omega) (by omega)
  rw [if_neg c1] at he ⊢
  by_cases c2 : 49 ≤ (t.getD (r.at_ + 1) 0).toNat ∧ (t.getD (r.at_ + 1) 0).toNat ≤ 57
  · rw [if_pos c2] at he ⊢
    by_cases c3 : (r.to (r.at_ + 2)).closed.getD ((t.getD (r.at_ + 1) 0).toNat - 48) false = true
    · rw [if_pos c3] at he ⊢
      obtain ⟨g1, g2⟩ := grown_ok (r := r.to (r.at_ + 2)) h he
      rw [g2]
      exact .back _ _ (by omega) c3 g1 (by omega) (by omega)
    · rw [if_neg c3] at he
      exact absurd he (grown_keeps (fail_no (r := r.to (r.at_ + 2)) h (by decide) _) _ _)
  rw [if_neg c2] at he ⊢
  by_cases c3 : isAln (t.getD (r.at_ + 1) 0) = true
  · rw [if_pos c3] at he
    exact absurd he (grown_keeps (fail_no (r := r.to (r.at_ + 2)) h (by decide) _) _ _)
  rw [if_neg c3] at he ⊢
  exact lone_c h _ he (by omega) (by omega)
theorem leaf_cases (t : List UInt8) (r : DR) (first : Bool) (h : r.e = 0) (hlt : r.at_ < t.length) (he : (dLeaf t r first).2.e = 0) : LeafC t r first (dLeaf t r first) := by
  unfold dLeaf at he ⊢
  dsimp only at he ⊢
  by_cases c0 : see2 t r.at_ 92 123 = true ∨ see2 t r.at_ 92 125 = true
  · rw [if_pos c0] at he
    exact absurd he (fail_no h (by decide) _)
  rw [if_neg c0] at he ⊢
  by_cases c1 : (t.getD r.at_ 0).toNat = 92
  · rw [if_pos c1] at he ⊢
    exact esc_cases t r first h hlt he
  rw [if_neg c1] at he ⊢
  by_cases c2 : (t.getD r.at_ 0).toNat = 91
  · rw [if_pos c2] at he ⊢
    by_cases c3 : (brackM t r.at_).e ≠ 0
    · rw [if_pos c3] at he
      exact absurd he (fail_no h c3 _)
    rw [if_neg c3] at he ⊢
    have := brack_next t r.at_ (by simpa using c3)
    exact lone_c h _ he (by omega) this.2
  rw [if_neg c2] at he ⊢
  by_cases c3 : (t.getD r.at_ 0).toNat = 94 ∧ first = true
  · rw [if_pos c3]
    exact .bol _ c3.2 (by omega) (by omega)
  rw [if_neg c3] at he ⊢
  by_cases c4 : (t.getD r.at_ 0).toNat = 36 ∧ (r.at_ + 1 = t.length ∨ see2 t (r.at_ + 1) 92 41 = true)
  · rw [if_pos c4]
    exact .eol _ (by omega) (by omega) c4.2
  rw [if_neg c4] at he ⊢
  by_cases c5 : (t.getD r.at_ 0).toNat = 46
  · rw [if_pos c5] at he ⊢
    exact lone_c h _ he (by omega) (by omega)
  rw [if_neg c5] at he ⊢
  exact lone_c h _ he (by omega) (by omega)
mutual
/-- Trees whose positions can be counted. -/
def RE.pok : RE → Prop
  | .cat ks => ks.length ≤ 1048576 ∧ posL ks ≤ 131072 ∧ pokL ks
  | .group _ k => k.pok
  | .rep lo hi k => posR k * timesM lo hi ≤ 131072 ∧ k.pok
  | _ => True
def pokL : List RE → Prop
  | [] => True
  | k :: ks => k.pok ∧ pokL ks
end
structure DOk (t : List UInt8) (r : DR) : Prop where
  shut : r.closed.length = 10
  lo : 0 ≤ r.size
  hi : r.size ≤ 256
  at_ : r.at_ ≤ t.length
structure DOk9 (t : List UInt8) (r : DR) : Prop extends DOk t r where
  groups : r.groups ≤ 9
structure PartOk (t : List UInt8) (r : DR) (y : RE × DR) : Prop where
  ok : DOk9 t y.2
  pok : y.1.pok
  size : y.2.size = r.size + posR y.1
  at_ : r.at_ < y.2.at_
theorem leaf_ok {t : List UInt8} {r : DR} {first : Bool} {y : RE × DR} (hr : DOk9 t r) (h : LeafC t r first y) : PartOk t r y := by
  obtain ⟨⟨q1, q2, q3, q4⟩, q5⟩ := hr
  cases h with
  | byte s a hs h1 h2 => exact ⟨⟨⟨q1, by show 0 ≤ r.size + 1; omega, hs, h2⟩, q5⟩, by simp [RE.pok], by simp [posR], h1⟩
  | back k a hk hc hs h1 h2 => exact ⟨⟨⟨q1, by show 0 ≤ r.size + 1; omega, hs, h2⟩, q5⟩, by simp [RE.pok], by simp [posR], h1⟩
  | bol a hf h1 h2 => exact ⟨⟨⟨q1, q2, q3, h2⟩, q5⟩, by simp [RE.pok], by simp [posR, DR.to], h1⟩
  | eol a h1 h2 h3 => exact ⟨⟨⟨q1, q2, q3, h2⟩, q5⟩, by simp [RE.pok], by simp [posR, DR.to], h1⟩
theorem times_le {lo : Nat} {hi : Int} (h1 : lo ≤ 255) (h2 : hi ≤ 255) : timesM lo hi ≤ 255 := by
  unfold timesM; split <;> omega
theorem rep_pok {p : RE} {lo : Nat} {hi : Int} (hp : p.pok) (h : posR p ≤ 256) (h1 : lo ≤ 255) (h2 : hi ≤ 255) : (RE.rep lo hi p).pok ∧ posR (.rep lo hi p) ≤ 65536 := by
  have hm : posR p * timesM lo hi ≤ 256 * 255 := Nat.mul_le_mul h (times_le h1 h2)
  rw [RE.pok, posR]
  exact ⟨⟨by omega, hp⟩, by omega⟩
theorem reps_ok {t : List UInt8} : ∀ (n : Nat) (p : RE) (r : DR), r.e = 0 → DOk9 t r → p.pok → (posR p : Int) ≤ r.size → (dReps t n p r).2.e = 0 →
    DOk9 t (dReps t n p r).2 ∧ (dReps t n p r).1.pok ∧ (dReps t n p r).2.size - posR (dReps t n p r).1 = r.size - posR p ∧ r.at_ ≤ (dReps t n p r).2.at_
  | 0, p, r, _, hr, hp, _, _ => by rw [dReps]; exact ⟨hr, hp, rfl, Nat.le_refl _⟩
  | n + 1, p, r, h, hr, hp, hs, he => by
    have stop : dReps t (n + 1) p r = (p, r) → DOk9 t (dReps t (n + 1) p r).2 ∧ (dReps t (n + 1) p r).1.pok ∧ (dReps t (n + 1) p r).2.size - posR (dReps t (n + 1) p r).1 = r.size - posR p ∧ r.at_ ≤ (dReps t (n + 1) p r).2.at_ := fun e => by rw [e]; exact ⟨hr, hp, rfl, Nat.le_refl _⟩
    have go : ∀ (lo : Nat) (hi : Int) (a b : Nat), lo ≤ 255 → hi ≤ 255 → r.at_ ≤ a → a ≤ t.length → dReps t (n + 1) p r = dReps t n (.rep lo hi p) ((r.to a).grown ((posR (.rep lo hi p) : Int) - posR p) b) →
      DOk9 t (dReps t (n + 1) p r).2 ∧ (dReps t (n + 1) p r).1.pok ∧ (dReps t (n + 1) p r).2.size - posR (dReps t (n + 1) p r).1 = r.size - posR p ∧ r.at_ ≤ (dReps t (n + 1) p r).2.at_ := by
      intro lo hi a b l1 l2 ha1 ha2 e
      have hg : ((r.to a).grown ((posR (.rep lo hi p) : Int) - posR p) b).e = 0 := by
        by_cases hx : ((r.to a).grown ((posR (.rep lo hi p) : Int) - posR p) b).e = 0
        · exact hx
        · rw [e, reps_bad _ _ _ hx] at he
          exact absurd he hx
      obtain ⟨g1, g2⟩ := grown_ok (r := r.to a) h hg
      have g1 : r.size + ((posR (.rep lo hi p) : Int) - posR p) ≤ 256 := g1
      have hhi := hr.hi
      obtain ⟨p1, p2⟩ := rep_pok hp (by omega) l1 l2
      rw [g2] at e
      rw [e] at he ⊢
      obtain ⟨i1, i2, i3, i4⟩ := reps_ok n (.rep lo hi p) { r.to a with size := r.size + ((posR (.rep lo hi p) : Int) - posR p) } h ⟨⟨hr.shut, by show 0 ≤ r.size + ((posR (.rep lo hi p) : Int) - posR p); omega, g1, ha2⟩, hr.groups⟩ p1 (by show ((posR (.rep lo hi p) : Nat) : Int) ≤ r.size + ((posR (.rep lo hi p) : Int) - posR p); omega) he
      refine ⟨i1, i2, i3.trans ?_, Nat.le_trans ha1 i4⟩
      show r.size + ((posR (.rep lo hi p) : Int) - posR p) - posR (.rep lo hi p) = r.size - posR p
      omega
    have hat := hr.at_
    by_cases c1 : (decide (r.at_ < t.length) && decide ((t.getD r.at_ 0).toNat = 42)) = true
    · have hlt : r.at_ < t.length := by rw [Bool.and_eq_true, decide_eq_true_eq] at c1; exact c1.1
      exact go 0 (-1) (r.at_ + 1) r.at_ (by omega) (by omega) (by omega) (by omega) (by rw [dReps, if_neg (by simp [h]), if_pos c1])
    by_cases c2 : see2 t r.at_ 92 123 = true
    · cases hv : ivM t (r.at_ + 2) with
      | none =>
        exfalso
        rw [dReps, if_neg (by simp [h]), if_neg c1, if_pos c2, hv] at he
        have he : ((r.to (ivA t (r.at_ + 2))).fail 9 r.at_).e = 0 := he
        exact fail_no (r := r.to (ivA t (r.at_ + 2))) h (by decide) _ he
      | some y =>
        obtain ⟨lo, hi, a⟩ := y
        have hl := iv_le hv
        exact go lo hi a r.at_ hl.1 hl.2.2.1 (by omega) (by omega) (by rw [dReps, if_neg (by simp [h]), if_neg c1, if_pos c2, hv])
    · exact stop (by rw [dReps, if_neg (by simp [h]), if_neg c1, if_neg c2])
theorem full_ok {t : List UInt8} {r : DR} {y : RE × DR} (h0 : 0 ≤ r.size) (he : y.2.e = 0) (h : PartOk t r y) (hf : (dFull t y).2.e = 0) : PartOk t r (dFull t y) := by
  unfold dFull at hf ⊢
  split
  · exact h
  · rename_i hx
    rw [if_neg hx] at hf
    obtain ⟨i1, i2, i3, i4⟩ := reps_ok t.length y.1 y.2 he h.ok h.pok (by have := h.size; omega) hf
    exact ⟨i1, i2, by have := h.size; omega, Nat.lt_of_lt_of_le h.at_ i4⟩
structure RowOk (t : List UInt8) (ks : List RE) (r : DR) (x : RE × DR) : Prop where
  ok : DOk9 t x.2
  at_ : r.at_ ≤ x.2.at_
  tree : ∃ ks2, x.1 = .cat (ks ++ ks2) ∧ pokL ks2 ∧ ks2.length + r.at_ ≤ x.2.at_ ∧ x.2.size = r.size + posL ks2
theorem part_ok {t : List UInt8} {n : Nat} (ih : ∀ (in_ : Bool) (op : Nat) (ks : List RE) (r : DR), r.e = 0 → DOk9 t r → t.length < n + r.at_ → (dRow t n in_ op ks r).2.e = 0 → RowOk t ks r (dRow t n in_ op ks r))
    {r : DR} (first : Bool) (h : r.e = 0) (hr : DOk9 t r) (hlt : r.at_ < t.length) (hn : t.length < n + 1 + r.at_) (hl : t.length ≤ 65536) (he : (dPart t n r first).2.e = 0) : PartOk t r (dPart t n r first) := by
  unfold dPart at he ⊢
  by_cases c0 : see2 t r.at_ 92 40 = true
  · rw [if_pos c0] at he ⊢
    have h2 := ((see2_iff ..).1 c0).1
    by_cases c1 : r.groups = 9
    · rw [if_pos c1] at he
      exact absurd he (fail_no h (by decide) _)
    rw [if_neg c1] at he ⊢
    have hg := hr.groups
    obtain ⟨k1, k2, ks2, k3, k4, k5, k6⟩ := ih true r.at_ [] { r with groups := r.groups + 1, at_ := r.at_ + 2 } h ⟨⟨hr.shut, hr.lo, hr.hi, h2⟩, by show r.groups + 1 ≤ 9; omega⟩ (by show t.length < n + (r.at_ + 2); omega) he
    generalize dRow t n true r.at_ [] { r with groups := r.groups + 1, at_ := r.at_ + 2 } = x at *
    obtain ⟨x1, x2⟩ := x
    dsimp only at *
    rw [List.nil_append] at k3
    subst k3
    have hlo := hr.lo
    have hk1 := k1.hi
    have hka := k1.at_
    refine ⟨⟨⟨by simp [k1.shut], k1.lo, k1.hi, k1.at_⟩, k1.groups⟩, ?_, ?_, by show r.at_ < x2.at_; omega⟩
    · show (RE.group _ (.cat ks2)).pok
      rw [RE.pok, RE.pok]
      exact ⟨by omega, by omega, k4⟩
    · show x2.size = r.size + ((posR (.group (r.groups + 1) (.cat ks2)) : Nat) : Int)
      rw [posR, posR]
      exact k6
  · rw [if_neg c0] at he ⊢
    exact leaf_ok hr (leaf_cases t r first h hlt he)
theorem row_ok {t : List UInt8} (hl : t.length ≤ 65536) : ∀ (n : Nat) (in_ : Bool) (op : Nat) (ks : List RE) (r : DR), r.e = 0 → DOk9 t r → t.length < n + r.at_ → (dRow t n in_ op ks r).2.e = 0 → RowOk t ks r (dRow t n in_ op ks r)
  | 0, in_, op, ks, r, h, hr, hn, he => by have := hr.at_; omega
  | n + 1, in_, op, ks, r, h, hr, hn, he => by
    have hat := hr.at_
    rw [dRow_step, if_neg (by simp [h])] at he ⊢
    by_cases c0 : r.at_ = t.length
    · rw [if_pos c0] at he ⊢
      cases in_ with
      | true => exact absurd he (fail_no h (by decide) _)
      | false => exact ⟨hr, Nat.le_refl _, [], by rw [List.append_nil], trivial, by simp, by simp [posL]⟩
    rw [if_neg c0] at he ⊢
    by_cases c1 : see2 t r.at_ 92 41 = true
    · rw [if_pos c1] at he ⊢
      have h2 := ((see2_iff ..).1 c1).1
      cases in_ with
      | false => exact absurd he (show (r.fail 10 r.at_).e ≠ 0 from fail_no h (by decide) _)
      | true => exact ⟨⟨⟨hr.shut, hr.lo, hr.hi, h2⟩, hr.groups⟩, by show r.at_ ≤ r.at_ + 2; omega, [], by rw [List.append_nil], trivial, by show 0 + r.at_ ≤ r.at_ + 2; omega, by simp [posL, DR.to]⟩
    rw [if_neg c1] at he ⊢
    have e1 : (dFull t (dPart t n r (decide (ks = [])))).2.e = 0 := by
      by_cases hx : (dFull t (dPart t n r (decide (ks = [])))).2.e = 0
      · exact hx
      · rw [row_bad _ _ _ _ _ hx] at he; exact absurd he hx
    have e0 : (dPart t n r (decide (ks = []))).2.e = 0 := by
      by_cases hx : (dPart t n r (decide (ks = []))).2.e = 0
      · exact hx
      · rw [full_bad hx] at e1; exact absurd e1 hx
    have hp := full_ok hr.lo e0 (part_ok (row_ok hl n) (decide (ks = [])) h hr (by omega) hn hl e0) e1
    generalize dFull t (dPart t n r (decide (ks = []))) = z at *
    have hat2 := hp.at_
    obtain ⟨k1, k2, ks2, k3, k4, k5, k6⟩ := row_ok hl n in_ op (ks ++ [z.1]) z.2 e1 hp.ok (by omega) he
    have hsz := hp.size
    refine ⟨k1, by omega, z.1 :: ks2, by rw [k3, List.append_assoc]; rfl, ⟨hp.pok, k4⟩, by rw [List.length_cons]; omega, by rw [posL]; omega⟩
end Go.Proofs.YthcbjbkheodejaaGreat
namespace Go.Proofs.YthcbjbkheodejaaGreat
open Go Go.RowKit Sl
set_option maxRecDepth 100000
set_option maxHeartbeats 8000000
attribute [local irreducible] ES EL PX wps
theorem pokL_iff : ∀ ks : List RE, pokL ks ↔ ∀ k ∈ ks, k.pok
  | [] => by simp [pokL]
  | k :: ks => by rw [pokL, pokL_iff ks]; simp
theorem pok_le : ∀ {r : RE}, r.pok → posR r ≤ 131072
  | .cat ks, h => by rw [posR]; rw [RE.pok] at h; exact h.2.1
  | .byte _, _ => by rw [posR]; omega
  | .bol, _ => by rw [posR]; omega
  | .eol, _ => by rw [posR]; omega
  | .group _ k, h => by rw [posR]; rw [RE.pok] at h; exact pok_le h
  | .rep lo hi k, h => by rw [posR]; rw [RE.pok] at h; exact h.1
  | .back _, _ => by rw [posR]; omega
theorem pok_kid {r k : RE} (h : r.pok) (hk : k ∈ r.kids) : k.pok := by
  cases r <;> simp only [RE.kids, List.mem_cons, List.not_mem_nil, or_false] at hk
  · rw [RE.pok] at h; exact (pokL_iff _).1 h.2.2 k hk
  · subst hk; rw [RE.pok] at h; exact h
  · subst hk; rw [RE.pok] at h; exact h.2
theorem pok_sum {r : RE} (h : r.pok) : r.kids.length ≤ 1048576 ∧ posL r.kids ≤ 131072 := by
  cases r <;> simp only [RE.kids, List.length_nil, List.length_singleton, posL]
  · rw [RE.pok] at h; exact ⟨h.1, h.2.1⟩
  · exact ⟨by omega, by omega⟩
  · exact ⟨by omega, by omega⟩
  · exact ⟨by omega, by omega⟩
  · rw [RE.pok] at h; exact ⟨by omega, by have := pok_le h; omega⟩
  · rw [RE.pok] at h; exact ⟨by omega, by have := pok_le h.2; omega⟩
  · exact ⟨by omega, by omega⟩
def finP (k lo : Nat) (hi : Int) (n : Nat) : Nat := if k = 1 ∨ k = 6 then 1 else if k = 5 then n * timesM lo hi else n
theorem pos_fin (r : RE) : posR r = finP r.kind r.lo r.hi (posL r.kids) := by
  cases r <;> simp [posR, finP, RE.kind, RE.kids, RE.lo, RE.hi, posL]
theorem posL_take (ks : List RE) (i : Nat) (h : i < ks.length) : posL (ks.take (i + 1)) = posL (ks.take i) + posR ks[i] := by
  rw [posL_sum, posL_sum, List.take_succ_eq_append_getElem h, List.map_append, List.sum_append]
  simp
theorem posL_take_le (ks : List RE) (i : Nat) : posL (ks.take i) ≤ posL ks := by
  rw [posL_sum, posL_sum]
  conv => rhs; rw [← List.take_append_drop i ks, List.map_append, List.sum_append]
  omega
theorem rep_of {r : RE} (h : r.kind = 5) : ∃ k, r = .rep r.lo r.hi k := by
  cases r <;> first | (simp [RE.kind] at h; done) | exact ⟨_, rfl⟩
theorem dpos_n (n : Nat) : ∀ r : RE, r.sz ≤ n → r.pok → ∀ (ad : Option Addr) (cap : Nat) (w : World), KidsRd w w.heap.size r.kids ad →
    Pure Tryz.prog 70 #[.agg (reCells r (.slice ad r.kids.length cap)).toArray] (fun _ : Unit => Iv (posR r : Nat)) (fun _ => []) w := by
  induction n with
  | zero => intro r hr; exact absurd (sz_pos r) (by omega)
  | succ n ih =>
    intro r hsz hpok ad cap w hkids
    have hkl := pok_sum hpok
    have hle := pok_le hpok
    have hfin := pos_fin r
    have htake := posL_take_le r.kids
    refine calls_of_ES TB Tryz.func70 rfl _ Tryz.ntmps70 rfl (Sat.start w) ?_; refine .go ?_; (repeat constructor); (refine .bx ?_; intro g1); refine .as_ ?_; refine .go ?_; (repeat constructor); refine .as_ ?_; refine .go ?_; (repeat constructor); refine .as_ ?_; refine .go ?_; repeat constructor
    refine ES.loop (σ := Nat) (fun i => i ≤ r.kids.length) (fun i => [(1, Pv g1 0), (2, Iv 0), (3, Iv (posL (r.kids.take i) : Nat)), (4, Iv (i : Nat))])
      (fun i => HA.blk g1 (.cells (reCells r (.slice ad r.kids.length cap)).toArray 46) :: []) (fun i => r.kids.length - i) 0 (Nat.zero_le _) ⟨rfl, rfl, rfl, rfl, trivial⟩ (.i (by repeat constructor)) ?_
    intro i hi
    dsimp only at hi ⊢
    refine .go ?_; (repeat constructor); refine .mv ?_; refine .fa ?_; refine .lb ?_; refine .lL ?_; refine .ls ?_; refine .go ?_; repeat constructor
    refine ES.condD rfl (fun hlt => ?_) (fun hge => ?_)
    · have hlt' : i < r.kids.length := by omega
      obtain ⟨k, hki⟩ : ∃ k, r.kids[i]? = some k := ⟨_, List.getElem?_eq_getElem hlt'⟩
      have hmem := List.mem_of_getElem? hki
      have hks := kids_lt hmem
      have htk := posL_take r.kids i hlt'
      rw [show r.kids[i] = k from (List.getElem?_eq_some_iff.1 hki).2] at htk
      have ht1 := htake (i + 1)
      obtain ⟨kg, ko, rfl, hkn⟩ := hkids i k hki
      obtain ⟨kad, kcap, hkrd, hkk⟩ := hkn.kids
      have hkrd2 : Rd w w.heap.size (some ⟨kg, ko + i * 9, none⟩) (reCells k (.slice kad k.kids.length kcap)) := hkrd.rd
      have hrec := ih k (by omega) (pok_kid hpok hmem) kad kcap
      refine .go ?_; (repeat constructor); refine .mv ?_; refine .fa ?_; refine .lb ?_; refine .mv ?_; refine EL.indexAddrL rfl rfl rfl rfl rfl rfl rfl (by omega) ?_
      refine EL.loadOldA (j := 0) (vs := reCells k (.slice kad k.kids.length kcap)) rfl rfl rfl rfl rfl (by simp [reCells]) rfl hkrd2 (fun i u hi => by rw [Nat.zero_add]; exact hi) ?_
      refine EL.callPw rfl rfl rfl ent70 rfl (fun w' hs => hrec w' (fun i' k' hi' => by obtain ⟨g', o', e1, e2⟩ := hkk (by intro e; rw [e] at hi'; simp at hi'); exact ⟨g', o', e1, NodeRd.sat (e2 i' k' hi') hs⟩)) ?_
      refine EL.addN rfl rfl rfl rfl rfl (by omega) ?_; refine .as_ ?_; refine .go ?_; (repeat constructor); refine .go ?_; (repeat constructor); refine .mv ?_; refine .a1 ?_; refine .as_ ?_; refine .go ?_; repeat constructor
      exact .lx (i + 1) (by omega) (by omega) ⟨rfl, rfl, getA rfl (congrArg (fun n : Nat => Iv (n : Nat)) htk.symm), rfl, trivial⟩
    · obtain rfl : i = r.kids.length := by omega
      rw [List.take_length]
      refine .go ?_; (repeat constructor); refine .fa ?_; refine .lb ?_; refine .go ?_; (repeat constructor); refine .go ?_; (repeat constructor); refine .ei ?_; refine .as_ ?_; refine .go ?_; repeat constructor
      refine ES.condD rfl (fun h1 => ?_) (fun h1 => ?_)
      · have hk : r.kind = 1 := by have h : ((r.kind : Nat) : Int) = 1 := h1; omega
        rw [hfin, show finP r.kind r.lo r.hi (posL r.kids) = 1 by unfold finP; rw [if_pos (.inl hk)]]
        refine .go ?_; (repeat constructor); refine ES.condK true rfl (decide_eq_true h1) ?_; refine .go ?_; (repeat constructor); refine .as_ ?_; refine .go ?_; repeat constructor
        exact PX.ret rfl Tryz.results70 (.cons (.tmp rfl) .nil) (fun w hs => ⟨(), rfl, hs.ent (.nil _)⟩)
      have hk1 : ¬ r.kind = 1 := by have h : ¬ ((r.kind : Nat) : Int) = 1 := h1; omega
      refine .go ?_; (repeat constructor); refine .ei ?_; refine .as_ ?_; refine .go ?_; repeat constructor
      refine ES.condD rfl (fun h6 => ?_) (fun h6 => ?_)
      · have hk : r.kind = 6 := by have h : ((r.kind : Nat) : Int) = 6 := h6; omega
        rw [hfin, show finP r.kind r.lo r.hi (posL r.kids) = 1 by unfold finP; rw [if_pos (.inr hk)]]
        refine .go ?_; (repeat constructor); refine .as_ ?_; refine .go ?_; repeat constructor
        exact PX.ret rfl Tryz.results70 (.cons (.tmp rfl) .nil) (fun w hs => ⟨(), rfl, hs.ent (.nil _)⟩)
      have hk6 : ¬ r.kind = 6 := by have h : ¬ ((r.kind : Nat) : Int) = 6 := h6; omega
      refine .go ?_; (repeat constructor); refine .ei ?_; refine .as_ ?_; refine .go ?_; repeat constructor
      refine ES.condD rfl (fun h5 => ?_) (fun h5 => ?_)
      · have hk : r.kind = 5 := by have h : ((r.kind : Nat) : Int) = 5 := h5; omega
        have hf5 : posR r = posL r.kids * timesM r.lo r.hi := by rw [hfin]; unfold finP; rw [if_neg (by omega), if_pos hk]
        have htm : timesM r.lo r.hi = if r.hi < 0 then max r.lo 1 else r.hi.toNat := rfl
        refine .go ?_; (repeat constructor); refine .fa ?_; refine .lb ?_; refine .gq ?_; refine .go ?_; repeat constructor
        refine ES.condD rfl (fun hp => ?_) (fun hn => ?_)
        · have hp : 0 ≤ r.hi := hp
          rw [if_neg (by omega)] at htm
          rw [htm] at hf5
          have hmul : IntKind.i64.wrap ((posL r.kids : Int) * r.hi) = ((posR r : Nat) : Int) := by
            rw [hf5] at hle ⊢
            rw [Int.natCast_mul, Int.toNat_of_nonneg hp]
            have e : ((posL r.kids * r.hi.toNat : Nat) : Int) = (posL r.kids : Int) * r.hi := by rw [Int.natCast_mul, Int.toNat_of_nonneg hp]
            exact wrap_i64 _ (by rw [← e]; omega) (by rw [← e]; omega)
          refine .go ?_; (repeat constructor); refine .mv ?_; refine .fa ?_; refine .lb ?_; refine EL.mul ((posR r : Nat) : Int) rfl rfl rfl rfl hmul ?_; refine .as_ ?_; refine .go ?_; repeat constructor
          exact PX.ret rfl Tryz.results70 (.cons (.tmp rfl) .nil) (fun w hs => ⟨(), rfl, hs.ent (.nil _)⟩)
        have hn : ¬ 0 ≤ r.hi := hn
        rw [if_pos (by omega)] at htm
        rw [htm] at hf5
        refine .go ?_; (repeat constructor); refine .fa ?_; refine .lb ?_; refine .gt_ ?_; refine .go ?_; repeat constructor
        refine ES.condD rfl (fun hl => ?_) (fun hl => ?_)
        · have hl : (0 : Int) < (r.lo : Nat) := hl
          rw [Nat.max_eq_left (by omega)] at hf5
          rw [hf5] at hle
          rw [hf5]
          refine .go ?_; (repeat constructor); refine .mv ?_; refine .fa ?_; refine .lb ?_; refine EL.mulN (m := posL r.kids) (n := r.lo) rfl rfl rfl rfl rfl (by omega) ?_; refine .as_ ?_; refine .go ?_; repeat constructor
          exact PX.ret rfl Tryz.results70 (.cons (.tmp rfl) .nil) (fun w hs => ⟨(), rfl, hs.ent (.nil _)⟩)
        · have hl : ¬ (0 : Int) < (r.lo : Nat) := hl
          rw [Nat.max_eq_right (by omega), Nat.mul_one] at hf5
          rw [hf5]
          refine .go ?_; (repeat constructor); refine .mv ?_; refine .as_ ?_; refine .go ?_; repeat constructor
          exact PX.ret rfl Tryz.results70 (.cons (.tmp rfl) .nil) (fun w hs => ⟨(), rfl, hs.ent (.nil _)⟩)
      · have hk : ¬ r.kind = 5 := by have h : ¬ ((r.kind : Nat) : Int) = 5 := h5; omega
        rw [hfin, show finP r.kind r.lo r.hi (posL r.kids) = posL r.kids by unfold finP; rw [if_neg (by omega), if_neg hk]]
        refine .go ?_; (repeat constructor); refine .mv ?_; refine .as_ ?_; refine .go ?_; repeat constructor
        exact PX.ret rfl Tryz.results70 (.cons (.tmp rfl) .nil) (fun w hs => ⟨(), rfl, hs.ent (.nil _)⟩)
theorem dpos_c (r : RE) (hp : r.pok) (ad : Option Addr) (cap : Nat) (w : World) (h : KidsRd w w.heap.size r.kids ad) : Pure Tryz.prog 70 #[.agg (reCells r (.slice ad r.kids.length cap)).toArray] (fun _ : Unit => Iv (posR r : Nat)) (fun _ => []) w := dpos_n r.sz r (Nat.le_refl _) hp ad cap w h
theorem aln_is (b : UInt8) : isAln b = decide ((48 ≤ b.toNat ∧ b.toNat ≤ 57) ∨ (97 ≤ b.toNat ∧ b.toNat ≤ 122) ∨ (65 ≤ b.toNat ∧ b.toNat ≤ 90)) := by
  have h : ∀ n, n < 256 → isAln (UInt8.ofNat n) = decide ((48 ≤ (UInt8.ofNat n).toNat ∧ (UInt8.ofNat n).toNat ≤ 57) ∨ (97 ≤ (UInt8.ofNat n).toNat ∧ (UInt8.ofNat n).toNat ≤ 122) ∨ (65 ≤ (UInt8.ofNat n).toNat ∧ (UInt8.ofNat n).toNat ≤ 90)) := by decide +kernel
  have := h b.toNat b.toNat_lt
  rwa [UInt8.ofNat_toNat] at this
theorem desc_c (g : Nat) (t : List UInt8) (r : DR) (hr : DOk t r) (ht : t.length ≤ 1073741824) (ha : r.at_ < t.length) : Mut Tryz.prog 92 #[Pv g 0] [DRB g t r] (fun _ : Unit => .agg (reCells (dEsc t r).1 (.slice none 0 0)).toArray) (fun _ => [DRB g t (dEsc t r).2]) := by
  intro w0 B R w h
  obtain ⟨a, e0, pl, gr, sh, sz⟩ := r
  obtain ⟨hsh, hlo, hhi, _⟩ := hr
  dsimp only at hsh hlo hhi ha
  replace h : Sat w0 B (RB g t a e0 pl gr (CT sh sz) :: R) w := h
  obtain ⟨r1, hr1⟩ : ∃ r1 : DR, r1 = ⟨a + 2, e0, pl, gr, sh, sz⟩ := ⟨_, rfl⟩
  have hes : dEsc t ⟨a, e0, pl, gr, sh, sz⟩ = (if a + 1 = t.length then (.cat [], DR.fail ⟨a, e0, pl, gr, sh, sz⟩ 6 a)
    else if (t.getD (a + 1) 0).toNat = 110 then (.byte (ofS [10]), r1.grown 1 a)
    else if 49 ≤ (t.getD (a + 1) 0).toNat ∧ (t.getD (a + 1) 0).toNat ≤ 57 then (.back ((t.getD (a + 1) 0).toNat - 48), (if sh.getD ((t.getD (a + 1) 0).toNat - 48) false = true then r1 else r1.fail 11 a).grown 1 a)
    else if isAln (t.getD (a + 1) 0) = true then (.byte (ofS [t.getD (a + 1) 0]), (r1.fail 12 a).grown 1 a)
    else (.byte (ofS [t.getD (a + 1) 0]), r1.grown 1 a)) := by rw [hr1]; rfl
  have hg1 := fun (r : DR) (h1 : r.closed = sh) (h2 : r.size = sz) => dgrown_c g t r 1 a (by rw [h1]; exact hsh) (by omega) (by omega)
  have hb := (t.getD (a + 1) 0).toNat_lt
  have hal := aln_is (t.getD (a + 1) 0)
  have hff := fun (r : DR) (e : Int) => dfail_r g t r e a
  have hfs : ∀ (r : DR) (e : Int), (r.fail e a).closed = r.closed ∧ (r.fail e a).size = r.size := fun r e => by unfold DR.fail; split <;> exact ⟨rfl, rfl⟩
  refine calls_of_ES TB Tryz.func92 rfl _ Tryz.ntmps92 rfl h ?_; refine .go ?_; (repeat constructor); (refine .al ?_; intro g2); refine .go ?_; (repeat constructor); refine .mv ?_; refine .nc ?_; refine .fa ?_; refine .lb ?_; refine .as_ ?_; refine .go ?_; (repeat constructor); refine .mv ?_; refine .a1 ?_; refine .mv ?_; refine .nc ?_; refine .fa ?_; refine .lb ?_; refine .lS ?_; refine .ei ?_; refine .go ?_; repeat constructor
  refine ES.condD rfl (fun hend => ?_) (fun hend => ?_)
  · rw [if_pos (by omega)] at hes
    rw [hes]
    refine .go ?_; (repeat constructor); refine .mv ?_; refine .mv ?_; refine EL.callM1 rfl rfl rfl ent75 rfl (hff ⟨a, e0, pl, gr, sh, sz⟩ 6) (by repeat constructor) ?_; refine .go ?_; (repeat constructor); refine EL.buildZ rfl rfl rfl rfl rfl ?_; refine .sa ?_; refine .go ?_; repeat constructor
    exact PX.ret rfl Tryz.results92 (.cons (.blkA rfl rfl rfl (by repeat constructor) rfl) .nil) (fun w hs => ⟨(), rfl, hs.ent (.i (by repeat constructor))⟩)
  rw [if_neg (by omega)] at hes
  refine .go ?_; (repeat constructor); refine .mv ?_; refine .nc ?_; refine .fa ?_; refine .lb ?_; refine .mv ?_; refine .a1 ?_; refine .iS ?_; refine .as_ ?_; refine .go ?_; (repeat constructor); refine .mv ?_; refine .nc ?_; refine .fa ?_; refine .lb ?_; refine EL.addN (n := 2) rfl rfl rfl rfl rfl (by omega) ?_; refine .nc ?_; refine .fa ?_
  (refine EL.storeB rfl rfl rfl rfl rfl rfl (by repeat constructor) (by simp) ?_; refine EL.blkEq (g := g) (by repeat constructor) (congrArg (fun a => Obj.cells a 127 (0, 0)) (rd_set1 _ _ _ _ _ _ _)) ?_)
  refine .go ?_; repeat constructor
  refine EL.imp (H' := DRB g t r1 :: HA.blk g2 (.cells (reCells (.cat []) (.slice none 0 0)).toArray 46) :: R) (fun w hs => by rw [hr1]; exact hs.ent (.i (by repeat constructor))) ?_
  generalize t.getD (a + 1) 0 = b at hes hb hal ⊢
  have hr1c : r1.closed = sh ∧ r1.size = sz := by rw [hr1]; exact ⟨rfl, rfl⟩
  refine .go ?_; (repeat constructor); refine .mv ?_; refine .ei ?_; refine .as_ ?_; refine .go ?_; repeat constructor
  refine ES.condD rfl (fun hn => ?_) (fun hn => ?_)
  · rw [if_pos (by omega)] at hes
    rw [hes]
    refine .go ?_; (repeat constructor); refine .mv ?_; refine .mv ?_; refine EL.callM1 rfl rfl rfl ent94 rfl (hg1 r1 hr1c.1 hr1c.2) (by repeat constructor) ?_; refine .go ?_; (repeat constructor); refine EL.callP rfl rfl rfl ent96 rfl (dbytes_c 10) ?_; refine .sa ?_; refine .go ?_; repeat constructor
    exact PX.ret rfl Tryz.results92 (.cons (.blkA rfl rfl rfl (by repeat constructor) rfl) .nil) (fun w hs => ⟨(), rfl, hs.ent (.i (by repeat constructor))⟩)
  rw [if_neg (by omega)] at hes
  refine .go ?_; repeat constructor
  refine EL.cutX (X := Unit) (fun _ => [(0, Pv g 0), (2, Pv g2 0), (3, Iv (a : Nat)), (4, Uv b), (42, .bool (decide (49 ≤ b.toNat ∧ b.toNat ≤ 57)))]) (fun _ => DRB g t r1 :: HA.blk g2 (.cells (reCells (.cat []) (.slice none 0 0)).toArray 46) :: R) ?_ (fun _ => ?_)
  · refine .go ?_; (repeat constructor); refine .mv ?_; refine .gq ?_; refine .mv ?_
    first | refine EL.splitD (d := 45) rfl (fun hp45 => ?_) (fun hp45 => ?_) | refine EL.splitN (d := 45) rfl (fun hp45 => ?_) (fun hp45 => ?_) | refine EL.splitB (d := 45) rfl (fun hp45 => ?_) (fun hp45 => ?_)
    · refine .mv ?_; refine .lq ?_; refine .pt ?_; refine .as_ ?_
      exact .dx () ⟨rfl, rfl, rfl, rfl, getA rfl (congrArg Value.bool (by rw [Bool.eq_iff_iff]; simp only [decide_eq_true_eq, Bool.false_eq_true, false_iff]; omega)), trivial⟩
    · refine .ps ?_; refine .ps ?_; refine .pf ?_; refine .as_ ?_
      exact .dx () ⟨rfl, rfl, rfl, rfl, getA rfl (congrArg Value.bool (by rw [Bool.eq_iff_iff]; simp only [decide_eq_true_eq, Bool.false_eq_true, false_iff]; omega)), trivial⟩
  refine ES.condD rfl (fun hd => ?_) (fun hd => ?_)
  · rw [if_pos hd] at hes
    rw [hes]
    obtain ⟨k, hk⟩ : ∃ k, k = b.toNat - 48 := ⟨_, rfl⟩
    have hkl : k < sh.length := by omega
    obtain ⟨r2, hr2⟩ : ∃ r2 : DR, r2 = (if sh.getD k false = true then r1 else r1.fail 11 a) := ⟨_, rfl⟩
    have hr2c : r2.closed = sh ∧ r2.size = sz := by
      rw [hr2]; split
      · exact hr1c
      · exact ⟨(hfs r1 11).1.trans hr1c.1, (hfs r1 11).2.trans hr1c.2⟩
    rw [← hk, ← hr2]
    refine ES.imp (H' := RB g t (a + 2) e0 pl gr (CT sh sz) :: HA.blk g2 (.cells (reCells (.cat []) (.slice none 0 0)).toArray 46) :: R) (fun w hs => by rw [hr1] at hs; exact hs.ent (.i (by repeat constructor))) ?_
    refine .go ?_; (repeat constructor); refine .mv ?_; refine .mv ?_
    refine EL.ofRV (RV.subK (m := b.toNat) (n := 48) rfl rfl (by omega) (by simp only [kmax]; omega)) rfl rfl rfl (by intro c h; cases h) ?_
    refine .nc ?_; refine .fa ?_; refine EL.indexAddrA (i := b.toNat - 48) rfl rfl rfl rfl rfl rfl rfl (by omega) ?_
    refine EL.loadB rfl rfl rfl rfl rfl (by repeat constructor) (rd_shut_get t (a + 2) e0 pl gr k _ sh sz hkl (by show 0 + 5 + (b.toNat - 48) * 1 = 5 + k; omega)) ?_
    refine .nt ?_; refine .go ?_; repeat constructor
    refine ES.imp (H' := DRB g t r1 :: HA.blk g2 (.cells (reCells (.cat []) (.slice none 0 0)).toArray 46) :: R) (fun w hs => by rw [hr1]; exact hs.ent (.i (by repeat constructor))) ?_
    refine ES.cutC (X := Unit) (fun _ => [(0, Pv g 0), (2, Pv g2 0), (3, Iv (a : Nat)), (4, Uv b)]) (fun _ => DRB g t r2 :: HA.blk g2 (.cells (reCells (.cat []) (.slice none 0 0)).toArray 46) :: R) ?_ (fun _ => ?_)
    · refine ES.cond rfl (fun hc => ?_) (fun hc => ?_)
      · rw [if_neg (by rw [Bool.not_eq_true'] at hc; rw [hc]; simp)] at hr2
        rw [hr2]
        refine .go ?_; (repeat constructor); refine .mv ?_; refine .mv ?_; refine EL.callM1 rfl rfl rfl ent75 rfl (hff r1 11) (by repeat constructor) ?_; refine .go ?_; repeat constructor
        exact .cy ()
      · rw [if_pos (by rw [Bool.not_eq_false'] at hc; exact hc)] at hr2
        rw [hr2]
        refine .go ?_; repeat constructor
        exact .cy ()
    refine .go ?_; (repeat constructor); refine .mv ?_; refine .mv ?_; refine EL.callM1 rfl rfl rfl ent94 rfl (hg1 r2 hr2c.1 hr2c.2) (by repeat constructor) ?_; refine .go ?_; (repeat constructor); refine .mv ?_
    refine EL.ofRV (RV.subK (m := b.toNat) (n := 48) rfl rfl (by omega) (by simp only [kmax]; omega)) rfl rfl rfl (by intro c h; cases h) ?_
    refine EL.convN rfl rfl rfl rfl rfl rfl (by simp only [kmax]; omega) ?_
    refine EL.buildS (reCells (.back (b.toNat - 48)) (.slice none 0 0)).toArray rfl rfl rfl rfl rfl (by kernel_rfl) rfl ?_; refine .sa ?_; refine .go ?_; repeat constructor
    exact PX.ret rfl Tryz.results92 (.cons (.blkA rfl rfl rfl (by repeat constructor) rfl) .nil) (fun w hs => ⟨(), by rw [hk]; rfl, hs.ent (.i (by repeat constructor))⟩)
  rw [if_neg hd] at hes
  refine .go ?_; repeat constructor
  refine EL.cutX (X := Unit) (fun _ => [(0, Pv g 0), (2, Pv g2 0), (3, Iv (a : Nat)), (4, Uv b), (67, .bool (isAln b))]) (fun _ => DRB g t r1 :: HA.blk g2 (.cells (reCells (.cat []) (.slice none 0 0)).toArray 46) :: R) ?_ (fun _ => ?_)
  · refine .go ?_; (repeat constructor); refine .mv ?_; refine .ei ?_; refine .mv ?_
    first | refine EL.splitD (d := 70) rfl (fun hp70 => ?_) (fun hp70 => ?_) | refine EL.splitN (d := 70) rfl (fun hp70 => ?_) (fun hp70 => ?_) | refine EL.splitB (d := 70) rfl (fun hp70 => ?_) (fun hp70 => ?_)
    · refine .ps ?_; refine .ps ?_; refine .ps ?_; refine .ps ?_; refine .ps ?_; refine .ps ?_; refine .pt ?_; refine .mv ?_; refine .ps ?_; refine .ps ?_; refine .ps ?_; refine .ps ?_; refine .ps ?_; refine .ps ?_; refine .pt ?_; refine .as_ ?_
      exact .dx () ⟨rfl, rfl, rfl, rfl, getA rfl (congrArg Value.bool (by rw [hal, Bool.eq_iff_iff]; simp only [decide_eq_true_eq, Bool.false_eq_true, false_iff, true_iff]; omega)), trivial⟩
    · refine .mv ?_; refine .gq ?_; refine .mv ?_
      first | refine EL.splitD (d := 73) rfl (fun hp73 => ?_) (fun hp73 => ?_) | refine EL.splitN (d := 73) rfl (fun hp73 => ?_) (fun hp73 => ?_) | refine EL.splitB (d := 73) rfl (fun hp73 => ?_) (fun hp73 => ?_)
      · refine .mv ?_; refine .lq ?_; refine .pt ?_; refine .pf ?_; refine .mv ?_
        first | refine EL.splitD (d := 78) rfl (fun hp78 => ?_) (fun hp78 => ?_) | refine EL.splitN (d := 78) rfl (fun hp78 => ?_) (fun hp78 => ?_) | refine EL.splitB (d := 78) rfl (fun hp78 => ?_) (fun hp78 => ?_)
        · refine .ps ?_; refine .ps ?_; refine .ps ?_; refine .ps ?_; refine .ps ?_; refine .ps ?_; refine .pt ?_; refine .as_ ?_
          exact .dx () ⟨rfl, rfl, rfl, rfl, getA rfl (congrArg Value.bool (by rw [hal, Bool.eq_iff_iff]; simp only [decide_eq_true_eq, Bool.false_eq_true, false_iff, true_iff]; omega)), trivial⟩
        · refine .mv ?_; refine .gq ?_; refine .mv ?_
          first | refine EL.splitD (d := 81) rfl (fun hp81 => ?_) (fun hp81 => ?_) | refine EL.splitN (d := 81) rfl (fun hp81 => ?_) (fun hp81 => ?_) | refine EL.splitB (d := 81) rfl (fun hp81 => ?_) (fun hp81 => ?_)
          · refine .mv ?_; refine .lq ?_; refine .pt ?_; refine .pf ?_; refine .as_ ?_
            exact .dx () ⟨rfl, rfl, rfl, rfl, getA rfl (congrArg Value.bool (by rw [hal, Bool.eq_iff_iff]; simp only [decide_eq_true_eq, Bool.false_eq_true, false_iff, true_iff]; omega)), trivial⟩
          · refine .ps ?_; refine .ps ?_; refine .pf ?_; refine .pf ?_; refine .as_ ?_
            exact .dx () ⟨rfl, rfl, rfl, rfl, getA rfl (congrArg Value.bool (by rw [hal, Bool.eq_iff_iff]; simp only [decide_eq_true_eq, Bool.false_eq_true, false_iff, true_iff]; omega)), trivial⟩
      · refine .ps ?_; refine .ps ?_; refine .pf ?_; refine .pf ?_; refine .mv ?_; refine .mv ?_; refine .gq ?_; refine .mv ?_
        first | refine EL.splitD (d := 81) rfl (fun hp81 => ?_) (fun hp81 => ?_) | refine EL.splitN (d := 81) rfl (fun hp81 => ?_) (fun hp81 => ?_) | refine EL.splitB (d := 81) rfl (fun hp81 => ?_) (fun hp81 => ?_)
        · refine .mv ?_; refine .lq ?_; refine .pt ?_; refine .pf ?_; refine .as_ ?_
          exact .dx () ⟨rfl, rfl, rfl, rfl, getA rfl (congrArg Value.bool (by rw [hal, Bool.eq_iff_iff]; simp only [decide_eq_true_eq, Bool.false_eq_true, false_iff, true_iff]; omega)), trivial⟩
        · refine .ps ?_; refine .ps ?_; refine .pf ?_; refine .pf ?_; refine .as_ ?_
          exact .dx () ⟨rfl, rfl, rfl, rfl, getA rfl (congrArg Value.bool (by rw [hal, Bool.eq_iff_iff]; simp only [decide_eq_true_eq, Bool.false_eq_true, false_iff, true_iff]; omega)), trivial⟩
  obtain ⟨r2, hr2⟩ : ∃ r2 : DR, r2 = (if isAln b = true then r1.fail 12 a else r1) := ⟨_, rfl⟩
  have hr2c : r2.closed = sh ∧ r2.size = sz := by
    rw [hr2]; split
    · exact ⟨(hfs r1 12).1.trans hr1c.1, (hfs r1 12).2.trans hr1c.2⟩
    · exact hr1c
  have hes2 : dEsc t ⟨a, e0, pl, gr, sh, sz⟩ = (.byte (ofS [b]), r2.grown 1 a) := by rw [hes, hr2]; split <;> rfl
  rw [hes2]
  refine ES.cutC (X := Unit) (fun _ => [(0, Pv g 0), (2, Pv g2 0), (3, Iv (a : Nat)), (4, Uv b)]) (fun _ => DRB g t r2 :: HA.blk g2 (.cells (reCells (.cat []) (.slice none 0 0)).toArray 46) :: R) ?_ (fun _ => ?_)
  · refine ES.cond rfl (fun hc => ?_) (fun hc => ?_)
    · rw [if_pos hc] at hr2
      rw [hr2]
      refine .go ?_; (repeat constructor); refine .mv ?_; refine .mv ?_; refine EL.callM1 rfl rfl rfl ent75 rfl (hff r1 12) (by repeat constructor) ?_; refine .go ?_; repeat constructor
      exact .cy ()
    · rw [if_neg (by rw [hc]; simp)] at hr2
      rw [hr2]
      refine .go ?_; repeat constructor
      exact .cy ()
  refine .go ?_; (repeat constructor); refine .mv ?_; refine .mv ?_; refine EL.callM1 rfl rfl rfl ent94 rfl (hg1 r2 hr2c.1 hr2c.2) (by repeat constructor) ?_; refine .go ?_; (repeat constructor); refine .mv ?_; refine EL.callP rfl rfl rfl ent96 rfl (dbytes_c b) ?_; refine .sa ?_; refine .go ?_; repeat constructor
  exact PX.ret rfl Tryz.results92 (.cons (.blkA rfl rfl rfl (by repeat constructor) rfl) .nil) (fun w hs => ⟨(), rfl, hs.ent (.i (by repeat constructor))⟩)
abbrev RCl (p : RE) (x : PX0) : List Value := reCells p (.slice x.ad p.kids.length x.cap)
abbrev TM (f : FuncId) (argv : Array Value) (g : Nat) (t : List UInt8) (r : DR) (H : List HA) (y : RE × DR) : Prop :=
  Mut Tryz.prog f argv (DRB g t r :: H) (fun x : PX0 => .agg (RCl y.1 x).toArray) (fun x => [DRB g t y.2, HA.forest x.fp [y.1] (RCl y.1 x)])
abbrev p00 : PX0 := ⟨none, 0, []⟩
theorem leafOwn {w0 w : World} {B : Nat} {H : List HA} (p : RE) (hp : p.kids = []) (h : Sat w0 B H w) : Sat w0 B (HA.forest [] [p] (RCl p p00) :: H) w := by
  refine Sat.forest0 h _ _ (fun _ _ => ?_)
  have := Forest.leaf (S := fun _ => True) (w := w) p hp
  unfold RCl
  rw [hp]
  exact Forest.leaf p hp
theorem fail_keeps (r : DR) (e : Int) (a : Nat) : (r.fail e a).closed = r.closed ∧ (r.fail e a).size = r.size := by unfold DR.fail; split <;> exact ⟨rfl, rfl⟩
abbrev ZB (g : Nat) : HA := HA.blk g (.cells (reCells (.cat []) (.slice none 0 0)).toArray 46)
theorem dpart_c (g : Nat) (t : List UInt8) (r : DR) (n : Nat) (first bg : Bool) (hr : DOk t r) (ht : t.length ≤ 1073741824) (ha : r.at_ < t.length)
    (hgrp : see2 t r.at_ 92 40 = true → TM 91 #[Pv g 0] g t r [] (dPart t n r first)) : TM 77 #[Pv g 0, .bool first, .bool bg] g t r [] (dPart t n r first) := by
  intro w0 B R w h
  have hesc := desc_c g t r hr ht ha
  have hdp : see2 t r.at_ 92 40 = false → dPart t n r first = dLeaf t r first := fun e => by unfold dPart; rw [if_neg (by rw [e]; simp)]
  obtain ⟨a, e0, pl, gr, sh, sz⟩ := r
  obtain ⟨hsh, hlo, hhi, _⟩ := hr
  dsimp only at hsh hlo hhi ha hgrp hdp
  obtain ⟨r0, hr0⟩ : ∃ r0 : DR, r0 = ⟨a, e0, pl, gr, sh, sz⟩ := ⟨_, rfl⟩
  obtain ⟨r1, hr1⟩ : ∃ r1 : DR, r1 = ⟨a + 1, e0, pl, gr, sh, sz⟩ := ⟨_, rfl⟩
  have hle : dLeaf t ⟨a, e0, pl, gr, sh, sz⟩ first = (
    if see2 t a 92 123 = true ∨ see2 t a 92 125 = true then (.cat [], DR.fail ⟨a, e0, pl, gr, sh, sz⟩ 9 a)
    else if (t.getD a 0).toNat = 92 then dEsc t ⟨a, e0, pl, gr, sh, sz⟩
    else if (t.getD a 0).toNat = 91 then (if (brackM t a).e ≠ 0 then (.cat [], DR.fail ⟨a, e0, pl, gr, sh, sz⟩ (brackM t a).e a) else (.byte (brackM t a).set, DR.grown ⟨(brackM t a).at_, e0, pl, gr, sh, sz⟩ 1 a))
    else if (t.getD a 0).toNat = 94 ∧ first = true then (.bol, ⟨a + 1, e0, pl, gr, sh, sz⟩)
    else if (t.getD a 0).toNat = 36 ∧ (a + 1 = t.length ∨ see2 t (a + 1) 92 41 = true) then (.eol, ⟨a + 1, e0, pl, gr, sh, sz⟩)
    else if (t.getD a 0).toNat = 46 then (.byte (notS zeroS), DR.grown ⟨a + 1, e0, pl, gr, sh, sz⟩ 1 a)
    else (.byte (ofS [t.getD a 0]), DR.grown ⟨a + 1, e0, pl, gr, sh, sz⟩ 1 a)) := rfl
  have hee : (dEsc t ⟨a, e0, pl, gr, sh, sz⟩).1.kids = [] := by unfold dEsc; dsimp only; repeat (first | rfl | split)
  replace h : Sat w0 B (RB g t a e0 pl gr (CT sh sz) :: R) w := h
  have hg1 := fun (r : DR) (h1 : r.closed = sh) (h2 : r.size = sz) => dgrown_c g t r 1 a (by rw [h1]; exact hsh) (by omega) (by omega)
  have hb := (t.getD a 0).toNat_lt
  have hff := fun (r : DR) (e : Int) => dfail_r g t r e a
  have hs := fun (y : UInt8) => dsee_c g t a e0 pl gr (CT sh sz) [92, y] ht (by omega) (by simp)
  have hs1 := fun (y : UInt8) => dsee_c g t (a + 1) e0 pl gr (CT sh sz) [92, y] ht (by omega) (by simp)
  have hbr := brdoc_c t a ht (by omega)
  refine calls_of_ES TB Tryz.func77 rfl _ Tryz.ntmps77 rfl h ?_; refine .go ?_; (repeat constructor); (refine .al ?_; intro g6); refine .go ?_; (repeat constructor); refine .mv ?_; refine .nc ?_; refine .fa ?_; refine .lb ?_; refine .as_ ?_; refine .go ?_; (repeat constructor); refine .mv ?_; refine .nc ?_; refine .fa ?_; refine .lb ?_; refine .mv ?_; refine .iS ?_; refine .as_ ?_; refine .go ?_; (repeat constructor); refine .mv ?_; refine EL.callM1 rfl rfl rfl ent76 rfl (hs 40) (by repeat constructor) ?_; refine .as_ ?_; refine .go ?_; repeat constructor
  refine ES.cond rfl (fun hc => ?_) (fun hc => ?_)
  · have hgrp := hgrp hc
    generalize dPart t n ⟨a, e0, pl, gr, sh, sz⟩ first = y at hgrp ⊢
    refine .go ?_; (repeat constructor); refine .mv ?_; (refine EL.callM rfl rfl rfl ent91 rfl hgrp (by repeat constructor) ?_; intro x); refine .sa ?_; refine .go ?_; repeat constructor
    exact PX.ret rfl Tryz.results77 (.cons (.blkA rfl rfl rfl (by repeat constructor) rfl) .nil) (fun w hs => ⟨x, rfl, hs.ent (.i (by repeat constructor))⟩)
  rw [hdp hc, hle]
  generalize hbb : t.getD a 0 = b at hb ⊢
  refine .go ?_; repeat constructor
  refine EL.cutX (X := Unit) (fun _ => [(0, Pv g 0), (1, .bool first), (6, Pv g6 0), (7, Iv (a : Nat)), (8, Uv b), (27, .bool (decide (see2 t a 92 123 = true ∨ see2 t a 92 125 = true)))]) (fun _ => RB g t a e0 pl gr (CT sh sz) :: ZB g6 :: R) ?_ (fun _ => ?_)
  · refine .go ?_; (repeat constructor); refine .mv ?_; refine EL.callM1 rfl rfl rfl ent76 rfl (hs 123) (by repeat constructor) ?_; refine .mv ?_
    first | refine EL.splitD (d := 30) rfl (fun hp30 => ?_) (fun hp30 => ?_) | refine EL.splitN (d := 30) rfl (fun hp30 => ?_) (fun hp30 => ?_) | refine EL.splitB (d := 30) rfl (fun hp30 => ?_) (fun hp30 => ?_)
    · refine .ps ?_; refine .ps ?_; refine .pt ?_; refine .as_ ?_
      exact .dx () ⟨rfl, rfl, rfl, rfl, rfl, getA rfl (congrArg Value.bool (by rw [see2_is] at *; rw [Bool.eq_iff_iff]; simp_all)), trivial⟩
    · refine .mv ?_; refine EL.callM1 rfl rfl rfl ent76 rfl (hs 125) (by repeat constructor) ?_; refine .pf ?_; refine .as_ ?_
      exact .dx () ⟨rfl, rfl, rfl, rfl, rfl, getA rfl (congrArg Value.bool (by rw [see2_is] at *; rw [Bool.eq_iff_iff]; simp_all)), trivial⟩
  refine ES.condD rfl (fun hiv => ?_) (fun hiv => ?_)
  · rw [if_pos hiv]
    refine .go ?_; (repeat constructor); refine .mv ?_; refine .mv ?_; refine EL.callM1 rfl rfl rfl ent75 rfl (hff ⟨a, e0, pl, gr, sh, sz⟩ 9) (by repeat constructor) ?_; refine .go ?_; (repeat constructor); refine EL.buildZ rfl rfl rfl rfl rfl ?_; refine .sa ?_; refine .go ?_; repeat constructor
    exact PX.ret rfl Tryz.results77 (.cons (.blkA rfl rfl rfl (by repeat constructor) rfl) .nil) (fun w hs => ⟨p00, rfl, (leafOwn (.cat []) rfl hs).ent (.i (by repeat constructor))⟩)
  rw [if_neg hiv]
  refine .go ?_; (repeat constructor); refine .mv ?_; refine .ei ?_; refine .as_ ?_; refine .go ?_; repeat constructor
  refine ES.condD rfl (fun h92 => ?_) (fun h92 => ?_)
  · rw [if_pos (by omega)]
    generalize dEsc t ⟨a, e0, pl, gr, sh, sz⟩ = y at hesc hee ⊢
    refine .go ?_; (repeat constructor); refine .mv ?_; refine EL.callM1 rfl rfl rfl ent92 rfl hesc (by repeat constructor) ?_; refine .sa ?_; refine .go ?_; repeat constructor
    exact PX.ret rfl Tryz.results77 (.cons (.blkA rfl rfl rfl (by repeat constructor) rfl) .nil) (fun w hs => ⟨p00, by unfold RCl; rw [hee]; rfl, (leafOwn y.1 hee hs).ent (.i (by repeat constructor))⟩)
  rw [if_neg (by omega)]
  refine .go ?_; (repeat constructor); refine .mv ?_; refine .ei ?_; refine .as_ ?_; refine .go ?_; repeat constructor
  refine ES.condD rfl (fun h91 => ?_) (fun h91 => ?_)
  · rw [if_pos (by omega)]
    generalize brackM t a = q at hbr ⊢
    obtain ⟨⟨s0, s1, s2, s3⟩, qa, qe⟩ := q
    dsimp only at hbr ⊢
    refine .go ?_; (repeat constructor); refine .mv ?_; refine .nc ?_; refine .fa ?_; refine .lb ?_; refine .mv ?_; refine EL.callP rfl rfl rfl ent93 rfl hbr ?_; refine .mv ?_; refine .ex ?_; refine .ex ?_; refine .ex ?_; (refine .al ?_; intro g9); refine .sa ?_; refine .as_ ?_; refine .as_ ?_; refine .go ?_; (repeat constructor); refine .mv ?_; refine .ni ?_; refine .go ?_; repeat constructor
    refine ES.condN rfl (fun hne => ?_) (fun heq => ?_)
    · rw [if_pos hne]
      refine .go ?_; (repeat constructor); refine .mv ?_; refine .mv ?_; refine .mv ?_; refine EL.callM1 rfl rfl rfl ent75 rfl (hff ⟨a, e0, pl, gr, sh, sz⟩ qe) (by repeat constructor) ?_; refine .go ?_; (repeat constructor); refine EL.buildZ rfl rfl rfl rfl rfl ?_; refine .sa ?_; refine .go ?_; repeat constructor
      exact PX.ret rfl Tryz.results77 (.cons (.blkA rfl rfl rfl (by repeat constructor) rfl) .nil) (fun w hs => ⟨p00, rfl, (leafOwn (.cat []) rfl hs).ent (.i (by repeat constructor))⟩)
    · have heq : qe = 0 := heq
      rw [if_neg (by rw [heq]; simp)]
      refine .go ?_; (repeat constructor); refine .mv ?_; refine .mv ?_; refine .nc ?_; refine .fa ?_
      (refine EL.storeB rfl rfl rfl rfl rfl rfl (by repeat constructor) (by simp) ?_; refine EL.blkEq (g := g) (by repeat constructor) (congrArg (fun a => Obj.cells a 127 (0, 0)) (rd_set1 _ _ _ _ _ _ _)) ?_)
      refine .go ?_; (repeat constructor); refine .mv ?_; refine .mv ?_; refine EL.callM1 rfl rfl rfl ent94 rfl (hg1 ⟨qa, e0, pl, gr, sh, sz⟩ rfl rfl) (by repeat constructor) ?_; refine .go ?_; (repeat constructor); refine .lg ?_; refine EL.buildS (reCells (.byte ⟨s0, s1, s2, s3⟩) (.slice none 0 0)).toArray rfl rfl rfl rfl rfl (by kernel_rfl) rfl ?_; refine .sa ?_; refine .go ?_; repeat constructor
      exact PX.ret rfl Tryz.results77 (.cons (.blkA rfl rfl rfl (by repeat constructor) rfl) .nil) (fun w hs => ⟨p00, rfl, (leafOwn (.byte ⟨s0, s1, s2, s3⟩) rfl hs).ent (.i (by repeat constructor))⟩)
  rw [if_neg (by omega)]
  refine .go ?_; (repeat constructor); refine .mv ?_; refine .nc ?_; refine .fa ?_; refine .lb ?_; refine .a1 ?_; refine .nc ?_; refine .fa ?_
  (refine EL.storeB rfl rfl rfl rfl rfl rfl (by repeat constructor) (by simp) ?_; refine EL.blkEq (g := g) (by repeat constructor) (congrArg (fun a => Obj.cells a 127 (0, 0)) (rd_set1 _ _ _ _ _ _ _)) ?_)
  refine .go ?_; repeat constructor
  refine EL.cutX (X := Unit) (fun _ => [(0, Pv g 0), (6, Pv g6 0), (7, Iv (a : Nat)), (8, Uv b), (79, .bool (decide (b.toNat = 94 ∧ first = true)))]) (fun _ => RB g t (a + 1) e0 pl gr (CT sh sz) :: ZB g6 :: R) ?_ (fun _ => ?_)
  · refine .go ?_; (repeat constructor); refine .mv ?_; refine .ei ?_; refine .mv ?_
    first | refine EL.splitD (d := 82) rfl (fun hp82 => ?_) (fun hp82 => ?_) | refine EL.splitN (d := 82) rfl (fun hp82 => ?_) (fun hp82 => ?_) | refine EL.splitB (d := 82) rfl (fun hp82 => ?_) (fun hp82 => ?_)
    · refine .mv ?_; refine .pt ?_; refine .as_ ?_
      exact .dx () ⟨rfl, rfl, rfl, rfl, getA rfl (congrArg Value.bool (by rw [Bool.eq_iff_iff]; simp only [decide_eq_true_eq, Bool.false_eq_true, false_iff]; (try omega); (try (constructor <;> (intro h; first | exact h.2 | exact ⟨by omega, h⟩))))), trivial⟩
    · refine .ps ?_; refine .pf ?_; refine .as_ ?_
      exact .dx () ⟨rfl, rfl, rfl, rfl, getA rfl (congrArg Value.bool (by rw [Bool.eq_iff_iff]; simp only [decide_eq_true_eq, Bool.false_eq_true, false_iff]; (try omega); (try (constructor <;> (intro h; first | exact h.2 | exact ⟨by omega, h⟩))))), trivial⟩
  refine ES.condD rfl (fun h94 => ?_) (fun h94 => ?_)
  · rw [if_pos h94]
    refine .go ?_; (repeat constructor); refine EL.buildS (reCells .bol (.slice none 0 0)).toArray rfl rfl rfl rfl rfl (by kernel_rfl) rfl ?_; refine .sa ?_; refine .go ?_; repeat constructor
    exact PX.ret rfl Tryz.results77 (.cons (.blkA rfl rfl rfl (by repeat constructor) rfl) .nil) (fun w hs => ⟨p00, rfl, (leafOwn .bol rfl hs).ent (.i (by repeat constructor))⟩)
  rw [if_neg h94]
  refine .g0 ?_; repeat constructor
  refine ES.draw (X := Unit) (fun _ => [(0, Pv g 0), (6, Pv g6 0), (7, Iv (a : Nat)), (8, Uv b), (86, .bool (decide (b.toNat = 36 ∧ (a + 1 = t.length ∨ see2 t (a + 1) 92 41 = true))))]) (fun _ => RB g t (a + 1) e0 pl gr (CT sh sz) :: ZB g6 :: R) (RB g t (a + 1) e0 pl gr (CT sh sz) :: ZB g6 :: R) mixed (.i (by repeat constructor)) ?_ (fun _ => ?_)
  · refine .tk 0 rfl (RV.move rfl) ?_; refine .tk 1 rfl (RV.eqlI rfl rfl) ?_; refine .tk 2 rfl (RV.move rfl) ?_
    first | refine ED.part (d := 89) rfl (fun hp89 => ?_) (fun hp89 => ?_) | refine ED.partN (d := 89) rfl (fun hp89 => ?_) (fun hp89 => ?_) | refine ED.partB (d := 89) rfl (fun hp89 => ?_) (fun hp89 => ?_)
    · refine .tk 3 rfl (RV.move rfl) ?_; refine .tk 4 rfl (RV.nilCheck rfl) ?_; refine .tk 5 rfl (RV.fieldAddr rfl rfl rfl rfl rfl rfl) ?_; refine .tk 6 rfl (RV.loadB rfl rfl rfl (by repeat constructor) rfl) ?_; refine .tk 7 rfl (RV.move rfl) ?_; refine .tk 8 rfl (RV.nilCheck rfl) ?_; refine .tk 9 rfl (RV.fieldAddr rfl rfl rfl rfl rfl rfl) ?_; refine .tk 10 rfl (RV.loadB rfl rfl rfl (by repeat constructor) rfl) ?_; refine .tk 11 rfl (RV.lenS rfl rfl rfl) ?_; refine .tk 12 rfl (RV.eqlI rfl rfl) ?_; refine .tk 13 rfl (RV.move rfl) ?_
      first | refine ED.part (d := 100) rfl (fun hp100 => ?_) (fun hp100 => ?_) | refine ED.partN (d := 100) rfl (fun hp100 => ?_) (fun hp100 => ?_) | refine ED.partB (d := 100) rfl (fun hp100 => ?_) (fun hp100 => ?_)
      · refine .pa 14 rfl ?_; refine .pa 15 rfl ?_; refine .tk 16 rfl (RV.pickT rfl rfl) ?_; refine .tk 17 rfl (RV.pickT rfl rfl) ?_; refine .tk 18 rfl (RV.assign rfl) ?_; refine .dn ?_
        exact .cx () ⟨rfl, rfl, rfl, rfl, getA rfl (congrArg Value.bool (by rw [see2_is] at *; rw [Bool.eq_iff_iff]; simp only [decide_eq_true_eq, Bool.false_eq_true, false_iff, true_iff] at *; (try omega); (try exact ⟨fun h => ⟨by omega, .inr h⟩, fun h => h.2.resolve_left (by omega)⟩))), trivial⟩
      · refine .tk 14 rfl (RV.move rfl) ?_; refine .ld 15 ?_; refine EL.callM1 rfl rfl rfl ent76 rfl (hs1 41) (by repeat constructor) ?_; refine .nx ?_; refine .tk 16 rfl (RV.pickF rfl rfl) ?_; refine .tk 17 rfl (RV.pickT rfl rfl) ?_; refine .tk 18 rfl (RV.assign rfl) ?_; refine .dn ?_
        exact .cx () ⟨rfl, rfl, rfl, rfl, getA rfl (congrArg Value.bool (by rw [see2_is] at *; rw [Bool.eq_iff_iff]; simp only [decide_eq_true_eq, Bool.false_eq_true, false_iff, true_iff] at *; (try omega); (try exact ⟨fun h => ⟨by omega, .inr h⟩, fun h => h.2.resolve_left (by omega)⟩))), trivial⟩
    · refine .pa 3 rfl ?_; refine .pa 4 rfl ?_; refine .pa 5 rfl ?_; refine .pa 6 rfl ?_; refine .pa 7 rfl ?_; refine .pa 8 rfl ?_; refine .pa 9 rfl ?_; refine .pa 10 rfl ?_; refine .pa 11 rfl ?_; refine .pa 12 rfl ?_; refine .pa 13 rfl ?_; refine .pa 14 rfl ?_; refine .pa 15 rfl ?_; refine .pa 16 rfl ?_; refine .tk 17 rfl (RV.pickF rfl rfl) ?_; refine .tk 18 rfl (RV.assign rfl) ?_; refine .dn ?_
      exact .cx () ⟨rfl, rfl, rfl, rfl, getA rfl (congrArg Value.bool (by rw [see2_is] at *; rw [Bool.eq_iff_iff]; simp only [decide_eq_true_eq, Bool.false_eq_true, false_iff, true_iff] at *; (try omega); (try exact ⟨fun h => ⟨by omega, .inr h⟩, fun h => h.2.resolve_left (by omega)⟩))), trivial⟩
  refine .go ?_; repeat constructor
  refine ES.condD rfl (fun h36 => ?_) (fun h36 => ?_)
  · rw [if_pos h36]
    refine .go ?_; (repeat constructor); refine EL.buildS (reCells .eol (.slice none 0 0)).toArray rfl rfl rfl rfl rfl (by kernel_rfl) rfl ?_; refine .sa ?_; refine .go ?_; repeat constructor
    exact PX.ret rfl Tryz.results77 (.cons (.blkA rfl rfl rfl (by repeat constructor) rfl) .nil) (fun w hs => ⟨p00, rfl, (leafOwn .eol rfl hs).ent (.i (by repeat constructor))⟩)
  rw [if_neg h36]
  refine .go ?_; (repeat constructor); refine .mv ?_; refine .mv ?_; refine EL.callM1 rfl rfl rfl ent94 rfl (hg1 ⟨a + 1, e0, pl, gr, sh, sz⟩ rfl rfl) (by repeat constructor) ?_; refine .go ?_; (repeat constructor); refine .mv ?_; refine .ei ?_; refine .go ?_; repeat constructor
  refine ES.condD rfl (fun h46 => ?_) (fun h46 => ?_)
  · rw [if_pos (by omega)]
    refine .go ?_; (repeat constructor); refine EL.buildZA rfl rfl rfl rfl rfl ?_; refine EL.callP rfl rfl rfl ent95 rfl (rnot_c zeroS) ?_; refine EL.buildS (reCells (.byte (notS zeroS)) (.slice none 0 0)).toArray rfl rfl rfl rfl rfl (by kernel_rfl) rfl ?_; refine .sa ?_; refine .go ?_; repeat constructor
    exact PX.ret rfl Tryz.results77 (.cons (.blkA rfl rfl rfl (by repeat constructor) rfl) .nil) (fun w hs => ⟨p00, rfl, (leafOwn (.byte (notS zeroS)) rfl hs).ent (.i (by repeat constructor))⟩)
  · rw [if_neg (by omega)]
    refine .go ?_; (repeat constructor); refine .mv ?_; refine EL.callP rfl rfl rfl ent96 rfl (dbytes_c b) ?_; refine .sa ?_; refine .go ?_; repeat constructor
    exact PX.ret rfl Tryz.results77 (.cons (.blkA rfl rfl rfl (by repeat constructor) rfl) .nil) (fun w hs => ⟨p00, rfl, (leafOwn (.byte (ofS [b])) rfl hs).ent (.i (by repeat constructor))⟩)
end Go.Proofs.YthcbjbkheodejaaGreat
