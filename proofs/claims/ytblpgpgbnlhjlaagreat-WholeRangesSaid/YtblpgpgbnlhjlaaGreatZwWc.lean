/- Of all: WholeRanges: lines in, chosen, out. -/
import Derived.Test.YtblpgpgbnlhjlaaGreatZw7
namespace Go.Proofs.YtblpgpgbnlhjlaaGreat
open Go.ChangeShapes Go.WideShapes Go.ChangeAt
open Go Go.RowKit Sl
set_option maxRecDepth 100000
set_option maxHeartbeats 8000000
set_option linter.unusedVariables false
set_option linter.unusedSimpArgs false
attribute [local irreducible] ES EL PX wps
section
variable {C : Cx} {E : Env} {H : List HA} {d t t' ty : Nat} {pos : String} {af : Array Edge} {gd : Option (Nat × Bool)} {x y : Operand}
theorem RV.addTo {kd : IntKind} {m n r : Nat} (he : m + n = r) (hx : E.ev x = some (.int kd (m : Nat))) (hy : E.ev y = some (.int kd (n : Nat))) (hr : m + n ≤ kmax kd) : RunV C E H ⟨some d, .binOp .add t x y t', ty, pos, af, gd⟩ (.int kd (r : Nat)) := he ▸ RV.addK hx hy hr
theorem RV.minNatW {m n : Nat} {tys : Array TypeId} (hx : E.ev x = some (Iv (m : Nat))) (hy : E.ev y = some (Iv (n : Nat))) : RunV C E H ⟨some d, .call { callee := .builtin .min, args := #[x, y], argTypes := tys }, ty, pos, af, gd⟩ (Iv ((min m n : Nat) : Int)) := by
  have h : RunV C E H ⟨some d, .call { callee := .builtin .min, args := #[x, y], argTypes := tys }, ty, pos, af, gd⟩ (Iv (min (m : Int) (n : Int))) := RV.minI hx hy
  rwa [show min (m : Int) (n : Int) = ((min m n : Nat) : Int) by omega] at h
end
theorem slice_cap {H : Type} {enc : TypeId × Value → H} {P : Program} {w : World} {base : Nat} {sp : Nat → Bool} {held : Bool} {t e n cap : Nat} {ad : Option Addr} {d : DataW H} {ps : List MemPlace}
    (ht : P.underlying t = some (.slice e)) (hd : DataW.Trod enc P w base sp held t (.slice ad n cap) d ps) : n ≤ cap := by
  obtain ⟨fuel, hfu⟩ := hd
  rcases DataW.trod_slice ht hfu with ⟨h1, h2⟩ | ⟨a', len', cap', elems, rest, k, _, h1, h2, hb, hl, hm, hlen, hel', hsp, hns⟩
  · simp only [Value.cells, Array.toList, List.cons.injEq, Value.slice.injEq, and_true] at h1
    obtain ⟨rfl, rfl, rfl⟩ := h1
    exact Nat.le_refl _
  · simp only [Value.cells, Array.toList, List.cons.injEq, Value.slice.injEq, and_true] at h1
    obtain ⟨rfl, rfl, rfl⟩ := h1
    exact hl
def okL (x : List UInt8) : Bool := decide (10 ∉ x) && decide (x.length ≤ 1024)
theorem feed_yes {ks : List (List UInt8)} {x : List UInt8} (h : okL x = true) : feedM ⟨ks, 0, false⟩ x = (0, ⟨ks ++ [x], 0, false⟩) := by
  simp only [okL, Bool.and_eq_true, decide_eq_true_eq] at h
  have h2 : ¬ 1024 < x.length := by omega
  simp [feedM, h.1, h2]
theorem feed_no {ks : List (List UInt8)} {x : List UInt8} (h : ¬ okL x = true) : ∃ e : Int, e ≠ 0 ∧ feedM ⟨ks, 0, false⟩ x = (e, ⟨ks, 0, false⟩) := by
  simp only [okL, Bool.and_eq_true, decide_eq_true_eq] at h
  by_cases h1 : (10 : UInt8) ∈ x
  · exact ⟨19, by decide, by simp [feedM, h1]⟩
  · by_cases h2 : 1024 < x.length
    · exact ⟨15, by decide, by simp [feedM, h1, h2]⟩
    · exact absurd ⟨h1, by omega⟩ h
def keptW (xs : List (List UInt8)) (i : Nat) : List (List UInt8) := (xs.take i).filter okL
theorem keptW_yes {xs : List (List UInt8)} {i : Nat} (h : i < xs.length) (ho : okL xs[i] = true) : keptW xs (i + 1) = keptW xs i ++ [xs[i]] := by
  unfold keptW
  rw [List.take_succ_eq_append_getElem h, List.filter_append]
  simp [ho]
theorem keptW_no {xs : List (List UInt8)} {i : Nat} (h : i < xs.length) (ho : ¬ okL xs[i] = true) : keptW xs (i + 1) = keptW xs i := by
  unfold keptW
  rw [List.take_succ_eq_append_getElem h, List.filter_append]
  simp [ho]
theorem keptW_le (xs : List (List UInt8)) (i : Nat) : (keptW xs i).length ≤ i := by
  refine Nat.le_trans (List.length_filter_le _ _) ?_
  rw [List.length_take]; omega
theorem keptW_ok (xs : List (List UInt8)) (i : Nat) : ∀ x ∈ keptW xs i, x.length ≤ 1024 := fun x hx => by
  have := (List.mem_filter.1 hx).2
  simp only [okL, Bool.and_eq_true, decide_eq_true_eq] at this
  exact this.2
theorem sum_le (ks : List (List UInt8)) (h : ∀ x ∈ ks, x.length ≤ 1024) : (ks.map List.length).sum ≤ 1024 * ks.length := by
  induction ks with
  | nil => simp
  | cons a r ih =>
    have h1 := ih (fun x hx => h x (by simp [hx]))
    have h2 := h a (by simp)
    simp only [List.map_cons, List.sum_cons, List.length_cons]
    omega
theorem small_q {ks : List (List UInt8)} {k : Nat} {c : Bool} (h : ∀ x ∈ ks, x.length ≤ 1024) (hl : ks.length ≤ 40) (hk : k ≤ 40) : Small ⟨ks, k, c⟩ := by
  refine ⟨by show ks.length ≤ _; omega, ?_, by show k ≤ _; omega⟩
  have := sum_le ks h
  show (ks.map List.length).sum ≤ _
  omega
structure W2 where
  k : Nat
  qa : QA
  su : Bool
  sa : QA
  last : Option Mt
theorem next_at {ks : List (List UInt8)} {k : Nat} (h : k < ks.length) : nextM ⟨ks.drop k, k, true⟩ = (ks[k], true, ⟨ks.drop (k + 1), k + 1, true⟩) := by
  rw [List.drop_eq_getElem_cons h]
  simp [nextM, readyM]
theorem last_at {ks : List (List UInt8)} {k : Nat} (h : k < ks.length) : lastM ⟨ks.drop (k + 1), k + 1, true⟩ = decide (((k + 1 : Nat) : Int) = (ks.length : Nat)) := by
  rw [Bool.eq_iff_iff]
  simp [lastM]
  omega
theorem ranges_c (ad : Option Addr) (cap : Nat) (xs : List (List UInt8)) (a b : UInt8) (hcap : xs.length ≤ cap) (w : World) (hG : GR w w.heap.size) (hrd : Rd w w.heap.size ad (xs.map Sv)) : Pure Tryz.prog 6 #[.slice ad xs.length cap, Uv a, Uv b] (fun _ : Unit => .bool true) (fun _ => []) w := by
  obtain ⟨c1, hc1⟩ : ∃ c, c = 97 + a % 4 := ⟨_, rfl⟩
  obtain ⟨c2, hc2⟩ : ∃ c, c = 97 + b % 4 := ⟨_, rfl⟩
  have t1 : two4 c1 := hc1 ▸ two4_of a
  have t2 : two4 c2 := hc2 ▸ two4_of b
  have n1 : 97 + a.toNat % 4 = c1.toNat := by rw [hc1, UInt8.toNat_add, UInt8.toNat_mod]; show _ = (97 + a.toNat % 4) % 256; omega
  have n2 : 97 + b.toNat % 4 = c2.toNat := by rw [hc2, UInt8.toNat_add, UInt8.toNat_mod]; show _ = (97 + b.toNat % 4) % 256; omega
  clear hc1 hc2
  have hpne := t1.ne t2
  refine calls_of_ES TB Tryz.func6 rfl _ Tryz.ntmps6 rfl (Sat.start w) ?_
  refine .go ?_; repeat constructor
  refine EL.assign rfl rfl rfl ?_
  refine .go ?_; repeat constructor
  (refine EL.callX rfl rfl rfl ent20 rfl qnew_c ?_; intro gq)
  refine EL.assign rfl rfl rfl ?_
  refine .go ?_; repeat constructor
  (refine EL.callX rfl rfl rfl ent21 rfl storeNew_c ?_; rintro ⟨gs, gm⟩)
  refine EL.move rfl rfl rfl ?_
  refine EL.extract rfl rfl rfl rfl ?_
  refine EL.extract rfl rfl rfl rfl ?_
  refine EL.assign rfl rfl rfl ?_
  refine EL.assign rfl rfl rfl ?_
  refine .go ?_; repeat constructor
  refine ES.draw (X := Unit) (fun _ => [(0, .slice ad xs.length cap), (7, Pv gq 0), (8, Pv gs 0), (9, Iv 0), (10, Sv [c1]), (11, Sv [c2])]) (fun _ => HQ gq none 0 ⟨[], 0, false⟩ ++ SRB gs gm false none 0 [] 0) (HQ gq none 0 ⟨[], 0, false⟩ ++ SRB gs gm false none 0 [] 0) mixed (.i (by repeat constructor)) ?_ (fun _ => ?_)
  · refine ED.take 0 rfl (by decide +kernel) CutX.no_panic (by decide +kernel) rfl rfl rfl (RV.move rfl) ?_
    refine ED.take 1 rfl (by decide +kernel) CutX.no_panic (by decide +kernel) rfl rfl rfl (RV.remN (n := 4) rfl rfl (by decide)) ?_
    refine ED.take 2 rfl (by decide +kernel) CutX.no_panic (by decide +kernel) rfl rfl rfl (RV.addTo (m := 97) n1 rfl rfl (by simp only [kmax]; omega)) ?_
    refine ED.take 5 rfl (by decide +kernel) CutX.no_panic (by decide +kernel) rfl rfl rfl (RV.move rfl) ?_
    refine ED.take 6 rfl (by decide +kernel) CutX.no_panic (by decide +kernel) rfl rfl rfl (RV.remN (n := 4) rfl rfl (by decide)) ?_
    refine ED.take 7 rfl (by decide +kernel) CutX.no_panic (by decide +kernel) rfl rfl rfl (RV.addTo (m := 97) n2 rfl rfl (by simp only [kmax]; omega)) ?_
    refine ED.fork 3 [8] (by decide +kernel) ⟨⟨_, rfl, ?_⟩, ⟨_, rfl, ?_⟩, trivial⟩
    · (refine EL.buildSlice1 rfl rfl rfl rfl rfl rfl rfl rfl rfl rfl ?_; intro b33)
      refine ED.next (.i (by repeat constructor)) ?_
      refine ED.fork 4 [8] (by decide +kernel) ⟨⟨_, rfl, ?_⟩, ⟨_, rfl, ?_⟩, trivial⟩
      · (refine EL.bytesS (bs := [c1]) rfl rfl rfl rfl rfl rfl rfl rfl rfl (by repeat constructor) ?_)
        refine ED.next (.i (by repeat constructor)) ?_
        refine ED.take 10 rfl (by decide +kernel) CutX.no_panic (by decide +kernel) rfl rfl rfl (RV.assign rfl) ?_
        refine ED.loud 8 rfl (by decide +kernel) ?_
        (refine EL.buildSlice1 rfl rfl rfl rfl rfl rfl rfl rfl rfl rfl ?_; intro b38)
        refine ED.next (.i (by repeat constructor)) ?_
        refine ED.loud 9 rfl (by decide +kernel) ?_
        (refine EL.bytesS (bs := [c2]) rfl rfl rfl rfl rfl rfl rfl rfl rfl (by repeat constructor) ?_)
        refine ED.next (.i (by repeat constructor)) ?_
        refine ED.take 11 rfl (by decide +kernel) CutX.no_panic (by decide +kernel) rfl rfl rfl (RV.assign rfl) ?_
        refine ED.done (by decide +kernel) ?_
        exact PX.cutX () ⟨rfl, rfl, rfl, rfl, rfl, rfl, trivial⟩ (.i (by repeat constructor))
      · (refine EL.buildSlice1 rfl rfl rfl rfl rfl rfl rfl rfl rfl rfl ?_; intro b38)
        refine ED.next (.i (by repeat constructor)) ?_
        refine ED.fork 4 [9] (by decide +kernel) ⟨⟨_, rfl, ?_⟩, ⟨_, rfl, ?_⟩, trivial⟩
        · (refine EL.bytesS (bs := [c1]) rfl rfl rfl rfl rfl rfl rfl rfl rfl (by repeat constructor) ?_)
          refine ED.next (.i (by repeat constructor)) ?_
          refine ED.take 10 rfl (by decide +kernel) CutX.no_panic (by decide +kernel) rfl rfl rfl (RV.assign rfl) ?_
          refine ED.loud 9 rfl (by decide +kernel) ?_
          (refine EL.bytesS (bs := [c2]) rfl rfl rfl rfl rfl rfl rfl rfl rfl (by repeat constructor) ?_)
          refine ED.next (.i (by repeat constructor)) ?_
          refine ED.take 11 rfl (by decide +kernel) CutX.no_panic (by decide +kernel) rfl rfl rfl (RV.assign rfl) ?_
          refine ED.done (by decide +kernel) ?_
          exact PX.cutX () ⟨rfl, rfl, rfl, rfl, rfl, rfl, trivial⟩ (.i (by repeat constructor))
        · (refine EL.bytesS (bs := [c2]) rfl rfl rfl rfl rfl rfl rfl rfl rfl (by repeat constructor) ?_)
          refine ED.next (.i (by repeat constructor)) ?_
          refine ED.loud 4 rfl (by decide +kernel) ?_
          (refine EL.bytesS (bs := [c1]) rfl rfl rfl rfl rfl rfl rfl rfl rfl (by repeat constructor) ?_)
          refine ED.next (.i (by repeat constructor)) ?_
          refine ED.take 10 rfl (by decide +kernel) CutX.no_panic (by decide +kernel) rfl rfl rfl (RV.assign rfl) ?_
          refine ED.take 11 rfl (by decide +kernel) CutX.no_panic (by decide +kernel) rfl rfl rfl (RV.assign rfl) ?_
          refine ED.done (by decide +kernel) ?_
          exact PX.cutX () ⟨rfl, rfl, rfl, rfl, rfl, rfl, trivial⟩ (.i (by repeat constructor))
    · (refine EL.buildSlice1 rfl rfl rfl rfl rfl rfl rfl rfl rfl rfl ?_; intro b38)
      refine ED.next (.i (by repeat constructor)) ?_
      refine ED.fork 3 [9] (by decide +kernel) ⟨⟨_, rfl, ?_⟩, ⟨_, rfl, ?_⟩, trivial⟩
      · (refine EL.buildSlice1 rfl rfl rfl rfl rfl rfl rfl rfl rfl rfl ?_; intro b33)
        refine ED.next (.i (by repeat constructor)) ?_
        refine ED.fork 4 [9] (by decide +kernel) ⟨⟨_, rfl, ?_⟩, ⟨_, rfl, ?_⟩, trivial⟩
        · (refine EL.bytesS (bs := [c1]) rfl rfl rfl rfl rfl rfl rfl rfl rfl (by repeat constructor) ?_)
          refine ED.next (.i (by repeat constructor)) ?_
          refine ED.take 10 rfl (by decide +kernel) CutX.no_panic (by decide +kernel) rfl rfl rfl (RV.assign rfl) ?_
          refine ED.loud 9 rfl (by decide +kernel) ?_
          (refine EL.bytesS (bs := [c2]) rfl rfl rfl rfl rfl rfl rfl rfl rfl (by repeat constructor) ?_)
          refine ED.next (.i (by repeat constructor)) ?_
          refine ED.take 11 rfl (by decide +kernel) CutX.no_panic (by decide +kernel) rfl rfl rfl (RV.assign rfl) ?_
          refine ED.done (by decide +kernel) ?_
          exact PX.cutX () ⟨rfl, rfl, rfl, rfl, rfl, rfl, trivial⟩ (.i (by repeat constructor))
        · (refine EL.bytesS (bs := [c2]) rfl rfl rfl rfl rfl rfl rfl rfl rfl (by repeat constructor) ?_)
          refine ED.next (.i (by repeat constructor)) ?_
          refine ED.loud 4 rfl (by decide +kernel) ?_
          (refine EL.bytesS (bs := [c1]) rfl rfl rfl rfl rfl rfl rfl rfl rfl (by repeat constructor) ?_)
          refine ED.next (.i (by repeat constructor)) ?_
          refine ED.take 10 rfl (by decide +kernel) CutX.no_panic (by decide +kernel) rfl rfl rfl (RV.assign rfl) ?_
          refine ED.take 11 rfl (by decide +kernel) CutX.no_panic (by decide +kernel) rfl rfl rfl (RV.assign rfl) ?_
          refine ED.done (by decide +kernel) ?_
          exact PX.cutX () ⟨rfl, rfl, rfl, rfl, rfl, rfl, trivial⟩ (.i (by repeat constructor))
      · (refine EL.bytesS (bs := [c2]) rfl rfl rfl rfl rfl rfl rfl rfl rfl (by repeat constructor) ?_)
        refine ED.next (.i (by repeat constructor)) ?_
        refine ED.loud 3 rfl (by decide +kernel) ?_
        (refine EL.buildSlice1 rfl rfl rfl rfl rfl rfl rfl rfl rfl rfl ?_; intro b33)
        refine ED.next (.i (by repeat constructor)) ?_
        refine ED.loud 4 rfl (by decide +kernel) ?_
        (refine EL.bytesS (bs := [c1]) rfl rfl rfl rfl rfl rfl rfl rfl rfl (by repeat constructor) ?_)
        refine ED.next (.i (by repeat constructor)) ?_
        refine ED.take 10 rfl (by decide +kernel) CutX.no_panic (by decide +kernel) rfl rfl rfl (RV.assign rfl) ?_
        refine ED.take 11 rfl (by decide +kernel) CutX.no_panic (by decide +kernel) rfl rfl rfl (RV.assign rfl) ?_
        refine ED.done (by decide +kernel) ?_
        exact PX.cutX () ⟨rfl, rfl, rfl, rfl, rfl, rfl, trivial⟩ (.i (by repeat constructor))
  refine .go ?_; repeat constructor
  refine EL.move rfl rfl rfl ?_
  refine EL.buildS (adC (mtA [c1])).toArray rfl rfl rfl rfl rfl (by kernel_rfl) rfl ?_
  refine EL.move rfl rfl rfl ?_
  refine EL.buildS (adC (mtA [c2])).toArray rfl rfl rfl rfl rfl (by kernel_rfl) rfl ?_
  refine EL.buildS (rwC (rwW c1 c2)).toArray rfl rfl rfl rfl rfl (by kernel_rfl) rfl ?_
  (refine EL.buildSliceC (rwsC [rwW c1 c2]).toArray rfl rfl rfl rfl rfl rfl (by kernel_rfl) rfl rfl rfl rfl ?_; intro b46)
  (refine EL.callXw rfl rfl rfl ent22 rfl (fun w hs => pickNew_c [rwW c1 c2] (by intro r hr; rw [List.mem_singleton] at hr; subst hr; exact ⟨by simp, by simp⟩) (some ⟨b46, 0, none⟩) 1 w (GR.sat hG hs) (Rd.row (n := 1) (cap := 1) (sz := 7) hs (by repeat constructor) (by decide))) ?_; rintro (hbad | ⟨hok, gp, z, hz⟩); exact absurd hpne hbad)
  refine EL.move rfl rfl rfl ?_
  refine EL.extract rfl rfl rfl rfl ?_
  refine EL.extract rfl rfl rfl rfl ?_
  refine EL.assign rfl rfl rfl ?_
  refine EL.assign rfl rfl rfl ?_
  refine .go ?_; repeat constructor
  refine .go ?_; repeat constructor
  refine EL.move rfl rfl rfl ?_
  refine EL.eqlPn rfl rfl rfl rfl rfl rfl ?_
  refine EL.move rfl rfl rfl ?_
  refine EL.rew (d := 52) (v' := .bool false) rfl (by first | rfl | (decide) | (simp)) ?_
  refine EL.move rfl rfl rfl ?_
  refine EL.eqlPn rfl rfl rfl rfl rfl rfl ?_
  refine EL.pickF rfl rfl rfl rfl ?_
  refine EL.move rfl rfl rfl ?_
  refine EL.rew (d := 56) (v' := .bool false) rfl (by first | rfl | (decide) | (simp)) ?_
  refine EL.move rfl rfl rfl ?_
  refine EL.eqlPn rfl rfl rfl rfl rfl rfl ?_
  refine EL.pickF rfl rfl rfl rfl ?_
  refine EL.move rfl rfl rfl ?_
  refine EL.rew (d := 60) (v' := .bool false) rfl (by first | rfl | (decide) | (simp)) ?_
  refine EL.move rfl rfl rfl ?_
  refine EL.neqI rfl rfl rfl rfl ?_
  refine EL.pickF rfl rfl rfl rfl ?_
  refine EL.move rfl rfl rfl ?_
  refine EL.rew (d := 64) (v' := .bool false) rfl (by first | rfl | (decide) | (simp)) ?_
  refine EL.move rfl rfl rfl ?_
  refine EL.neqI rfl rfl rfl rfl ?_
  refine EL.pickF rfl rfl rfl rfl ?_
  refine .go ?_; repeat constructor
  refine ES.condF rfl ?_
  refine ES.know (P := ∃ rg, z.ad = some ⟨rg, 0, none⟩) (fun w hs => (row_form (hs.all (CRow z.ad z.cap z.cs) (by simp [NwX.H]))).2.2.2.2 (by obtain ⟨ga, gb, e, _⟩ := hz.two t1 t2; rw [e]; exact Nat.zero_lt_succ 0)) ?_
  rintro ⟨rg, hrg⟩
  obtain ⟨ga, gb, hcs, hma, hmb, hms⟩ := hz.two t1 t2
  obtain ⟨pad, pcap, cs, ms⟩ := z
  dsimp only at hrg hcs hma hmb hms
  subst hrg hcs
  have hans : ∀ s : List UInt8, s.length ≤ 1024 → AnsAll ms s (ansT s) := fun s hs q hq => by
    rcases hms q hq with e | e <;> rw [e]
    · exact ans_two t1 hs
    · exact ans_two t2 hs
  refine .go ?_; repeat constructor
  refine EL.assign rfl rfl rfl ?_
  refine .go ?_; repeat constructor
  refine EL.assign rfl rfl rfl ?_
  refine EL.assign rfl rfl rfl ?_
  refine .go ?_; repeat constructor
  refine EL.move rfl rfl rfl ?_
  refine EL.move rfl rfl rfl ?_
  refine EL.lenL rfl rfl rfl rfl rfl ?_
  refine EL.ofRV (RV.minNatW (n := 40) rfl rfl) rfl rfl rfl (by intro c h; cases h) ?_
  refine EL.ofRV (RV.sliceHi (hi := min xs.length 40) rfl rfl rfl rfl rfl (by omega)) rfl rfl rfl (by intro c h; cases h) ?_
  refine EL.lenL rfl rfl rfl rfl rfl ?_
  refine EL.move rfl rfl rfl ?_
  refine .go ?_; repeat constructor
  refine ES.loop (σ := Nat × QA) (fun x => x.1 ≤ min xs.length 40) (fun x => [(7, Pv gq 0), (8, Pv gs 0), (10, Sv [c1]), (11, Sv [c2]), (12, Pv gp 0), (14, Iv ((keptW xs x.1).length : Nat)), (15, Sv (foldW c1 c2 (keptW xs x.1)).1), (16, .bool (foldW c1 c2 (keptW xs x.1)).2), (72, .slice ad (min xs.length 40) cap), (73, Iv (min xs.length 40 : Nat)), (74, Iv (x.1 : Nat))])
    (fun x => HQ gq x.2.1 x.2.2 ⟨keptW xs x.1, 0, false⟩ ++ SRB gs gm false none 0 [] 0 ++ PKA gp rg pcap [chW c1 c2 ga gb false] none ms) (fun x => min xs.length 40 - x.1) (0, none, 0) (Nat.zero_le _) ⟨rfl, rfl, rfl, rfl, rfl, rfl, rfl, rfl, rfl, rfl, rfl, trivial⟩ (.i (by repeat constructor)) ?_
  · rintro ⟨i, qa, qc⟩ hi
    dsimp only at hi ⊢
    have hok := keptW_ok xs i
    have hkl := keptW_le xs i
    have hwl := foldW_len c1 c2 (keptW xs i) hok
    refine .go ?_; repeat constructor
    refine EL.lss rfl rfl rfl rfl ?_
    refine .go ?_; repeat constructor
    refine ES.condD rfl (fun hlt => ?_) (fun hge => ?_)
    · have hlt' : i < xs.length := by omega
      have hget : (xs.map Sv)[i]? = some (Sv xs[i]) := by simp [List.getElem?_eq_getElem hlt']
      have hrd' := hrd
      obtain ⟨ga', oa, rfl, _⟩ := hrd' (fun e => by rw [e] at hget; simp at hget)
      have fc := feed_c gq qa qc ⟨keptW xs i, 0, false⟩ xs[i] (small_q hok (by omega) (Nat.zero_le _))
      by_cases hokx : okL xs[i] = true
      · have hk := keptW_yes hlt' hokx
        rw [feed_yes hokx] at fc
        have hxl : xs[i].length ≤ 1024 := keptW_ok xs (i + 1) _ (by rw [hk]; simp)
        have hst : foldW c1 c2 (keptW xs (i + 1)) = stepW c1 c2 (foldW c1 c2 (keptW xs i)) xs[i] := by rw [hk, foldW_snoc]
        have hkl2 : (keptW xs (i + 1)).length = (keptW xs i).length + 1 := by rw [hk]; simp
        refine .go ?_; repeat constructor
        refine EL.indexAddrLo rfl rfl rfl rfl rfl rfl rfl rfl (by omega) ?_
        refine EL.loadOld rfl rfl rfl rfl rfl hrd hget ?_
        refine EL.assign rfl rfl rfl ?_
        refine .go ?_; repeat constructor
        refine EL.move rfl rfl rfl ?_
        refine EL.move rfl rfl rfl ?_
        (refine EL.callM rfl rfl rfl ent23 rfl fc (by repeat constructor) ?_; rintro ⟨qa2, qc2⟩)
        refine EL.neqI rfl rfl rfl rfl ?_
        refine .go ?_; repeat constructor
        refine ES.condF rfl ?_
        rw [← hk]
        refine .go ?_; repeat constructor
        refine EL.move rfl rfl rfl ?_
        refine EL.add1 rfl rfl rfl rfl (by omega) ?_
        refine EL.assign rfl rfl rfl ?_
        refine .go ?_; repeat constructor
        refine EL.move rfl rfl rfl ?_
        refine EL.assign rfl rfl rfl ?_
        refine .go ?_; repeat constructor
        refine ES.cond rfl (fun hon => ?_) (fun hon => ?_)
        · have hs2 : stepW c1 c2 (foldW c1 c2 (keptW xs i)) xs[i] = ((foldW c1 c2 (keptW xs i)).1 ++ (xs[i] ++ [10]), !decide (c2 ∈ xs[i])) := by rw [stepW, if_pos hon]
          refine .go ?_; repeat constructor
          refine EL.move rfl rfl rfl ?_
          refine EL.move rfl rfl rfl ?_
          refine EL.cat rfl rfl rfl rfl (by first | omega | (simp only [List.length_append, List.length_cons, List.length_nil]; omega)) ?_
          refine EL.cat rfl rfl rfl rfl (by first | omega | (simp only [List.length_append, List.length_cons, List.length_nil]; omega)) ?_
          refine EL.assign rfl rfl rfl ?_
          refine .go ?_; repeat constructor
          refine EL.move rfl rfl rfl ?_
          refine EL.move rfl rfl rfl ?_
          refine EL.indexSN (i := 0) rfl rfl rfl rfl rfl rfl (Nat.zero_lt_succ 0) ?_
          refine EL.callP rfl rfl rfl ent24 rfl (topHas_c xs[i] c2 hxl) ?_
          refine EL.not rfl rfl rfl ?_
          refine EL.assign rfl rfl rfl ?_
          refine .go ?_; repeat constructor
          refine EL.add1 rfl rfl rfl rfl (by omega) ?_
          refine EL.move rfl rfl rfl ?_
          refine .go ?_; repeat constructor
          exact PX.loop (i + 1, qa2, qc2) (by omega) (by show min xs.length 40 - (i + 1) < min xs.length 40 - i; omega) ⟨rfl, rfl, rfl, rfl, rfl, getA rfl (by rw [hkl2]), getA rfl (by rw [hst, hs2]), getA rfl (by rw [hst, hs2]), rfl, rfl, rfl, trivial⟩ (.i (by repeat constructor))
        · refine .go ?_; repeat constructor
          refine EL.move rfl rfl rfl ?_
          refine EL.move rfl rfl rfl ?_
          refine EL.indexSN (i := 0) rfl rfl rfl rfl rfl rfl (Nat.zero_lt_succ 0) ?_
          refine EL.callP rfl rfl rfl ent24 rfl (topHas_c xs[i] c1 hxl) ?_
          refine EL.assign rfl rfl rfl ?_
          refine .go ?_; repeat constructor
          refine ES.condD rfl (fun hin => ?_) (fun hin => ?_)
          · have hs2 : stepW c1 c2 (foldW c1 c2 (keptW xs i)) xs[i] = ((foldW c1 c2 (keptW xs i)).1 ++ (xs[i] ++ [10]), true) := by rw [stepW, if_neg (by rw [hon]; simp), if_pos hin]
            refine .go ?_; repeat constructor
            refine EL.move rfl rfl rfl ?_
            refine EL.move rfl rfl rfl ?_
            refine EL.cat rfl rfl rfl rfl (by first | omega | (simp only [List.length_append, List.length_cons, List.length_nil]; omega)) ?_
            refine EL.cat rfl rfl rfl rfl (by first | omega | (simp only [List.length_append, List.length_cons, List.length_nil]; omega)) ?_
            refine EL.assign rfl rfl rfl ?_
            refine .go ?_; repeat constructor
            refine EL.assign rfl rfl rfl ?_
            refine .go ?_; repeat constructor
            refine EL.add1 rfl rfl rfl rfl (by omega) ?_
            refine EL.move rfl rfl rfl ?_
            refine .go ?_; repeat constructor
            exact PX.loop (i + 1, qa2, qc2) (by omega) (by show min xs.length 40 - (i + 1) < min xs.length 40 - i; omega) ⟨rfl, rfl, rfl, rfl, rfl, getA rfl (by rw [hkl2]), getA rfl (by rw [hst, hs2]), getA rfl (by rw [hst, hs2]), rfl, rfl, rfl, trivial⟩ (.i (by repeat constructor))
          · have hs2 : stepW c1 c2 (foldW c1 c2 (keptW xs i)) xs[i] = foldW c1 c2 (keptW xs i) := by rw [stepW, if_neg (by rw [hon]; simp), if_neg hin]
            refine .go ?_; repeat constructor
            refine EL.add1 rfl rfl rfl rfl (by omega) ?_
            refine EL.move rfl rfl rfl ?_
            refine .go ?_; repeat constructor
            exact PX.loop (i + 1, qa2, qc2) (by omega) (by show min xs.length 40 - (i + 1) < min xs.length 40 - i; omega) ⟨rfl, rfl, rfl, rfl, rfl, getA rfl (by rw [hkl2]), getA rfl (by rw [hst, hs2]), getA rfl (by rw [hst, hs2]), rfl, rfl, rfl, trivial⟩ (.i (by repeat constructor))
      · have hk := keptW_no hlt' hokx
        obtain ⟨e, he, hfe⟩ := feed_no (ks := keptW xs i) hokx
        rw [hfe] at fc
        refine .go ?_; repeat constructor
        refine EL.indexAddrLo rfl rfl rfl rfl rfl rfl rfl rfl (by omega) ?_
        refine EL.loadOld rfl rfl rfl rfl rfl hrd hget ?_
        refine EL.assign rfl rfl rfl ?_
        refine .go ?_; repeat constructor
        refine EL.move rfl rfl rfl ?_
        refine EL.move rfl rfl rfl ?_
        (refine EL.callM rfl rfl rfl ent23 rfl fc (by repeat constructor) ?_; rintro ⟨qa2, qc2⟩)
        refine EL.neqI rfl rfl rfl rfl ?_
        refine .go ?_; repeat constructor
        refine ES.condN rfl (fun _ => ?_) (fun h0 => absurd h0 he)
        rw [← hk]
        refine .go ?_; repeat constructor
        refine EL.add1 rfl rfl rfl rfl (by omega) ?_
        refine EL.move rfl rfl rfl ?_
        refine .go ?_; repeat constructor
        exact PX.loop (i + 1, qa2, qc2) (by omega) (by show min xs.length 40 - (i + 1) < min xs.length 40 - i; omega) ⟨rfl, rfl, rfl, rfl, rfl, getA rfl (by rw [hk]), getA rfl (by rw [hk]), getA rfl (by rw [hk]), rfl, rfl, rfl, trivial⟩ (.i (by repeat constructor))
    · obtain ⟨ks, hks⟩ : ∃ ks, ks = keptW xs i := ⟨_, rfl⟩
      rw [← hks] at hok hkl hwl ⊢
      have hn40 : ks.length ≤ 40 := by omega
      clear hks hge hi
      refine .go ?_; repeat constructor
      refine EL.move rfl rfl rfl ?_
      refine EL.callM1 rfl rfl rfl ent25 rfl (close_cQ gq qa qc ⟨ks, 0, false⟩) (by repeat constructor) ?_
      refine EL.neqI rfl rfl rfl rfl ?_
      refine .go ?_; repeat constructor
      refine ES.condF rfl ?_
      refine .go ?_; repeat constructor
      refine EL.assign rfl rfl rfl ?_
      refine .go ?_; repeat constructor
      refine ES.loop (σ := W2) (fun x => x.k ≤ ks.length ∧ (foldW c1 c2 (ks.take x.k)).1.length ≤ 32768 ∧ ∀ q, x.last = some q → q ∈ ms) (fun x => [(7, Pv gq 0), (8, Pv gs 0), (12, Pv gp 0), (14, Iv (ks.length : Nat)), (15, Sv (foldW c1 c2 ks).1), (19, Iv (x.k + 1 : Nat))])
        (fun x => HQ gq x.qa.1 x.qa.2 ⟨ks.drop x.k, x.k, true⟩ ++ SRB gs gm x.su x.sa.1 x.sa.2 (foldW c1 c2 (ks.take x.k)).1 (foldW c1 c2 (ks.take x.k)).1.length ++ PKA gp rg pcap [chW c1 c2 ga gb (foldW c1 c2 (ks.take x.k)).2] x.last ms) (fun x => ks.length - x.k) ⟨0, (qa, qc), false, (none, 0), none⟩ ⟨Nat.zero_le _, by simp [foldW], fun q h => by cases h⟩ ⟨rfl, rfl, rfl, rfl, rfl, rfl, trivial⟩ (.i (by repeat constructor)) ?_
      rintro ⟨k, ⟨qa, qc⟩, su, ⟨sa, sc⟩, last⟩ ⟨hk, hb, hlm⟩
      dsimp only at hk hb hlm ⊢
      have hmono := foldW_mono c1 c2 ks (k + 1)
      refine .go ?_; repeat constructor
      refine EL.move rfl rfl rfl ?_
      refine EL.move rfl rfl rfl ?_
      refine EL.leq rfl rfl rfl rfl ?_
      refine .go ?_; repeat constructor
      refine ES.condD rfl (fun hlt => ?_) (fun hge => ?_)
      rotate_left
      · have htk : ks.take k = ks := List.take_of_length_le (by omega)
        rw [htk] at hb ⊢
        refine .go ?_; repeat constructor
        refine EL.move rfl rfl rfl ?_
        refine EL.callM1 rfl rfl rfl ent31 rfl (out_c gs gm su sa sc (foldW c1 c2 ks).1 (foldW c1 c2 ks).1.length (by omega)) (by repeat constructor) ?_
        refine EL.move rfl rfl rfl ?_
        refine EL.eqlS rfl rfl rfl rfl ?_
        refine EL.move rfl rfl rfl ?_
        refine EL.rew (d := 164) (v' := .bool true) rfl (by rw [decide_eq_true rfl]) ?_
        refine EL.move rfl rfl rfl ?_
        refine EL.callM1 rfl rfl rfl ent32 rfl (written_c gs gm su (.slice sa (foldW c1 c2 ks).1.length sc) (foldW c1 c2 ks).1.length) (by repeat constructor) ?_
        refine EL.move rfl rfl rfl ?_
        refine EL.lenS rfl rfl rfl rfl rfl ?_
        refine EL.eqlI rfl rfl rfl rfl ?_
        refine EL.pickT rfl rfl rfl rfl ?_
        refine EL.assign rfl rfl rfl ?_
        refine .go ?_; repeat constructor
        exact PX.ret rfl Tryz.results6 (.cons (.tmp (getA rfl (congrArg Value.bool (decide_eq_true rfl)))) .nil) (fun w hs => ⟨(), rfl, hs.ent (.nil _)⟩)
      have hlt' : k < ks.length := by omega
      have hxl : ks[k].length ≤ 1024 := hok _ (List.getElem_mem hlt')
      have hst := foldW_take c1 c2 ks k hlt'
      have nc := next_c gq qa qc ⟨ks.drop k, k, true⟩ (small_q (fun x hx => hok x (List.mem_of_mem_drop hx)) (by rw [List.length_drop]; omega) (by omega))
      rw [next_at hlt'] at nc
      obtain ⟨x, hx⟩ : ∃ x, x = ks[k] := ⟨_, rfl⟩
      rw [← hx] at nc hxl hst
      rw [hst] at hmono
      obtain ⟨st, hst0⟩ : ∃ st, st = foldW c1 c2 (ks.take k) := ⟨_, rfl⟩
      rw [← hst0] at hst hmono hb ⊢
      obtain ⟨last', off, hl', hask⟩ := ask_two c1 c2 ga gb st last ⟨((k + 1 : Nat) : Int), lastM ⟨ks.drop (k + 1), k + 1, true⟩, x⟩
      dsimp only at hask
      have k1 := ask_e gp rg pcap [chW c1 c2 ga gb st.2] [chW c1 c2 ga gb (stepW c1 c2 st x).2] 0 (chW c1 c2 ga gb st.2) last last' ms ⟨((k + 1 : Nat) : Int), lastM ⟨ks.drop (k + 1), k + 1, true⟩, x⟩ (ansT x) (hans x hxl) (stepW c1 c2 st x).2 (st.2 || decide (c1 ∈ x)) off 0 rfl hlm (fun q h => by cases h; exact hma) (fun q h => by cases h; exact hmb) hask rfl rfl w w.heap.size hG
      have hl2 : ∀ q, last' = some q → q ∈ ms := fun q h => by
        rcases hl' with e | e <;> rw [e] at h <;> cases h
        · exact hma
        · exact hmb
      refine .go ?_; repeat constructor
      refine EL.move rfl rfl rfl ?_
      (refine EL.callM rfl rfl rfl ent26 rfl nc (by repeat constructor) ?_; rintro ⟨qa2, qc2⟩)
      refine EL.move rfl rfl rfl ?_
      refine EL.extract rfl rfl rfl rfl ?_
      refine EL.extract rfl rfl rfl rfl ?_
      refine EL.assign rfl rfl rfl ?_
      refine EL.assign rfl rfl rfl ?_
      refine .go ?_; repeat constructor
      refine .go ?_; repeat constructor
      refine EL.move rfl rfl rfl ?_
      refine EL.move rfl rfl rfl ?_
      refine EL.callM1 rfl rfl rfl ent28 rfl (number_cQ gq qa2 qc2 ⟨ks.drop (k + 1), k + 1, true⟩) (by repeat constructor) ?_
      refine EL.move rfl rfl rfl ?_
      refine EL.callM1 rfl rfl rfl ent29 rfl (last_c gq qa2 qc2 ⟨ks.drop (k + 1), k + 1, true⟩) (by repeat constructor) ?_
      refine EL.move rfl rfl rfl ?_
      (refine EL.callMw rfl rfl rfl ent27 rfl k1 (by repeat constructor) ?_; intro u1)
      refine EL.move rfl rfl rfl ?_
      refine EL.extract rfl rfl rfl rfl ?_
      refine EL.extract rfl rfl rfl rfl ?_
      refine EL.extract rfl rfl rfl rfl ?_
      refine EL.assign rfl rfl rfl ?_
      refine EL.assign rfl rfl rfl ?_
      refine EL.assign rfl rfl rfl ?_
      refine .go ?_; repeat constructor
      refine .go ?_; repeat constructor
      refine EL.move rfl rfl rfl ?_
      refine EL.not rfl rfl rfl ?_
      refine EL.move rfl rfl rfl ?_
      refine EL.rew (d := 131) (v' := .bool false) rfl (by first | rfl | (decide) | (simp)) ?_
      refine EL.move rfl rfl rfl ?_
      refine EL.neqI rfl rfl rfl rfl ?_
      refine EL.pickF rfl rfl rfl rfl ?_
      refine EL.move rfl rfl rfl ?_
      refine EL.rew (d := 135) (v' := .bool false) rfl (by first | rfl | (decide) | (simp)) ?_
      refine EL.move rfl rfl rfl ?_
      refine EL.callM1 rfl rfl rfl ent28 rfl (number_cQ gq qa2 qc2 ⟨ks.drop (k + 1), k + 1, true⟩) (by repeat constructor) ?_
      refine EL.move rfl rfl rfl ?_
      refine EL.neqI rfl rfl rfl rfl ?_
      refine EL.pickF rfl rfl rfl rfl ?_
      refine EL.move rfl rfl rfl ?_
      refine EL.rew (d := 141) (v' := .bool false) rfl (by first | rfl | (decide) | (simp)) ?_
      refine EL.move rfl rfl rfl ?_
      (refine EL.callM1 rfl rfl rfl ent29 rfl (last_c gq qa2 qc2 ⟨ks.drop (k + 1), k + 1, true⟩) (by repeat constructor) ?_; rw [last_at hlt'])
      refine EL.move rfl rfl rfl ?_
      refine EL.move rfl rfl rfl ?_
      refine EL.eqlI rfl rfl rfl rfl ?_
      refine EL.neqB rfl rfl rfl rfl rfl rfl ?_
      refine EL.pickF rfl rfl rfl rfl ?_
      refine .go ?_; repeat constructor
      refine ES.condF (congrArg (fun b => some (Value.bool b)) (by simp)) ?_
      cases hy : (st.2 || decide (c1 ∈ x)) with
      | false =>
        rw [Bool.or_eq_false_iff, decide_eq_false_iff_not] at hy
        have hs2 : stepW c1 c2 st x = st := by rw [stepW, if_neg (by rw [hy.1]; simp), if_neg hy.2]
        refine .go ?_; repeat constructor
        refine EL.move rfl rfl rfl ?_
        refine EL.move rfl rfl rfl ?_
        refine EL.rew (d := 150) (v' := .bool false) rfl (by first | rfl | (decide) | (simp)) ?_
        refine EL.pass rfl rfl rfl ?_
        refine EL.pass rfl rfl rfl ?_
        refine EL.pass rfl rfl rfl ?_
        refine EL.pass rfl rfl rfl ?_
        refine EL.pass rfl rfl rfl ?_
        refine EL.pickF rfl rfl rfl rfl ?_
        refine .go ?_; repeat constructor
        refine ES.condF rfl ?_
        refine .go ?_; repeat constructor
        refine EL.move rfl rfl rfl ?_
        refine EL.add1 rfl rfl rfl rfl (by omega) ?_
        refine EL.assign rfl rfl rfl ?_
        refine .go ?_; repeat constructor
        refine PX.loop ⟨k + 1, (qa2, qc2), su, (sa, sc), last'⟩ ⟨hlt', ?_, hl2⟩ (by show ks.length - (k + 1) < ks.length - k; omega) ⟨rfl, rfl, rfl, rfl, rfl, rfl, trivial⟩ ?_
        · dsimp only; rw [hst, hs2]; exact hb
        · dsimp only; rw [hst, hs2]; exact (.i (by repeat constructor))
      | true =>
        have hs2 : (stepW c1 c2 st x).1 = st.1 ++ (x ++ [10]) := by
          rw [stepW]
          by_cases h1 : st.2 = true
          · rw [if_pos h1]
          · have h2 : c1 ∈ x := by
              rw [Bool.or_eq_true, decide_eq_true_eq] at hy
              exact hy.resolve_left h1
            rw [if_neg h1, if_pos h2]
        have hsl : (x ++ [10]).length = x.length + 1 := by simp
        by_cases hfit : st.1.length + (x ++ [10]).length ≤ 32768
        · refine .go ?_; repeat constructor
          refine EL.move rfl rfl rfl ?_
          refine EL.move rfl rfl rfl ?_
          refine EL.rew (d := 150) (v' := .bool true) rfl (by first | rfl | (decide) | (simp)) ?_
          refine EL.move rfl rfl rfl ?_
          refine EL.move rfl rfl rfl ?_
          refine EL.cat rfl rfl rfl rfl (by first | omega | (simp only [List.length_append, List.length_cons, List.length_nil]; omega)) ?_
          (refine EL.callM rfl rfl rfl ent30 rfl (print_y gs gm su sa sc st.1 (x ++ [10]) hfit) (by repeat constructor) ?_; rintro ⟨sa2, sc2⟩)
          refine EL.neqI rfl rfl rfl rfl ?_
          refine EL.pickT rfl rfl rfl rfl ?_
          refine .go ?_; repeat constructor
          refine ES.condF rfl ?_
          refine .go ?_; repeat constructor
          refine EL.move rfl rfl rfl ?_
          refine EL.add1 rfl rfl rfl rfl (by omega) ?_
          refine EL.assign rfl rfl rfl ?_
          refine .go ?_; repeat constructor
          refine PX.loop ⟨k + 1, (qa2, qc2), true, (sa2, sc2), last'⟩ ⟨hlt', ?_, hl2⟩ (by show ks.length - (k + 1) < ks.length - k; omega) ⟨rfl, rfl, rfl, rfl, rfl, rfl, trivial⟩ ?_
          · dsimp only; rw [hst, hs2, List.length_append]; exact hfit
          · dsimp only; rw [hst, hs2]; exact (.i (by repeat constructor))
        · refine .go ?_; repeat constructor
          refine EL.move rfl rfl rfl ?_
          refine EL.move rfl rfl rfl ?_
          refine EL.rew (d := 150) (v' := .bool true) rfl (by first | rfl | (decide) | (simp)) ?_
          refine EL.move rfl rfl rfl ?_
          refine EL.move rfl rfl rfl ?_
          refine EL.cat rfl rfl rfl rfl (by first | omega | (simp only [List.length_append, List.length_cons, List.length_nil]; omega)) ?_
          refine EL.callM1 rfl rfl rfl ent30 rfl (print_n gs gm su sa sc st.1 (x ++ [10]) hb (by omega)) (by repeat constructor) ?_
          refine EL.neqI rfl rfl rfl rfl ?_
          refine EL.pickT rfl rfl rfl rfl ?_
          refine .go ?_; repeat constructor
          refine ES.condT rfl ?_
          rw [hs2, List.length_append] at hmono
          refine .go ?_; repeat constructor
          refine EL.move rfl rfl rfl ?_
          refine EL.lenS rfl rfl rfl rfl rfl ?_
          refine EL.gtr rfl rfl rfl rfl ?_
          refine EL.assign rfl rfl rfl ?_
          refine .go ?_; repeat constructor
          exact PX.ret rfl Tryz.results6 (.cons (.tmp (getA rfl (congrArg Value.bool (decide_eq_true (by omega))))) .nil) (fun w hs => ⟨(), rfl, hs.ent (.nil _)⟩)
theorem wholeRanges_lifted (os : Os) (started : os.Started) (H : Type) (enc : TypeId × Value → H) :
    ReturnsInHanded {} Tryz.checked os 6 .any (Rows.wholeRangesSpec.pre6 enc Tryz.prog Tryz.f6 Rows.wholeRangesRow.domain false) (Rows.wholeRangesSpec.post enc Tryz.prog Tryz.f6 false true false false) := by
  refine returnsInHanded_of_change_shaped (C := Tryz.checked) own started (by kernel_rfl) Tryz.func6
    (ChangeSpec.witness6 (enc := enc) (C := Tryz.checked) false ⟨#[], #[.slice none 0 0, .int .u8 0, .int .u8 0], []⟩ 8 (by kernel_rfl) (by kernel_rfl) (by kernel_rfl) (by kernel_rfl)) ?_
  intro W base args ds gs before hval0 hW _ hsz hsh _
  have hk : (DataW.weightsEach Tryz.prog (Tryz.f6.params.toList ++ []) (ds ++ gs)).all (· ≤ reachBytes) = true := hsz
  have hval : ∀ (j : Nat) t v, Tryz.f6.params[j]? = some t → args[j]? = some v → Value.okWide Tryz.prog W .any base t v := hval0
  have hW1 : DataW.Whole enc Tryz.prog Tryz.f6.params.toList Rows.wholeRangesSpec.vars false W args.toList ds gs before := hW
  have hW' := hW1
  obtain ⟨p, q, hA0, hV, rfl, hfz, hnd⟩ := hW1
  have hA : DataW.TrodAll enc Tryz.prog W 0 (fun _ => true) true Tryz.f6.params.toList args.toList ds p := hA0
  rw [Tryz.params6] at hA hval hk
  obtain ⟨v0, vs0, d0, ds0, p0, q0, hargs0, rfl, rfl, h0, r0⟩ := trodAll_cons hA
  obtain ⟨v1, vs1, d1, ds1, p1, q1, hargs1, rfl, rfl, h1, r1⟩ := trodAll_cons r0
  obtain ⟨v2, vs2, d2, ds2, p2, q2, hargs2, rfl, rfl, h2, r2⟩ := trodAll_cons r1
  obtain ⟨rfl, rfl, rfl⟩ := trodAll_nil r2
  subst hargs1 hargs2
  obtain rfl : args = #[v0, v1, v2] := by cases args; simp_all
  obtain ⟨rfl, rfl⟩ := trodVars_none hV
  obtain ⟨ad0, cap0, xs0, rest0, rfl, hrd0, hd0⟩ := open_svs Tryz.underlying62 Tryz.underlying9 (by kernel_rfl) (hval 0 62 v0 rfl rfl) h0; have hc0 := slice_cap Tryz.underlying62 h0
  obtain ⟨b1, rfl, rfl⟩ := open_uv Tryz.underlying5 (hval 1 5 v1 rfl rfl) h1
  obtain ⟨b2, rfl, rfl⟩ := open_uv Tryz.underlying5 (hval 2 5 v2 rfl rfl) h2
  refine (ranges_c ad0 cap0 xs0 b1 b2 hc0 W (GR.of hsh) hrd0).mono fun e W' ⟨_, he, hs⟩ => ⟨_, he, ?_⟩
  exact law_true (s := Rows.wholeRangesSpec) laidOut rfl Tryz.underlying4 (by kernel_rfl) rfl false rfl rfl rfl hW' hs.below
theorem wholeRanges_holds : Rows.WholeRangesSaid :=
  OpenClaim.holds_of_wide 6 Tryz.f6 rfl rfl rfl rfl rfl rfl rfl ⟨rfl, rfl, rfl, rfl, rfl⟩ rfl rfl rfl rfl rfl (by kernel_rfl) Tryz.func6 (by kernel_rfl)
    (of_decide_eq_true (by kernel_rfl)) (by unfold Func.isWrapper; first | (rw [if_pos (by decide +kernel)]; kernel_rfl) | (rw [if_neg (by decide +kernel)]; exact ⟨rfl, rfl⟩))
    (fun os started H enc _ => wholeRanges_lifted os started H enc)
end Go.Proofs.YtblpgpgbnlhjlaaGreat
