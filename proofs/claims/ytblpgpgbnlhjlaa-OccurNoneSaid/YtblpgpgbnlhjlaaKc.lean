/- Layer 12 (occur): the law's helpers. -/
import Derived.Test.YtblpgpgbnlhjlaaKb
namespace Go.Proofs.Ytblpgpgbnlhjlaa
open Go Go.RowKit Sl
set_option maxRecDepth 100000
set_option maxHeartbeats 8000000
set_option linter.unusedVariables false
set_option linter.unusedSimpArgs false
attribute [local irreducible] ES EL PX wps

theorem spsK_get : ∀ (l : List Spn) (i : Nat) (r : Spn), l[i]? = some r → ∀ j u, (spC r)[j]? = some u → (spsC l)[i * 2 + j]? = some u
  | [], i, r, h, _, _, _ => by simp at h
  | r' :: l, 0, r, h, j, u, hj => by
    simp only [List.getElem?_cons_zero, Option.some.injEq] at h
    subst h
    have hlt := (List.getElem?_eq_some_iff.1 hj).1
    rw [Nat.zero_mul, Nat.zero_add]
    show (spC r' ++ spsC l)[j]? = some u
    rw [List.getElem?_append_left hlt]; exact hj
  | r' :: l, i + 1, r, h, j, u, hj => by
    simp only [List.getElem?_cons_succ] at h
    have ih := spsK_get l i r h j u hj
    have hl : (spC r').length = 2 := rfl
    show (spC r' ++ spsC l)[(i + 1) * 2 + j]? = some u
    rw [List.getElem?_append_right (by omega), show (i + 1) * 2 + j - (spC r').length = i * 2 + j by omega]
    exact ih
theorem same08_k (xs : List Spn) (ad1 ad2 : Option Addr) (cap1 cap2 : Nat) (hlen : xs.length ≤ 4611686018427387904) (w : World) (h1 : Rd w w.heap.size ad1 (spsC xs)) (h2 : Rd w w.heap.size ad2 (spsC xs)) :
    Pure Try.prog 19 #[.slice ad1 xs.length cap1, .slice ad2 xs.length cap2] (fun _ : Unit => .bool true) (fun _ => []) w := by
  have hl := spsC_len xs
  refine calls_of_ES TB Try.func19 rfl _ Try.ntmps19 rfl (Sat.start w) ?_
  refine .gr ?_; repeat constructor
  refine EL.assign rfl rfl rfl ?_
  refine .gr ?_; repeat constructor
  refine EL.move rfl rfl rfl ?_
  refine EL.lenL rfl rfl rfl rfl rfl ?_
  refine EL.move rfl rfl rfl ?_
  refine EL.lenL rfl rfl rfl rfl rfl ?_
  refine EL.neqI rfl rfl rfl rfl ?_
  refine .gr ?_; repeat constructor
  refine ES.condN rfl (fun h => absurd rfl h) (fun _ => ?_)
  refine .gr ?_; repeat constructor
  refine EL.assign rfl rfl rfl ?_
  refine .gr ?_; repeat constructor
  refine ES.loop (σ := Nat) (fun i => i ≤ xs.length) (fun i => [(0, .slice ad1 xs.length cap1), (1, .slice ad2 xs.length cap2), (5, Iv (i : Nat))]) (fun _ => []) (fun i => xs.length - i) 0 (Nat.zero_le _) ⟨rfl, rfl, rfl, trivial⟩ (.i (by repeat constructor)) ?_
  intro i hi
  refine .gr ?_; repeat constructor
  refine EL.move rfl rfl rfl ?_
  refine EL.move rfl rfl rfl ?_
  refine EL.lenL rfl rfl rfl rfl rfl ?_
  refine EL.lss rfl rfl rfl rfl ?_
  refine .gr ?_; repeat constructor
  refine ES.condD rfl (fun hlt => ?_) (fun hge => ?_)
  · have hlt' : i < xs.length := by omega
    obtain ⟨p, hp⟩ : ∃ p, xs[i]? = some p := ⟨_, List.getElem?_eq_getElem hlt'⟩
    have hne : spsC xs ≠ [] := fun e => by rw [e] at hl; simp at hl; omega
    obtain ⟨g1, o1, rfl, _⟩ := h1 hne
    obtain ⟨g2, o2, rfl, _⟩ := h2 hne
    refine .gs ?_; repeat constructor
    refine ES.draw (X := Unit) (fun _ => [(0, .slice (some ⟨g1, o1, none⟩) xs.length cap1), (1, .slice (some ⟨g2, o2, none⟩) xs.length cap2), (5, Iv (i : Nat)), (25, .bool false)]) (fun _ => []) [] mixed (.i (by repeat constructor)) ?_ (fun _ => ?_)
    · refine ED.take 0 rfl (by decide +kernel) CutX.no_panic (by decide +kernel) rfl rfl rfl (RV.move rfl) ?_
      refine ED.take 1 rfl (by decide +kernel) CutX.no_panic (by decide +kernel) rfl rfl rfl (RV.move rfl) ?_
      refine ED.take 2 rfl (by decide +kernel) CutX.no_panic (by decide +kernel) rfl rfl rfl (RV.indexAddrL rfl rfl rfl rfl rfl (by omega)) ?_
      refine ED.take 3 rfl (by decide +kernel) CutX.no_panic (by decide +kernel) rfl rfl rfl (RV.loadOldA (j := i * 2) (vs := spC p) rfl rfl rfl rfl (by simp [spC]) h1 (spsK_get xs i p hp)) ?_
      refine ED.take 4 rfl (by decide +kernel) CutX.no_panic (by decide +kernel) rfl rfl rfl (RV.move rfl) ?_
      refine ED.take 5 rfl (by decide +kernel) CutX.no_panic (by decide +kernel) rfl rfl rfl (RV.move rfl) ?_
      refine ED.take 6 rfl (by decide +kernel) CutX.no_panic (by decide +kernel) rfl rfl rfl (RV.indexAddrL rfl rfl rfl rfl rfl (by omega)) ?_
      refine ED.take 7 rfl (by decide +kernel) CutX.no_panic (by decide +kernel) rfl rfl rfl (RV.loadOldA (j := i * 2) (vs := spC p) rfl rfl rfl rfl (by simp [spC]) h2 (spsK_get xs i p hp)) ?_
      refine ED.take 8 rfl (by decide +kernel) CutX.no_panic (by decide +kernel) rfl rfl rfl (RV.neqAgg (b := true) rfl rfl eqg33 (fun w => (run_equal_st2 TB rfl rfl sth33 rfl rfl rfl rfl rfl rfl rfl rfl p.1 p.2 p.1 p.2 w).trans (by simp))) ?_
      refine ED.done (by decide +kernel) ?_
      exact PX.cutX () ⟨rfl, rfl, rfl, rfl, trivial⟩ (.i (by repeat constructor))
    refine ES.condF rfl ?_
    refine .gr ?_; repeat constructor
    refine EL.move rfl rfl rfl ?_
    refine EL.add1 rfl rfl rfl rfl (by omega) ?_
    refine EL.assign rfl rfl rfl ?_
    refine .gr ?_; repeat constructor
    exact PX.loop (i + 1) (by omega) (by omega) ⟨rfl, rfl, rfl, trivial⟩ (.i (by repeat constructor))
  refine .gr ?_; repeat constructor
  refine EL.assign rfl rfl rfl ?_
  refine .gr ?_; repeat constructor
  exact PX.ret rfl Try.results19 (.cons (.tmp rfl) .nil) (fun w hs => ⟨(), rfl, hs.ent (.i (by repeat constructor))⟩)
theorem rd_mem {w0 w : World} {B n cap sz e : Nat} {H : List HA} {ad : Option Addr} {cs : List Value} (hs : Sat w0 B H w) (hm : HA.row (.slice ad n cap) e sz n cs ∈ H) (hsz : 0 < sz) : Rd w w.heap.size ad cs := by
  intro hne
  have hf := row_form (hs.all _ hm)
  have hpos : 0 < n := by
    rcases Nat.eq_zero_or_pos n with h0 | h0
    · subst h0; exact absurd (List.eq_nil_of_length_eq_zero (by simpa using hf.2.2.2.1)) hne
    · exact h0
  obtain ⟨g, rfl⟩ := hf.2.2.2.2 hpos
  have hlt := (hs.lo g (List.mem_flatMap.2 ⟨_, hm, by simp [HA.row, Value.ownBlock]⟩)).2
  exact ⟨g, 0, rfl, hlt, fun j v hj => by rw [Nat.zero_add]; exact row_cell (hs.all _ hm) j v hj⟩
theorem rd_pack {w0 w : World} {B : Nat} {rs : List LsT} {R : List HA} (hs : Sat w0 B (HA.pack (rs.map lsR) :: R) w) : ∀ y ∈ rs, Rd w w.heap.size y.1 (spsC y.2.2) := fun y hy =>
  rd_mem hs.unpack (List.mem_append.2 (.inl (List.mem_map.2 ⟨y, hy, rfl⟩))) (by decide)
theorem same12_c (r1 r2 : List LsT) (ad1 ad2 : Option Addr) (cap1 cap2 : Nat) (heq : r1.map (fun y => y.2.2) = r2.map (fun y => y.2.2)) (hlen : r1.length ≤ 4611686018427387904) (hin : ∀ y ∈ r1, y.2.2.length ≤ 4611686018427387904) (w : World) (h1 : Rd w w.heap.size ad1 (r1.map lsV)) (h2 : Rd w w.heap.size ad2 (r2.map lsV))
    (g1 : ∀ y ∈ r1, Rd w w.heap.size y.1 (spsC y.2.2)) (g2 : ∀ y ∈ r2, Rd w w.heap.size y.1 (spsC y.2.2)) :
    Pure Try.prog 47 #[.slice ad1 r1.length cap1, .slice ad2 r2.length cap2] (fun _ : Unit => .bool true) (fun _ => []) w := by
  have hl : r1.length = r2.length := by simpa using congrArg List.length heq
  refine calls_of_ES TB Try.func47 rfl _ Try.ntmps47 rfl (Sat.start w) ?_
  refine .gr ?_; repeat constructor
  refine EL.assign rfl rfl rfl ?_
  refine .gr ?_; repeat constructor
  refine EL.move rfl rfl rfl ?_
  refine EL.lenL rfl rfl rfl rfl rfl ?_
  refine EL.move rfl rfl rfl ?_
  refine EL.lenL rfl rfl rfl rfl rfl ?_
  refine EL.neqI rfl rfl rfl rfl ?_
  refine .gr ?_; repeat constructor
  refine ES.condN rfl (fun h => absurd (by rw [hl] : ((r1.length : Nat) : Int) = (r2.length : Nat)) h) (fun _ => ?_)
  refine .gr ?_; repeat constructor
  refine EL.assign rfl rfl rfl ?_
  refine .gr ?_; repeat constructor
  refine ES.loop (σ := Nat) (fun i => i ≤ r1.length) (fun i => [(0, .slice ad1 r1.length cap1), (1, .slice ad2 r2.length cap2), (5, Iv (i : Nat))]) (fun _ => []) (fun i => r1.length - i) 0 (Nat.zero_le _) ⟨rfl, rfl, rfl, trivial⟩ (.i (by repeat constructor)) ?_
  intro i hi
  refine .gr ?_; repeat constructor
  refine EL.move rfl rfl rfl ?_
  refine EL.move rfl rfl rfl ?_
  refine EL.lenL rfl rfl rfl rfl rfl ?_
  refine EL.lss rfl rfl rfl rfl ?_
  refine .gr ?_; repeat constructor
  refine ES.condD rfl (fun hlt => ?_) (fun hge => ?_)
  · have hlt' : i < r1.length := by omega
    obtain ⟨p, hp⟩ : ∃ p, r1[i]? = some p := ⟨_, List.getElem?_eq_getElem hlt'⟩
    obtain ⟨q, hq⟩ : ∃ q, r2[i]? = some q := ⟨_, List.getElem?_eq_getElem (by omega)⟩
    have hpq : p.2.2 = q.2.2 := by
      have := congrArg (fun l => l[i]?) heq
      simpa [List.getElem?_map, hp, hq] using this
    have hpm := List.mem_of_getElem? hp
    have hqm := List.mem_of_getElem? hq
    have hc1 : (r1.map lsV)[i]? = some (lsV p) := by rw [List.getElem?_map, hp]; rfl
    have hc2 : (r2.map lsV)[i]? = some (lsV q) := by rw [List.getElem?_map, hq]; rfl
    have gp := g1 p hpm
    have gq := g2 q hqm
    have hpl := hin p hpm
    obtain ⟨pa, pc, ps⟩ := p
    obtain ⟨qa, qc, qs⟩ := q
    dsimp only at hpq gp gq hpl
    subst hpq
    obtain ⟨b1, o1, rfl, _⟩ := h1 (fun e => by rw [e] at hc1; cases hc1)
    obtain ⟨b2, o2, rfl, _⟩ := h2 (fun e => by rw [e] at hc2; cases hc2)
    refine .gs ?_; repeat constructor
    refine ES.draw (X := Unit) (fun _ => [(0, .slice (some ⟨b1, o1, none⟩) r1.length cap1), (1, .slice (some ⟨b2, o2, none⟩) r2.length cap2), (5, Iv (i : Nat)), (26, .bool false)]) (fun _ => []) [] mixed (.i (by repeat constructor)) ?_ (fun _ => ?_)
    · refine ED.take 0 rfl (by decide +kernel) CutX.no_panic (by decide +kernel) rfl rfl rfl (RV.move rfl) ?_
      refine ED.take 1 rfl (by decide +kernel) CutX.no_panic (by decide +kernel) rfl rfl rfl (RV.move rfl) ?_
      refine ED.take 2 rfl (by decide +kernel) CutX.no_panic (by decide +kernel) rfl rfl rfl (RV.indexAddrL rfl rfl rfl rfl rfl (by omega)) ?_
      refine ED.take 3 rfl (by decide +kernel) CutX.no_panic (by decide +kernel) rfl rfl rfl (RV.loadOld (j := i * 1) rfl rfl rfl h1 (by rw [Nat.mul_one]; exact hc1)) ?_
      refine ED.take 4 rfl (by decide +kernel) CutX.no_panic (by decide +kernel) rfl rfl rfl (RV.move rfl) ?_
      refine ED.take 5 rfl (by decide +kernel) CutX.no_panic (by decide +kernel) rfl rfl rfl (RV.move rfl) ?_
      refine ED.take 6 rfl (by decide +kernel) CutX.no_panic (by decide +kernel) rfl rfl rfl (RV.indexAddrL rfl rfl rfl rfl rfl (by omega)) ?_
      refine ED.take 7 rfl (by decide +kernel) CutX.no_panic (by decide +kernel) rfl rfl rfl (RV.loadOld (j := i * 1) rfl rfl rfl h2 (by rw [Nat.mul_one]; exact hc2)) ?_
      refine ED.loud 8 rfl (by decide +kernel) ?_
      refine EL.callPw rfl rfl rfl ent19 rfl (fun w hs => same08_k ps pa qa pc qc hpl w (gp.sat hs) (gq.sat hs)) ?_
      refine ED.next (.i (by repeat constructor)) ?_
      refine ED.take 9 rfl (by decide +kernel) CutX.no_panic (by decide +kernel) rfl rfl rfl (RV.not rfl) ?_
      refine ED.done (by decide +kernel) ?_
      exact PX.cutX () ⟨rfl, rfl, rfl, rfl, trivial⟩ (.i (by repeat constructor))
    refine ES.condF rfl ?_
    refine .gr ?_; repeat constructor
    refine EL.move rfl rfl rfl ?_
    refine EL.add1 rfl rfl rfl rfl (by omega) ?_
    refine EL.assign rfl rfl rfl ?_
    refine .gr ?_; repeat constructor
    exact PX.loop (i + 1) (by omega) (by omega) ⟨rfl, rfl, rfl, trivial⟩ (.i (by repeat constructor))
  refine .gr ?_; repeat constructor
  refine EL.assign rfl rfl rfl ?_
  refine .gr ?_; repeat constructor
  exact PX.ret rfl Try.results47 (.cons (.tmp rfl) .nil) (fun w hs => ⟨(), rfl, hs.ent (.i (by repeat constructor))⟩)
/-! the law's example -/
def mrA (p : Nat) : MR := if p ≤ 4 then (setM 60 [97, 42] [98, 97, 97, 99] (p : Nat)).getD ⟨[], false, 0, 0⟩ else ⟨[], false, 0, 0⟩
theorem mrA_some (p : Nat) (hp : p ≤ 4) : setM 60 [97, 42] [98, 97, 97, 99] (p : Nat) = some (mrA p) := by
  have h : ∀ p, p ≤ 4 → (setM 60 [97, 42] [98, 97, 97, 99] (p : Nat)).isSome = true := by decide +kernel
  obtain ⟨m, hm⟩ := Option.isSome_iff_exists.1 (h p hp)
  unfold mrA
  rw [if_pos hp, hm]; rfl
theorem mrA_e (p : Nat) : (mrA p).e = 0 := by
  have h : ∀ p, p ≤ 4 → (mrA p).e = 0 := by decide +kernel
  by_cases hp : p ≤ 4
  · exact h p hp
  · unfold mrA; rw [if_neg hp]
theorem mrA_ok : McOk mrA 4 := ⟨fun p hp _ _ => by
  match p, hp with
  | 0, _ => exact ⟨0, 0, [], by decide +kernel, by omega, by omega, by omega⟩
  | 1, _ => exact ⟨1, 3, [], by decide +kernel, by omega, by omega, by omega⟩
  | 2, _ => exact ⟨2, 3, [], by decide +kernel, by omega, by omega, by omega⟩
  | 3, _ => exact ⟨3, 3, [], by decide +kernel, by omega, by omega, by omega⟩
  | 4, _ => exact ⟨4, 4, [], by decide +kernel, by omega, by omega, by omega⟩⟩
theorem mrA_l : (occL mrA 4).map Prod.fst = [[(0, 0)], [(1, 3)], [(4, 4)]] ∧ ∀ x ∈ occL mrA 4, x.2 = 0 := by
  constructor
  · decide +kernel
  · decide +kernel
end Go.Proofs.Ytblpgpgbnlhjlaa
