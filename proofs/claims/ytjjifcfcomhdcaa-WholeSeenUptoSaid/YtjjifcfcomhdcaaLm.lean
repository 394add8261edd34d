/- Layer 16 (listing): the document's Read and the law ListingReads. -/
import Derived.Test.YtjjifcfcomhdcaaLl
import Derived.Test.YtjjifcfcomhdcaaSlaw
namespace Go.Proofs.Ytjjifcfcomhdcaa
open Go.ChangeShapes Go.WideShapes Go.ChangeAt
open Go Go.RowKit Sl
set_option maxRecDepth 100000
set_option maxHeartbeats 8000000
set_option linter.unusedVariables false
set_option linter.unusedSimpArgs false
attribute [local irreducible] ES EL PX wps

theorem read_plain (ls : LL) : readM ls = match plainM (allM ls) with
    | none => ([], 19)
    | some t => if linesM t = ls then (t, 0) else ([], 19) := by
  by_cases h : ∃ t, linesM t = ls
  · obtain ⟨t, rfl⟩ := h
    rw [read_lines, all_lines, plain_all]
    simp
  · rw [read_bad ls (fun t ht => h ⟨t, ht⟩)]
    split
    · rfl
    · rename_i t _
      rw [if_neg (fun e => h ⟨t, e⟩)]
theorem read_nil (ls : LL) (i : Nat) (h : ls[i]? = some []) : readM ls = ([], 19) := read_end ls i [] h (by unfold sufOk; simp)
theorem docread_c (ad : Option Addr) (cap : Nat) (ls : LL) (hb : ls.length + (ls.map List.length).sum ≤ 1073741824) (w : World) (hrd : Rd w w.heap.size ad (ls.map Sv)) :
    Pure Try.prog 18 #[.slice ad ls.length cap] (fun _ : Unit => .tuple #[Sv (readM ls).1, Iv (readM ls).2]) (fun _ => []) w := by
  refine calls_of_ES TB Try.func18 rfl _ Try.ntmps18 rfl (Sat.start w) ?_
  repeat (first | apply ES.seq | apply ES.skip | apply ES.region | apply EL.nil | apply ES.block | apply ES.nil | apply ES.exit | apply ES.ret | apply PX.hit | (apply PX.miss; exact rfl) | apply PX.then_x | apply PX.then_r | apply PX.block_n | apply PX.block_r | refine PX.then_n (e := .normal) ?_)
  refine EL.assign rfl rfl rfl ?_
  refine EL.assign rfl rfl rfl ?_
  repeat (first | apply ES.seq | apply ES.skip | apply ES.region | apply EL.nil | apply ES.block | apply ES.nil | apply ES.exit | apply ES.ret | apply PX.hit | (apply PX.miss; exact rfl) | apply PX.then_x | apply PX.then_r | apply PX.block_n | apply PX.block_r | refine PX.then_n (e := .normal) ?_)
  refine EL.assign rfl rfl rfl ?_
  repeat (first | apply ES.seq | apply ES.skip | apply ES.region | apply EL.nil | apply ES.block | apply ES.nil | apply ES.exit | apply ES.ret | apply PX.hit | (apply PX.miss; exact rfl) | apply PX.then_x | apply PX.then_r | apply PX.block_n | apply PX.block_r | refine PX.then_n (e := .normal) ?_)
  refine EL.assign rfl rfl rfl ?_
  repeat (first | apply ES.seq | apply ES.skip | apply ES.region | apply EL.nil | apply ES.block | apply ES.nil | apply ES.exit | apply ES.ret | apply PX.hit | (apply PX.miss; exact rfl) | apply PX.then_x | apply PX.then_r | apply PX.block_n | apply PX.block_r | refine PX.then_n (e := .normal) ?_)
  refine ES.loop (σ := Nat) (fun i => i ≤ ls.length) (fun i => [(0, .slice ad ls.length cap), (4, Sv ((ls.take i).flatMap List.dropLast)), (5, Iv i)]) (fun _ => []) (fun i => ls.length - i) 0 (Nat.zero_le _) ⟨rfl, rfl, rfl, trivial⟩ (by repeat (first | exact Ent.nil _ | exact Ent.refl _ | (apply Ent.cons; case p => repeat (first | exact Pick.here _ _ | apply Pick.there)) | apply Ent.drop)) ?_
  intro i hi
  repeat (first | apply ES.seq | apply ES.skip | apply ES.region | apply EL.nil | apply ES.block | apply ES.nil | apply ES.exit | apply ES.ret | apply PX.hit | (apply PX.miss; exact rfl) | apply PX.then_x | apply PX.then_r | apply PX.block_n | apply PX.block_r | refine PX.then_n (e := .normal) ?_)
  refine EL.move rfl rfl rfl ?_
  refine EL.move rfl rfl rfl ?_
  refine EL.lenL rfl rfl rfl rfl rfl ?_
  refine EL.lss rfl rfl rfl rfl ?_
  repeat (first | apply ES.seq | apply ES.skip | apply ES.region | apply EL.nil | apply ES.block | apply ES.nil | apply ES.exit | apply ES.ret | apply PX.hit | (apply PX.miss; exact rfl) | apply PX.then_x | apply PX.then_r | apply PX.block_n | apply PX.block_r | refine PX.then_n (e := .normal) ?_)
  refine ES.condD rfl (fun hlt => ?_) (fun hge => ?_)
  · have hlt' : i < ls.length := by omega
    obtain ⟨l, hl⟩ : ∃ l, l = ls.getD i [] := ⟨_, rfl⟩
    have hli : ls[i]? = some l := by rw [hl, List.getD_eq_getElem?_getD, List.getElem?_eq_getElem hlt']; rfl
    have hget : (ls.map Sv)[i]? = some (Sv l) := by rw [hl]; exact getElem?_map Sv ls i [] hlt'
    have hll : l.length ≤ (ls.map List.length).sum := by rw [hl]; exact len_le_sum ls i
    have hst := sum_take ls i
    have hrd' := hrd
    obtain ⟨ga, oa, rfl, _⟩ := hrd' (fun e => by rw [e] at hget; simp at hget)
    have hfl := flat_snoc ls i hlt'
    rw [← hl] at hfl
    repeat (first | apply ES.seq | apply ES.skip | apply ES.region | apply EL.nil | apply ES.block | apply ES.nil | apply ES.exit | apply ES.ret | apply PX.hit | (apply PX.miss; exact rfl) | apply PX.then_x | apply PX.then_r | apply PX.block_n | apply PX.block_r | refine PX.then_n (e := .normal) ?_)
    refine EL.move rfl rfl rfl ?_
    refine EL.move rfl rfl rfl ?_
    refine EL.indexAddrLo rfl rfl rfl rfl rfl rfl rfl rfl hlt' ?_
    refine EL.loadOld rfl rfl rfl rfl rfl hrd hget ?_
    refine EL.lenS rfl rfl rfl rfl rfl ?_
    refine EL.assign rfl rfl rfl ?_
    repeat (first | apply ES.seq | apply ES.skip | apply ES.region | apply EL.nil | apply ES.block | apply ES.nil | apply ES.exit | apply ES.ret | apply PX.hit | (apply PX.miss; exact rfl) | apply PX.then_x | apply PX.then_r | apply PX.block_n | apply PX.block_r | refine PX.then_n (e := .normal) ?_)
    refine EL.move rfl rfl rfl ?_
    refine EL.eqlI rfl rfl rfl rfl ?_
    repeat (first | apply ES.seq | apply ES.skip | apply ES.region | apply EL.nil | apply ES.block | apply ES.nil | apply ES.exit | apply ES.ret | apply PX.hit | (apply PX.miss; exact rfl) | apply PX.then_x | apply PX.then_r | apply PX.block_n | apply PX.block_r | refine PX.then_n (e := .normal) ?_)
    refine ES.condD rfl (fun h0 => ?_) (fun h0 => ?_)
    · obtain rfl : l = [] := List.eq_nil_of_length_eq_zero (by omega)
      have hr := read_nil ls i hli
      repeat (first | apply ES.seq | apply ES.skip | apply ES.region | apply EL.nil | apply ES.block | apply ES.nil | apply ES.exit | apply ES.ret | apply PX.hit | (apply PX.miss; exact rfl) | apply PX.then_x | apply PX.then_r | apply PX.block_n | apply PX.block_r | refine PX.then_n (e := .normal) ?_)
      refine EL.assign rfl rfl rfl ?_
      refine EL.assign rfl rfl rfl ?_
      repeat (first | apply ES.seq | apply ES.skip | apply ES.region | apply EL.nil | apply ES.block | apply ES.nil | apply ES.exit | apply ES.ret | apply PX.hit | (apply PX.miss; exact rfl) | apply PX.then_x | apply PX.then_r | apply PX.block_n | apply PX.block_r | refine PX.then_n (e := .normal) ?_)
      exact PX.ret rfl Try.results18 (.cons (.tmp rfl) (.cons (.tmp rfl) .nil)) (fun w hs => ⟨(), by rw [hr]; rfl, hs.ent (.nil _)⟩)
    · have hl1 : 1 ≤ l.length := by omega
      have hdl : (l.drop 0).take (l.length - 1 - 0) = l.dropLast := by rw [List.drop_zero, Nat.sub_zero, List.dropLast_eq_take]
      have hdll : l.dropLast.length = l.length - 1 := List.length_dropLast
      repeat (first | apply ES.seq | apply ES.skip | apply ES.region | apply EL.nil | apply ES.block | apply ES.nil | apply ES.exit | apply ES.ret | apply PX.hit | (apply PX.miss; exact rfl) | apply PX.then_x | apply PX.then_r | apply PX.block_n | apply PX.block_r | refine PX.then_n (e := .normal) ?_)
      refine EL.move rfl rfl rfl ?_
      refine EL.move rfl rfl rfl ?_
      refine EL.move rfl rfl rfl ?_
      refine EL.indexAddrLo rfl rfl rfl rfl rfl rfl rfl rfl hlt' ?_
      refine EL.loadOld rfl rfl rfl rfl rfl hrd hget ?_
      refine EL.move rfl rfl rfl ?_
      refine EL.sub1 rfl rfl rfl rfl (by omega) (by omega) ?_
      refine EL.sliceS rfl rfl rfl rfl rfl rfl ⟨_, rfl⟩ (Nat.zero_le _) (by omega) ?_
      refine EL.cat rfl rfl rfl rfl (by rw [hdl]; omega) ?_
      refine EL.assign rfl rfl rfl ?_
      repeat (first | apply ES.seq | apply ES.skip | apply ES.region | apply EL.nil | apply ES.block | apply ES.nil | apply ES.exit | apply ES.ret | apply PX.hit | (apply PX.miss; exact rfl) | apply PX.then_x | apply PX.then_r | apply PX.block_n | apply PX.block_r | refine PX.then_n (e := .normal) ?_)
      refine EL.move rfl rfl rfl ?_
      refine EL.add1 rfl rfl rfl rfl (by omega) ?_
      refine EL.assign rfl rfl rfl ?_
      repeat (first | apply ES.seq | apply ES.skip | apply ES.region | apply EL.nil | apply ES.block | apply ES.nil | apply ES.exit | apply ES.ret | apply PX.hit | (apply PX.miss; exact rfl) | apply PX.then_x | apply PX.then_r | apply PX.block_n | apply PX.block_r | refine PX.then_n (e := .normal) ?_)
      exact PX.loop (i + 1) (by omega) (by omega) ⟨rfl, getA rfl (by rw [hfl, ← hdl]), rfl, trivial⟩ (by repeat (first | exact Ent.nil _ | exact Ent.refl _ | (apply Ent.cons; case p => repeat (first | exact Pick.here _ _ | apply Pick.there)) | apply Ent.drop))
  obtain rfl : i = ls.length := by omega
  rw [List.take_length]
  have hal : (ls.flatMap List.dropLast).length ≤ (ls.map List.length).sum := by have := sum_take ls ls.length; rwa [List.take_length] at this
  have hrm := read_plain ls
  obtain ⟨r, hr0⟩ : ∃ r, r = plainR (allM ls) := ⟨_, rfl⟩
  have hcp := plain_c (allM ls) (by unfold allM; omega)
  rw [← hr0] at hcp
  repeat (first | apply ES.seq | apply ES.skip | apply ES.region | apply EL.nil | apply ES.block | apply ES.nil | apply ES.exit | apply ES.ret | apply PX.hit | (apply PX.miss; exact rfl) | apply PX.then_x | apply PX.then_r | apply PX.block_n | apply PX.block_r | refine PX.then_n (e := .normal) ?_)
  refine EL.move rfl rfl rfl ?_
  refine EL.callP rfl rfl rfl ent27 rfl hcp ?_
  refine EL.move rfl rfl rfl ?_
  refine EL.extract rfl rfl rfl rfl ?_
  refine EL.extract rfl rfl rfl rfl ?_
  refine EL.assign rfl rfl rfl ?_
  refine EL.assign rfl rfl rfl ?_
  repeat (first | apply ES.seq | apply ES.skip | apply ES.region | apply EL.nil | apply ES.block | apply ES.nil | apply ES.exit | apply ES.ret | apply PX.hit | (apply PX.miss; exact rfl) | apply PX.then_x | apply PX.then_r | apply PX.block_n | apply PX.block_r | refine PX.then_n (e := .normal) ?_)
  refine EL.move rfl rfl rfl ?_
  refine EL.not rfl rfl rfl ?_
  repeat (first | apply ES.seq | apply ES.skip | apply ES.region | apply EL.nil | apply ES.block | apply ES.nil | apply ES.exit | apply ES.ret | apply PX.hit | (apply PX.miss; exact rfl) | apply PX.then_x | apply PX.then_r | apply PX.block_n | apply PX.block_r | refine PX.then_n (e := .normal) ?_)
  refine ES.cond rfl (fun hno => ?_) (fun hyes => ?_)
  · have hrm2 : readM ls = ([], 19) := by
      unfold plainR at hr0
      cases hx : plainM (allM ls) with
      | none => rw [hrm, hx]
      | some t => rw [hx] at hr0; rw [hr0] at hno; cases hno
    repeat (first | apply ES.seq | apply ES.skip | apply ES.region | apply EL.nil | apply ES.block | apply ES.nil | apply ES.exit | apply ES.ret | apply PX.hit | (apply PX.miss; exact rfl) | apply PX.then_x | apply PX.then_r | apply PX.block_n | apply PX.block_r | refine PX.then_n (e := .normal) ?_)
    refine EL.assign rfl rfl rfl ?_
    refine EL.assign rfl rfl rfl ?_
    repeat (first | apply ES.seq | apply ES.skip | apply ES.region | apply EL.nil | apply ES.block | apply ES.nil | apply ES.exit | apply ES.ret | apply PX.hit | (apply PX.miss; exact rfl) | apply PX.then_x | apply PX.then_r | apply PX.block_n | apply PX.block_r | refine PX.then_n (e := .normal) ?_)
    exact PX.ret rfl Try.results18 (.cons (.tmp rfl) (.cons (.tmp rfl) .nil)) (fun w hs => ⟨(), by rw [hrm2]; rfl, hs.ent (.nil _)⟩)
  obtain ⟨t, ht⟩ : ∃ t, t = r.1 := ⟨_, rfl⟩
  have hpt : plainM (allM ls) = some t := by
    unfold plainR at hr0
    cases hx : plainM (allM ls) with
    | none => rw [hx] at hr0; rw [hr0] at hyes; cases hyes
    | some t' => rw [hx] at hr0; rw [ht, hr0]
  have htl : t.length ≤ 1073741824 := by
    have := plainM_len _ (allM ls) t (Nat.le_refl _) hpt
    unfold allM at this; omega
  rw [hpt] at hrm
  simp only at hrm
  have hln := linesM_len t htl
  rw [← ht]
  repeat (first | apply ES.seq | apply ES.skip | apply ES.region | apply EL.nil | apply ES.block | apply ES.nil | apply ES.exit | apply ES.ret | apply PX.hit | (apply PX.miss; exact rfl) | apply PX.then_x | apply PX.then_r | apply PX.block_n | apply PX.block_r | refine PX.then_n (e := .normal) ?_)
  refine EL.move rfl rfl rfl ?_
  (refine EL.callX rfl rfl rfl ent16 rfl (rlines_c t htl) ?_; rintro ⟨ad2, cap2⟩)
  refine EL.assign rfl rfl rfl ?_
  repeat (first | apply ES.seq | apply ES.skip | apply ES.region | apply EL.nil | apply ES.block | apply ES.nil | apply ES.exit | apply ES.ret | apply PX.hit | (apply PX.miss; exact rfl) | apply PX.then_x | apply PX.then_r | apply PX.block_n | apply PX.block_r | refine PX.then_n (e := .normal) ?_)
  refine EL.move rfl rfl rfl ?_
  refine EL.lenL rfl rfl rfl rfl rfl ?_
  refine EL.move rfl rfl rfl ?_
  refine EL.lenL rfl rfl rfl rfl rfl ?_
  refine EL.neqI rfl rfl rfl rfl ?_
  repeat (first | apply ES.seq | apply ES.skip | apply ES.region | apply EL.nil | apply ES.block | apply ES.nil | apply ES.exit | apply ES.ret | apply PX.hit | (apply PX.miss; exact rfl) | apply PX.then_x | apply PX.then_r | apply PX.block_n | apply PX.block_r | refine PX.then_n (e := .normal) ?_)
  refine ES.condN rfl (fun hne => ?_) (fun heq => ?_)
  · have hrm2 : readM ls = ([], 19) := by rw [hrm, if_neg (fun e => hne (by rw [e]))]
    repeat (first | apply ES.seq | apply ES.skip | apply ES.region | apply EL.nil | apply ES.block | apply ES.nil | apply ES.exit | apply ES.ret | apply PX.hit | (apply PX.miss; exact rfl) | apply PX.then_x | apply PX.then_r | apply PX.block_n | apply PX.block_r | refine PX.then_n (e := .normal) ?_)
    refine EL.assign rfl rfl rfl ?_
    refine EL.assign rfl rfl rfl ?_
    repeat (first | apply ES.seq | apply ES.skip | apply ES.region | apply EL.nil | apply ES.block | apply ES.nil | apply ES.exit | apply ES.ret | apply PX.hit | (apply PX.miss; exact rfl) | apply PX.then_x | apply PX.then_r | apply PX.block_n | apply PX.block_r | refine PX.then_n (e := .normal) ?_)
    exact PX.ret rfl Try.results18 (.cons (.tmp rfl) (.cons (.tmp rfl) .nil)) (fun w hs => ⟨(), by rw [hrm2]; rfl, hs.ent (.nil _)⟩)
  have hll : (linesM t).length = ls.length := by omega
  refine ES.rowForm (ad := ad2) (cap := cap2) (e := 9) (sz := 1) (n := (linesM t).length) (cs := (linesM t).map Sv) (by repeat (first | exact Mem.here _ _ | apply Mem.there)) (fun hfm => ?_)
  obtain ⟨g2, rfl⟩ := hfm.2.2.2.2 (by simp [linesM])
  repeat (first | apply ES.seq | apply ES.skip | apply ES.region | apply EL.nil | apply ES.block | apply ES.nil | apply ES.exit | apply ES.ret | apply PX.hit | (apply PX.miss; exact rfl) | apply PX.then_x | apply PX.then_r | apply PX.block_n | apply PX.block_r | refine PX.then_n (e := .normal) ?_)
  refine EL.assign rfl rfl rfl ?_
  repeat (first | apply ES.seq | apply ES.skip | apply ES.region | apply EL.nil | apply ES.block | apply ES.nil | apply ES.exit | apply ES.ret | apply PX.hit | (apply PX.miss; exact rfl) | apply PX.then_x | apply PX.then_r | apply PX.block_n | apply PX.block_r | refine PX.then_n (e := .normal) ?_)
  refine ES.loop (σ := Nat) (fun i => i ≤ ls.length ∧ (linesM t).take i = ls.take i) (fun i => [(0, .slice ad ls.length cap), (7, Sv t), (9, .slice (some ⟨g2, 0, none⟩) (linesM t).length cap2), (10, Iv i)]) (fun _ => [HA.row (.slice (some ⟨g2, 0, none⟩) (linesM t).length cap2) 9 1 (linesM t).length ((linesM t).map Sv)]) (fun i => ls.length - i) 0 ⟨Nat.zero_le _, by simp⟩ ⟨rfl, rfl, rfl, rfl, trivial⟩ (by repeat (first | exact Ent.nil _ | exact Ent.refl _ | (apply Ent.cons; case p => repeat (first | exact Pick.here _ _ | apply Pick.there)) | apply Ent.drop)) ?_
  rintro i ⟨hi, hpre⟩
  repeat (first | apply ES.seq | apply ES.skip | apply ES.region | apply EL.nil | apply ES.block | apply ES.nil | apply ES.exit | apply ES.ret | apply PX.hit | (apply PX.miss; exact rfl) | apply PX.then_x | apply PX.then_r | apply PX.block_n | apply PX.block_r | refine PX.then_n (e := .normal) ?_)
  refine EL.move rfl rfl rfl ?_
  refine EL.move rfl rfl rfl ?_
  refine EL.lenL rfl rfl rfl rfl rfl ?_
  refine EL.lss rfl rfl rfl rfl ?_
  repeat (first | apply ES.seq | apply ES.skip | apply ES.region | apply EL.nil | apply ES.block | apply ES.nil | apply ES.exit | apply ES.ret | apply PX.hit | (apply PX.miss; exact rfl) | apply PX.then_x | apply PX.then_r | apply PX.block_n | apply PX.block_r | refine PX.then_n (e := .normal) ?_)
  refine ES.condD rfl (fun hlt => ?_) (fun hge => ?_)
  · have hlt' : i < ls.length := by omega
    have hget : (ls.map Sv)[i]? = some (Sv (ls.getD i [])) := getElem?_map Sv ls i [] hlt'
    have hrd' := hrd
    obtain ⟨ga, oa, rfl, _⟩ := hrd' (fun e => by rw [e] at hget; simp at hget)
    repeat (first | apply ES.seq | apply ES.skip | apply EL.nil | apply ES.block | apply ES.nil | apply ES.exit | apply ES.ret | apply PX.hit | (apply PX.miss; exact rfl) | apply PX.then_x | apply PX.then_r | apply PX.block_n | apply PX.block_r | refine PX.then_n (e := .normal) ?_)
    refine ES.draw (X := Unit) (fun _ => [(61, .bool (!decide ((linesM t).getD i [] = ls.getD i []))), (0, .slice (some ⟨ga, oa, none⟩) ls.length cap), (7, Sv t), (9, .slice (some ⟨g2, 0, none⟩) (linesM t).length cap2), (10, Iv i)]) (fun _ => [HA.row (.slice (some ⟨g2, 0, none⟩) (linesM t).length cap2) 9 1 (linesM t).length ((linesM t).map Sv)]) [HA.row (.slice (some ⟨g2, 0, none⟩) (linesM t).length cap2) 9 1 (linesM t).length ((linesM t).map Sv)] mixed (by repeat (first | exact Ent.nil _ | exact Ent.refl _ | (apply Ent.cons; case p => repeat (first | exact Pick.here _ _ | apply Pick.there)) | apply Ent.drop)) ?_ (fun _ => ?_)
    · refine ED.take 0 rfl (by decide +kernel) CutX.no_panic (by decide +kernel) rfl rfl rfl (RV.move rfl) ?_
      refine ED.take 1 rfl (by decide +kernel) CutX.no_panic (by decide +kernel) rfl rfl rfl (RV.move rfl) ?_
      refine ED.take 2 rfl (by decide +kernel) CutX.no_panic (by decide +kernel) rfl rfl rfl (RV.indexAddrL1 rfl rfl rfl rfl rfl rfl (by omega)) ?_
      refine ED.take 3 rfl (by decide +kernel) CutX.no_panic (by decide +kernel) rfl rfl rfl (RV.loadRm Sv [] rfl rfl rfl (by repeat (first | exact Mem.here _ _ | apply Mem.there)) (by omega)) ?_
      refine ED.take 4 rfl (by decide +kernel) CutX.no_panic (by decide +kernel) rfl rfl rfl (RV.move rfl) ?_
      refine ED.take 5 rfl (by decide +kernel) CutX.no_panic (by decide +kernel) rfl rfl rfl (RV.move rfl) ?_
      refine ED.take 6 rfl (by decide +kernel) CutX.no_panic (by decide +kernel) rfl rfl rfl (RV.indexAddrLo rfl rfl rfl rfl rfl rfl hlt') ?_
      refine ED.take 7 rfl (by decide +kernel) CutX.no_panic (by decide +kernel) rfl rfl rfl (RV.loadOld rfl rfl rfl hrd hget) ?_
      refine ED.take 8 rfl (by decide +kernel) CutX.no_panic (by decide +kernel) rfl rfl rfl (RV.neqS rfl rfl) ?_
      refine ED.done (by decide +kernel) ?_
      exact PX.cutX () ⟨rfl, rfl, rfl, rfl, rfl, trivial⟩ (by repeat (first | exact Ent.nil _ | exact Ent.refl _ | (apply Ent.cons; case p => repeat (first | exact Pick.here _ _ | apply Pick.there)) | apply Ent.drop))
    refine ES.condN rfl (fun hne => ?_) (fun heq2 => ?_)
    · have hrm2 : readM ls = ([], 19) := by rw [hrm, if_neg (fun e => hne (by rw [e]))]
      repeat (first | apply ES.seq | apply ES.skip | apply ES.region | apply EL.nil | apply ES.block | apply ES.nil | apply ES.exit | apply ES.ret | apply PX.hit | (apply PX.miss; exact rfl) | apply PX.then_x | apply PX.then_r | apply PX.block_n | apply PX.block_r | refine PX.then_n (e := .normal) ?_)
      refine EL.assign rfl rfl rfl ?_
      refine EL.assign rfl rfl rfl ?_
      repeat (first | apply ES.seq | apply ES.skip | apply ES.region | apply EL.nil | apply ES.block | apply ES.nil | apply ES.exit | apply ES.ret | apply PX.hit | (apply PX.miss; exact rfl) | apply PX.then_x | apply PX.then_r | apply PX.block_n | apply PX.block_r | refine PX.then_n (e := .normal) ?_)
      exact PX.ret rfl Try.results18 (.cons (.tmp rfl) (.cons (.tmp rfl) .nil)) (fun w hs => ⟨(), by rw [hrm2]; rfl, hs.ent (.nil _)⟩)
    · repeat (first | apply ES.seq | apply ES.skip | apply ES.region | apply EL.nil | apply ES.block | apply ES.nil | apply ES.exit | apply ES.ret | apply PX.hit | (apply PX.miss; exact rfl) | apply PX.then_x | apply PX.then_r | apply PX.block_n | apply PX.block_r | refine PX.then_n (e := .normal) ?_)
      refine EL.move rfl rfl rfl ?_
      refine EL.add1 rfl rfl rfl rfl (by omega) ?_
      refine EL.assign rfl rfl rfl ?_
      repeat (first | apply ES.seq | apply ES.skip | apply ES.region | apply EL.nil | apply ES.block | apply ES.nil | apply ES.exit | apply ES.ret | apply PX.hit | (apply PX.miss; exact rfl) | apply PX.then_x | apply PX.then_r | apply PX.block_n | apply PX.block_r | refine PX.then_n (e := .normal) ?_)
      exact PX.loop (i + 1) ⟨by omega, by rw [take_snoc _ i [] (by omega), take_snoc ls i [] hlt', hpre, heq2]⟩ (by omega) ⟨rfl, rfl, rfl, rfl, trivial⟩ (by repeat (first | exact Ent.nil _ | exact Ent.refl _ | (apply Ent.cons; case p => repeat (first | exact Pick.here _ _ | apply Pick.there)) | apply Ent.drop))
  · obtain rfl : i = ls.length := by omega
    have hrm2 : readM ls = (t, 0) := by
      rw [hrm, if_pos]
      rw [List.take_length, ← hll, List.take_length] at hpre
      exact hpre
    repeat (first | apply ES.seq | apply ES.skip | apply ES.region | apply EL.nil | apply ES.block | apply ES.nil | apply ES.exit | apply ES.ret | apply PX.hit | (apply PX.miss; exact rfl) | apply PX.then_x | apply PX.then_r | apply PX.block_n | apply PX.block_r | refine PX.then_n (e := .normal) ?_)
    refine EL.move rfl rfl rfl ?_
    refine EL.assign rfl rfl rfl ?_
    refine EL.assign rfl rfl rfl ?_
    repeat (first | apply ES.seq | apply ES.skip | apply ES.region | apply EL.nil | apply ES.block | apply ES.nil | apply ES.exit | apply ES.ret | apply PX.hit | (apply PX.miss; exact rfl) | apply PX.then_x | apply PX.then_r | apply PX.block_n | apply PX.block_r | refine PX.then_n (e := .normal) ?_)
    exact PX.ret rfl Try.results18 (.cons (.tmp rfl) (.cons (.tmp rfl) .nil)) (fun w hs => ⟨(), by rw [hrm2]; rfl, hs.ent (.nil _)⟩)
theorem lawReads_c (ad : Option Addr) (cap : Nat) (ls : LL) (hb : ls.length + (ls.map List.length).sum ≤ 1073741824) (w : World) (hrd : Rd w w.heap.size ad (ls.map Sv)) :
    Pure Try.prog 4 #[.slice ad ls.length cap] (fun _ : Unit => .bool true) (fun _ => []) w := by
  refine calls_of_ES TB Try.func4 rfl _ Try.ntmps4 rfl (Sat.start w) ?_
  repeat (first | apply ES.seq | apply ES.skip | apply ES.region | apply EL.nil | apply ES.block | apply ES.nil | apply ES.exit | apply ES.ret | apply PX.hit | (apply PX.miss; exact rfl) | apply PX.then_x | apply PX.then_r | apply PX.block_n | apply PX.block_r | refine PX.then_n (e := .normal) ?_)
  refine EL.assign rfl rfl rfl ?_
  repeat (first | apply ES.seq | apply ES.skip | apply ES.region | apply EL.nil | apply ES.block | apply ES.nil | apply ES.exit | apply ES.ret | apply PX.hit | (apply PX.miss; exact rfl) | apply PX.then_x | apply PX.then_r | apply PX.block_n | apply PX.block_r | refine PX.then_n (e := .normal) ?_)
  refine EL.move rfl rfl rfl ?_
  refine EL.callPw rfl rfl rfl ent17 rfl (fun w' hs => read_c ad cap ls hb w' (hrd.sat hs)) ?_
  refine EL.move rfl rfl rfl ?_
  refine EL.extract rfl rfl rfl rfl ?_
  refine EL.extract rfl rfl rfl rfl ?_
  refine EL.assign rfl rfl rfl ?_
  refine EL.assign rfl rfl rfl ?_
  repeat (first | apply ES.seq | apply ES.skip | apply ES.region | apply EL.nil | apply ES.block | apply ES.nil | apply ES.exit | apply ES.ret | apply PX.hit | (apply PX.miss; exact rfl) | apply PX.then_x | apply PX.then_r | apply PX.block_n | apply PX.block_r | refine PX.then_n (e := .normal) ?_)
  refine EL.move rfl rfl rfl ?_
  refine EL.callPw rfl rfl rfl ent18 rfl (fun w' hs => docread_c ad cap ls hb w' (hrd.sat hs)) ?_
  refine EL.move rfl rfl rfl ?_
  refine EL.extract rfl rfl rfl rfl ?_
  refine EL.extract rfl rfl rfl rfl ?_
  refine EL.assign rfl rfl rfl ?_
  refine EL.assign rfl rfl rfl ?_
  repeat (first | apply ES.seq | apply ES.skip | apply ES.region | apply EL.nil | apply ES.block | apply ES.nil | apply ES.exit | apply ES.ret | apply PX.hit | (apply PX.miss; exact rfl) | apply PX.then_x | apply PX.then_r | apply PX.block_n | apply PX.block_r | refine PX.then_n (e := .normal) ?_)
  refine EL.callP rfl rfl rfl ent11 rfl awake_c ?_
  refine EL.move rfl rfl rfl ?_
  refine EL.rew (d := 18) (v' := .bool true) rfl (by first | rfl | (decide) | (simp)) ?_
  refine EL.move rfl rfl rfl ?_
  refine EL.move rfl rfl rfl ?_
  refine EL.eqlS rfl rfl rfl rfl ?_
  refine EL.pickT rfl rfl rfl rfl ?_
  refine EL.move rfl rfl rfl ?_
  refine EL.rew (d := 23) (v' := .bool true) rfl (congrArg Value.bool (decide_eq_true rfl)) ?_
  refine EL.move rfl rfl rfl ?_
  refine EL.move rfl rfl rfl ?_
  refine EL.eqlI rfl rfl rfl rfl ?_
  refine EL.pickT rfl rfl rfl rfl ?_
  refine EL.assign rfl rfl rfl ?_
  repeat (first | apply ES.seq | apply ES.skip | apply ES.region | apply EL.nil | apply ES.block | apply ES.nil | apply ES.exit | apply ES.ret | apply PX.hit | (apply PX.miss; exact rfl) | apply PX.then_x | apply PX.then_r | apply PX.block_n | apply PX.block_r | refine PX.then_n (e := .normal) ?_)
  exact PX.ret rfl Try.results4 (.cons (.tmp rfl) .nil) (fun w hs => ⟨(), by simp; rfl, hs.ent (.nil _)⟩)
theorem listingReads_lifted (os : Os) (started : os.Started) (H : Type) (enc : TypeId × Value → H) (F : Stop.Interp) :
    ReturnsInHanded {} Try.checked os 4 .any ((Rows.OpenSpec.upto Rows.listingReadsSpec).pre6 enc Try.prog Try.f4 Rows.listingReadsUptoRow.domain false) (((Rows.OpenSpec.upto Rows.listingReadsSpec).at F).post enc Try.prog Try.f4 false true false false) := by
  refine returnsInHanded_of_cond (C := Try.checked) (s := (Rows.OpenSpec.upto Rows.listingReadsSpec)) (k := Rows.uptoSmall) rfl own started (by kernel_rfl) Try.func4
    (OpenSpec.witness (enc := enc) (C := Try.checked) (s := (Rows.OpenSpec.upto Rows.listingReadsSpec)) (k := Rows.uptoSmall) rfl false ⟨#[], #[.slice none 0 0], []⟩ 8 (by kernel_rfl) (by kernel_rfl) (by kernel_rfl)
      (x := ([.nil], [], [])) (by kernel_rfl) rfl (by kernel_rfl)) ?_
  intro W base args ds gs before hval0 hW _ hk _
  have hval : ∀ (j : Nat) t v, Try.f4.params[j]? = some t → args[j]? = some v → Value.okWide Try.prog W .any base t v := hval0
  have hW1 : DataW.Whole enc Try.prog Try.f4.params.toList Rows.listingReadsSpec.vars false W args.toList ds gs before := hW
  have hW' := hW1
  obtain ⟨p, q, hA0, hV, rfl, hfz, hnd⟩ := hW1
  have hA : DataW.TrodAll enc Try.prog W 0 (fun _ => true) true Try.f4.params.toList args.toList ds p := hA0
  rw [Try.params4] at hA hval
  obtain ⟨v0, vs0, d0, ds0, p0, q0, hargs0, rfl, rfl, h0, r0⟩ := trodAll_cons hA
  obtain ⟨rfl, rfl, rfl⟩ := trodAll_nil r0
  obtain rfl : args = #[v0] := by cases args; simp_all
  obtain ⟨rfl, rfl⟩ := trodVars_none hV
  obtain ⟨ad0, cap0, xs0, rest0, rfl, hrd0, hd0⟩ := open_svs Try.underlying22 Try.underlying9 (by kernel_rfl) (hval 0 22 v0 rfl rfl) h0
  have hb := of_decide_eq_true hk
  simp only [List.append_nil, Rows.uptoBulkAll, Rows.uptoBulk] at hb
  have ho0 := svs_bulk xs0 rest0 d0 hd0 (by omega)
  refine (lawReads_c ad0 cap0 xs0 (by omega) W hrd0).mono fun e W' ⟨_, he, hs⟩ => ⟨_, he, ?_⟩
  exact law_true (s := Rows.listingReadsSpec) laidOut rfl Try.underlying4 (by kernel_rfl) rfl false rfl rfl rfl hW' hs.below
theorem listingReads_holds : Rows.ListingReadsUptoSaid :=
  OpenClaim.holds_of_cond 4 Try.f4 rfl rfl rfl rfl rfl rfl rfl ⟨rfl, rfl, rfl, rfl, rfl⟩ rfl rfl rfl rfl rfl (by kernel_rfl) Try.func4 (by kernel_rfl)
    (of_decide_eq_true (by kernel_rfl)) (by unfold Func.isWrapper; first | (rw [if_pos (by decide +kernel)]; kernel_rfl) | (rw [if_neg (by decide +kernel)]; exact ⟨rfl, rfl⟩))
    (fun os started H enc _ F => listingReads_lifted os started H enc F)
end Go.Proofs.Ytjjifcfcomhdcaa
