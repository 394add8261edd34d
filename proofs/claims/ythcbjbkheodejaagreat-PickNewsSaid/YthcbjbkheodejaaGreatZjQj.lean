/- The law PickNews returns true at every input; no condition. -/
import Derived.Test.YthcbjbkheodejaaGreatZj6
namespace Go.Proofs.YthcbjbkheodejaaGreat
open Go.ChangeShapes Go.WideShapes Go.ChangeAt
open Go Go.RowKit Sl
set_option maxRecDepth 100000
set_option maxHeartbeats 8000000
set_option linter.unusedVariables false
set_option linter.unusedSimpArgs false
attribute [local irreducible] ES EL PX wps
def adD {H : Type} (a : Ad) : DataW H := .agg [.lit (.int .i64 a.kind), .lit (.int .i64 a.line), .lit (.string a.re)]
def rwD {H : Type} (r : Rw) : DataW H := .agg [adD r.A, adD r.B, .lit (.bool r.not)]
theorem open_ad {H : Type} {enc : TypeId × Value → H} {w : World} {base : Nat} {sp : Nat → Bool} {held : Bool} {n : Nat} {cs : List Value} {y : DataW H × List MemPlace} (h : DataW.trod enc Tryz.prog w base sp held n 52 cs = some y) : ∃ a : Ad, cs = adC a ∧ y.1 = adD a := by
  obtain ⟨xs, m, _, rfl, hl, hx, hf⟩ := DataW.trod_struct Tryz.underlying52 h
  have hc3 : cs.length = 3 := hl.trans (by kernel_rfl)
  have hx3 : xs.length = 3 := hx
  obtain ⟨c0, c1, c2, rfl⟩ : ∃ c0 c1 c2, cs = [c0, c1, c2] := by
    match cs, hc3 with
    | [a, b, c], _ => exact ⟨a, b, c, rfl⟩
  obtain ⟨x0, x1, x2, rfl⟩ : ∃ x0 x1 x2, xs = [x0, x1, x2] := by
    match xs, hx3 with
    | [a, b, c], _ => exact ⟨a, b, c, rfl⟩
  have h0 : DataW.trod enc Tryz.prog w base sp held m 3 (([c0, c1, c2].drop 0).take (Tryz.prog.cellsOf 3)) = some x0 := hf 0 _ rfl
  have h1 : DataW.trod enc Tryz.prog w base sp held m 3 (([c0, c1, c2].drop 1).take (Tryz.prog.cellsOf 3)) = some x1 := hf 1 _ rfl
  have h2 : DataW.trod enc Tryz.prog w base sp held m 9 (([c0, c1, c2].drop 2).take (Tryz.prog.cellsOf 9)) = some x2 := hf 2 _ rfl
  have e3 : Tryz.prog.cellsOf 3 = 1 := by kernel_rfl
  have e9 : Tryz.prog.cellsOf 9 = 1 := by kernel_rfl
  rw [e3] at h0 h1
  rw [e9] at h2
  obtain ⟨k, hk, hy0, _⟩ := DataW.trod_int Tryz.underlying3 h0
  obtain ⟨l, hl1, hy1, _⟩ := DataW.trod_int Tryz.underlying3 h1
  obtain ⟨s, hs, hy2, _⟩ := DataW.trod_string Tryz.underlying9 h2
  obtain rfl : c0 = .int .i64 k := by simpa using hk
  obtain rfl : c1 = .int .i64 l := by simpa using hl1
  obtain rfl : c2 = .string s := by simpa using hs
  subst hy0; subst hy1; subst hy2
  exact ⟨⟨k, l, s.data.toList⟩, by simp [adC, Sv_eta], rfl⟩
theorem open_rows {H : Type} {enc : TypeId × Value → H} {w : World} {base : Nat} {sp : Nat → Bool} {held : Bool} {r : Reach} {b0 : Nat} {v : Value} {d : DataW H} {ps : List MemPlace} (hval : Value.okWide Tryz.prog w r b0 50 v) (hd : DataW.Trod enc Tryz.prog w base sp held 50 v d ps) :
    ∃ (ad : Option Addr) (cap : Nat) (xs : List Rw) (rest : List (DataW H)), v = .slice ad xs.length cap ∧ Rd w w.heap.size ad (rwsC xs) ∧ ((d = .nil ∧ xs = []) ∨ d = .slice (xs.map rwD) rest) :=
  open_slice rwC rwD 7 (by omega) (fun _ => rfl) Tryz.underlying50 (by kernel_rfl) (fun n cs y h => by
    obtain ⟨xs, m, _, rfl, hl, hx, hf⟩ := DataW.trod_struct Tryz.underlying55 h
    have hc : cs.length = 7 := hl.trans (by kernel_rfl)
    have hx3 : xs.length = 3 := hx
    obtain ⟨x0, x1, x2, rfl⟩ : ∃ x0 x1 x2, xs = [x0, x1, x2] := by
      match xs, hx3 with
      | [a, b, c], _ => exact ⟨a, b, c, rfl⟩
    have h0 : DataW.trod enc Tryz.prog w base sp held m 52 ((cs.drop 0).take (Tryz.prog.cellsOf 52)) = some x0 := hf 0 _ rfl
    have h1 : DataW.trod enc Tryz.prog w base sp held m 52 ((cs.drop 3).take (Tryz.prog.cellsOf 52)) = some x1 := hf 1 _ rfl
    have h2 : DataW.trod enc Tryz.prog w base sp held m 4 ((cs.drop 6).take (Tryz.prog.cellsOf 4)) = some x2 := hf 2 _ rfl
    have e3 : Tryz.prog.cellsOf 52 = 3 := by kernel_rfl
    have e1 : Tryz.prog.cellsOf 4 = 1 := by kernel_rfl
    rw [e3] at h0 h1
    rw [e1] at h2
    obtain ⟨A, hA, hy0⟩ := open_ad h0
    obtain ⟨B, hB, hy1⟩ := open_ad h1
    obtain ⟨b, hb, hy2⟩ := DataW.trod_bool Tryz.underlying4 h2
    obtain ⟨c0, c1, c2, c3, c4, c5, c6, rfl⟩ : ∃ c0 c1 c2 c3 c4 c5 c6, cs = [c0, c1, c2, c3, c4, c5, c6] := by
      match cs, hc with
      | [a, b, c, d, e, f, g], _ => exact ⟨a, b, c, d, e, f, g, rfl⟩
    have hA' : [c0, c1, c2] = adC A := hA
    have hB' : [c3, c4, c5] = adC B := hB
    have hb' : [c6] = [Value.bool b] := hb
    refine ⟨⟨A, B, b⟩, ?_, ?_⟩
    · show [c0, c1, c2] ++ [c3, c4, c5] ++ [c6] = rwC ⟨A, B, b⟩
      rw [hA', hB', hb']; rfl
    · subst hy2
      show DataW.agg [x0.1, x1.1, _] = rwD ⟨A, B, b⟩
      rw [hy0, hy1]; rfl) hval hd
theorem w_all {H : Type} {P : Program} {e : TypeId} {n : Nat} {d : DataW H} : ∀ {l : List (DataW H)}, d ∈ l → n ∈ d.weights P e → n ∈ DataW.weightsAll P e l
  | x :: l, h, hn => by
    rw [DataW.weightsAll, List.mem_append]
    rcases List.mem_cons.1 h with rfl | h
    · exact .inl hn
    · exact .inr (w_all h hn)
theorem rows_w {H : Type} (xs : List Rw) (rest : List (DataW H)) (d : DataW H) (hd : (d = .nil ∧ xs = []) ∨ d = .slice (xs.map rwD) rest) (hk : (DataW.weightsEach Tryz.prog [50] [d]).all (· ≤ reachBytes) = true) : xs.length * 72 ≤ 140737488351232 ∧ ∀ r ∈ xs, r.A.re.length ≤ 4611686018427387904 ∧ r.B.re.length ≤ 4611686018427387904 := by
  rcases hd with ⟨rfl, rfl⟩ | rfl
  · exact ⟨by simp, by simp⟩
  · have hb : Tryz.prog.bytesOf 55 = 72 := by kernel_rfl
    have hu := Tryz.underlying50
    have hall : ∀ n ∈ ((xs.map (rwD (H := H))).length + rest.length) * Tryz.prog.bytesOf 55 :: (DataW.weightsAll Tryz.prog 55 (xs.map (rwD (H := H))) ++ DataW.weightsAll Tryz.prog 55 rest), n ≤ reachBytes := by
      intro n hn
      have hk' := List.all_eq_true.1 hk n (by
        simp only [DataW.weightsEach, DataW.weights, hu, List.append_nil]
        exact hn)
      exact of_decide_eq_true hk'
    have h0 := hall _ List.mem_cons_self
    rw [hb, List.length_map] at h0
    have hr : reachBytes = 140737488351232 := rfl
    refine ⟨by rw [hr, Nat.add_mul] at h0; omega, fun r hrm => ?_⟩
    have hw : ∀ n ∈ [r.A.re.length, r.B.re.length], n ∈ DataW.weights (H := H) Tryz.prog 55 (rwD r) := by
      intro n hn
      have e1 : DataW.weights (H := H) Tryz.prog 55 (rwD r) = [r.A.re.length, r.B.re.length] := by
        have ea : ∀ a : Ad, DataW.weights (H := H) Tryz.prog 52 (adD a) = [a.re.length] := fun a => by
          unfold adD
          rw [DataW.weights, Tryz.underlying52]
          simp [DataW.weightsEach, DataW.weights]
        unfold rwD
        rw [DataW.weights, Tryz.underlying55]
        simp [DataW.weightsEach, ea, DataW.weights]
      rw [e1]; exact hn
    have hin : ∀ n ∈ [r.A.re.length, r.B.re.length], n ≤ reachBytes := fun n hn => hall n (List.mem_cons_of_mem _ (List.mem_append_left _ (w_all (List.mem_map.2 ⟨r, hrm, rfl⟩) (hw n hn))))
    have ha := hin r.A.re.length (by simp)
    have hbb := hin r.B.re.length (by simp)
    rw [hr] at ha hbb
    exact ⟨by omega, by omega⟩
theorem ad_self (d : Nat) (a : Ad) : SelfAt Tryz.prog (d + 2) 52 (.agg (adC a).toArray) :=
  SelfAt.struct TB rfl rfl sth52 _ (fun f hf => by
    rcases hf with _ | ⟨_, _ | ⟨_, _ | ⟨_, hf⟩⟩⟩
    · exact ⟨_, fun w => part_cell TB rfl rfl rfl w, SelfAt.int Tryz.underlying3 _⟩
    · exact ⟨_, fun w => part_cell TB rfl rfl rfl w, SelfAt.int Tryz.underlying3 _⟩
    · exact ⟨_, fun w => part_cell TB rfl rfl rfl w, SelfAt.str Tryz.underlying9 _⟩
    · nomatch hf)
theorem rw_self (r : Rw) (w : World) : (Op.equal 55 (.agg (rwC r).toArray) (.agg (rwC r).toArray)).run Tryz.prog w = .ok true w :=
  SelfAt.equal (SelfAt.struct (d := 9999) TB rfl rfl sth55 _ (fun f hf => by
    rcases hf with _ | ⟨_, _ | ⟨_, _ | ⟨_, hf⟩⟩⟩
    · exact ⟨.agg (adC r.A).toArray, fun w => Eq.trans (part_agg (el := 52) TB rfl rfl (rwC r).toArray 0 w) rfl, ad_self 9997 r.A⟩
    · exact ⟨.agg (adC r.B).toArray, fun w => Eq.trans (part_agg (el := 52) TB rfl rfl (rwC r).toArray 3 w) rfl, ad_self 9997 r.B⟩
    · exact ⟨_, fun w => part_cell TB rfl rfl rfl w, SelfAt.bool Tryz.underlying4 _⟩
    · nomatch hf)) w
theorem Rd.pre {w : World} {B : Nat} {ad : Option Addr} {cs cs' : List Value} (h : Rd w B ad (cs ++ cs')) : Rd w B ad cs := fun hne => by
  obtain ⟨g, off, h1, h2, h3⟩ := h (by simp [hne])
  exact ⟨g, off, h1, h2, fun j v hj => h3 j v (by rw [List.getElem?_append_left (List.getElem?_eq_some_iff.1 hj).1]; exact hj)⟩
def pkP {rows : List Rw} : NwX rows → Option Addr
  | .bad _ => none
  | .ok _ gp _ _ => some ⟨gp, 0, none⟩
theorem pickers_c (rows : List Rw) (hre : ∀ r ∈ rows, r.A.re.length ≤ 4611686018427387904 ∧ r.B.re.length ≤ 4611686018427387904) (ad0 : Option Addr) (cap0 : Nat) (w : World) (hG : GR w w.heap.size) (hrd : Rd w w.heap.size ad0 (rwsC rows)) :
    Pure Tryz.prog 16 #[.slice ad0 rows.length cap0] (fun x : NwX rows × Option Addr => .tuple #[.pointer (pkP x.1), .pointer x.2, .bool true]) (fun x => [HA.pack x.1.H]) w := by
  have hq := fun w' hr => dpNew_c rows hre ad0 cap0 w' hr
  have hp := fun w' hg hr => pickNew_c rows hre ad0 cap0 w' hg hr
  refine calls_of_ES TB Tryz.func16 rfl _ Tryz.ntmps16 rfl (Sat.start w) ?_; refine .go ?_; (repeat constructor); refine .as_ ?_; refine .as_ ?_; refine .as_ ?_; refine .go ?_; (repeat constructor); refine .mv ?_; (refine EL.callXw rfl rfl rfl ent32 rfl (fun w' hs => hp w' (GR.sat hG hs) (Rd.sat hrd hs)) ?_; intro x); refine EL.imp (H' := [HA.pack x.H]) (fun w hs => Sl.Sat.pack (Hs := x.H) hs) ?_
  cases x with
  | bad h =>
    simp only [if_neg h] at hq
    refine .mv ?_; refine .ex ?_; refine .ex ?_; refine .as_ ?_; refine .as_ ?_; refine .go ?_; (repeat constructor); refine .mv ?_; (refine EL.callXw rfl rfl rfl ent33 rfl (fun w' hs => hq w' (Rd.sat hrd hs)) ?_; intro _); refine .mv ?_; refine .ex ?_; refine .ex ?_; refine .as_ ?_; refine .as_ ?_; refine .go ?_; (repeat constructor); refine .mv ?_; refine .mv ?_; refine .mv ?_; refine .mv ?_; refine .ei ?_; refine .mv ?_; refine EL.rew (d := 24) (v' := .bool true) rfl ((by simp)) ?_; refine .mv ?_; refine EL.eqlPn rfl rfl rfl rfl rfl rfl ?_; refine .mv ?_; refine EL.eqlPn rfl rfl rfl rfl rfl rfl ?_; refine EL.eqlB rfl rfl rfl rfl rfl rfl ?_; refine .pt ?_; refine .as_ ?_; refine .as_ ?_; refine .as_ ?_; refine .go ?_; repeat constructor
    exact PX.ret rfl Tryz.results16 (.cons (.tmp rfl) (.cons (.tmp rfl) (.cons (.tmp rfl) .nil))) (fun w hs => ⟨(.bad h, none), rfl, hs.ent (.i (by repeat constructor))⟩)
  | ok h gp z hz =>
    simp only [if_pos h] at hq
    refine .mv ?_; refine .ex ?_; refine .ex ?_; refine .as_ ?_; refine .as_ ?_; refine .go ?_; (repeat constructor); refine .mv ?_; (refine EL.callXw rfl rfl rfl ent33 rfl (fun w' hs => hq w' (Rd.sat hrd hs)) ?_; intro gq); refine .mv ?_; refine .ex ?_; refine .ex ?_; refine .as_ ?_; refine .as_ ?_; refine .go ?_; (repeat constructor); refine .mv ?_; refine .mv ?_; refine .mv ?_; refine .mv ?_; refine .ei ?_; refine .mv ?_; refine EL.rew (d := 24) (v' := .bool true) rfl ((by simp)) ?_; refine .mv ?_; refine EL.eqlPn rfl rfl rfl rfl rfl rfl ?_; refine .mv ?_; refine EL.eqlPn rfl rfl rfl rfl rfl rfl ?_; refine EL.eqlB rfl rfl rfl rfl rfl rfl ?_; refine .pt ?_; refine .as_ ?_; refine .as_ ?_; refine .as_ ?_; refine .go ?_; repeat constructor
    exact PX.ret rfl Tryz.results16 (.cons (.tmp rfl) (.cons (.tmp rfl) (.cons (.tmp rfl) .nil))) (fun w hs => ⟨(.ok h gp z hz, some ⟨gq, 0, none⟩), rfl, hs.ent (.i (by repeat constructor))⟩)
abbrev rw77 : Rw := ⟨lnA 77, ⟨0, 0, []⟩, true⟩
theorem pickNews_c (ad0 : Option Addr) (cap0 : Nat) (rows : List Rw) (hb : rows.length * 72 ≤ 140737488351232 ∧ ∀ r ∈ rows, r.A.re.length ≤ 4611686018427387904 ∧ r.B.re.length ≤ 4611686018427387904) (w : World) (hG : GR w w.heap.size) (hrd : Rd w w.heap.size ad0 (rwsC rows)) :
    Pure Tryz.prog 5 #[.slice ad0 rows.length cap0] (fun _ : Unit => .bool true) (fun _ => []) w := by
  obtain ⟨hb, hre⟩ := hb
  have hrl := rwsC_len rows
  have hone : ∀ u ∈ rwsC rows, u.oneCell' = true := by
    intro u hu
    obtain ⟨r, _, hr⟩ := List.mem_flatMap.1 hu
    simp only [rwC, adC, List.mem_append, List.mem_cons, List.not_mem_nil, or_false] at hr
    rcases hr with ((rfl | rfl | rfl) | rfl | rfl | rfl) | rfl <;> rfl
  obtain ⟨full, hfull⟩ : ∃ full, full = rwsC rows ++ rwC rw77 := ⟨_, rfl⟩
  have hfl : (full.drop (0 + rows.length * 7)).take (rwC rw77).length = rwC rw77 := by rw [hfull, List.drop_append_of_le_length (by omega), List.drop_of_length_le (by omega)]; rfl
  refine calls_of_ES TB Tryz.func5 rfl _ Tryz.ntmps5 rfl (Sat.start w) ?_; refine .go ?_; (repeat constructor); refine .as_ ?_; refine .go ?_; (repeat constructor); refine .as_ ?_; refine .go ?_; (repeat constructor); refine .mv ?_; refine .mv ?_
  (refine EL.copyNil rfl rfl rfl rfl rfl rfl rfl rfl rfl (fun w hs => Rd.sat hrd hs) hrl hone (by unfold maxLen; omega) (by show rows.length * 72 ≤ _; omega) ?_; intro fad fcap)
  refine .as_ ?_; refine .go ?_; (repeat constructor); refine .go ?_; (repeat constructor); refine .mv ?_; refine EL.callP rfl rfl rfl ent15 rfl (line22_c 77) ?_; refine EL.buildS (rwC rw77).toArray rfl rfl rfl rfl rfl (by kernel_rfl) rfl ?_; (refine .b1 ?_; intro b14)
  (refine EL.append1 (news := rwC rw77) rfl rfl rfl rfl rfl rfl rfl rfl rfl (by repeat constructor) (by repeat constructor) (all1 rfl) (by rfl) (by unfold maxLen; omega) (by show (rows.length + 1) * 72 ≤ _; omega) ?_; intro a15 c15)
  refine .as_ ?_; refine .go ?_; (repeat constructor); refine EL.rowEq (v := .slice (some ⟨a15, 0, none⟩) (rows.length + 1) c15) (by repeat constructor) hfull.symm ?_
  refine EL.rowForm (e := 55) (sz := 7) (n := rows.length + 1) (cs := full) (ad := some ⟨a15, 0, none⟩) (len := rows.length + 1) (cap := c15) (by repeat constructor) (fun hf => ?_)
  have hcap := hf.2.1
  refine .go ?_; (repeat constructor); refine .mv ?_; refine .mv ?_; refine .lL ?_
  refine EL.ofRV (RV.sliceHi (hi := rows.length) rfl rfl rfl rfl rfl (by omega)) rfl rfl rfl (by intro c h; cases h) ?_
  (refine EL.callXw rfl rfl rfl ent16 rfl (fun w' hs => pickers_c rows hre (some ⟨a15, 0, none⟩) c15 w' (GR.sat hG hs) (Rd.pre (cs' := rwC rw77) (by rw [← hfull]; exact Rd.row hs (by repeat constructor) (by decide)))) ?_; rintro ⟨x, q⟩)
  refine .mv ?_; refine .ex ?_; refine .ex ?_; refine .ex ?_; refine .as_ ?_; refine .as_ ?_; refine .as_ ?_; refine .go ?_; (repeat constructor); refine .g0 ?_; repeat constructor
  refine ES.draw (X := Unit) (fun _ => [(0, .slice ad0 rows.length cap0), (3, .slice (some ⟨a15, 0, none⟩) (rows.length + 1) c15), (4, .pointer (pkP x)), (40, .bool false)]) (fun _ => HA.row (.slice (some ⟨a15, 0, none⟩) (rows.length + 1) c15) 55 7 (rows.length + 1) full :: HA.pack x.H :: []) (HA.row (.slice (some ⟨a15, 0, none⟩) (rows.length + 1) c15) 55 7 (rows.length + 1) full :: []) mixed (.i (by repeat constructor)) ?_ (fun _ => ?_)
  · refine .ld 0 ?_; refine EL.callPw rfl rfl rfl ent17 rfl (fun w' hs => awake22_c w' (GR.sat hG hs)) ?_; refine .nx ?_; refine .tk 1 rfl (RV.not rfl) ?_; refine .tk 2 rfl (RV.move rfl) ?_
    refine ED.rew (d := 27) (v' := .bool false) rfl (by first | rfl | (decide) | (simp)) ?_
    refine .tk 3 rfl (RV.move rfl) ?_; refine .tk 4 rfl (RV.not rfl) ?_; refine .tk 5 rfl (RV.pickF rfl rfl) ?_; refine .tk 6 rfl (RV.move rfl) ?_
    refine ED.rew (d := 31) (v' := .bool false) rfl (by first | rfl | (decide) | (simp)) ?_
    refine .tk 7 rfl (RV.move rfl) ?_; refine .tk 8 rfl (RV.move rfl) ?_; refine .tk 9 rfl (RV.lenL rfl rfl rfl) ?_; refine .tk 10 rfl (RV.indexAddrL (i := rows.length) rfl rfl rfl rfl rfl (by omega)) ?_; refine .tk 11 rfl (RV.loadRA (rwC rw77) rfl rfl rfl rfl (by repeat constructor) hfl) ?_; refine .ld 12 ?_; refine EL.callP rfl rfl rfl ent15 rfl (line22_c 77) ?_; refine .nx ?_; refine .tk 13 rfl (RV.buildS (rwC rw77).toArray rfl rfl rfl rfl (by kernel_rfl)) ?_; refine .tk 14 rfl (RV.neqAgg (b := true) rfl rfl eqg55 (rw_self rw77)) ?_; refine .tk 15 rfl (RV.pickF rfl rfl) ?_; refine .dn ?_
    exact .cy ()
  refine .go ?_; (repeat constructor); refine ES.condF rfl ?_; refine .go ?_; (repeat constructor); refine .mv ?_; refine .lL ?_; refine .mv ?_; refine .go ?_; (repeat constructor); refine ES.loop (σ := Nat) (fun i => i ≤ rows.length) (fun i => [(0, .slice ad0 rows.length cap0), (3, .slice (some ⟨a15, 0, none⟩) (rows.length + 1) c15), (4, .pointer (pkP x)), (42, Iv (rows.length : Nat)), (43, Iv (i : Nat))]) (fun _ => HA.row (.slice (some ⟨a15, 0, none⟩) (rows.length + 1) c15) 55 7 (rows.length + 1) full :: HA.pack x.H :: []) (fun i => rows.length - i) 0 (Nat.zero_le _) ⟨rfl, rfl, rfl, rfl, rfl, trivial⟩ (.i (by repeat constructor)) ?_
  intro i hi
  dsimp only at hi ⊢
  refine .go ?_; (repeat constructor); refine .ls ?_; refine .go ?_; repeat constructor
  refine ES.condD rfl (fun hlt => ?_) (fun hge => ?_)
  · have hlt' : i < rows.length := by omega
    obtain ⟨r, hri⟩ : ∃ r, rows[i]? = some r := ⟨_, List.getElem?_eq_getElem hlt'⟩
    have hget := rwsC_get rows i r hri
    obtain ⟨rg, ro, rfl, _⟩ := hrd (fun e => by rw [e] at hrl; simp at hrl; omega)
    have hfr : (full.drop (0 + i * 7)).take (rwC r).length = rwC r := by
      have hrw : rows = rows.take i ++ r :: rows.drop (i + 1) := by
        conv => lhs; rw [← List.take_append_drop i rows, List.drop_eq_getElem_cons hlt', show rows[i] = r from (List.getElem?_eq_some_iff.1 hri).2]
      have hlen : (rwsC (rows.take i)).length = i * 7 := by rw [rwsC_len, List.length_take, Nat.min_eq_left (by omega)]
      have hsp : full = rwsC (rows.take i) ++ (rwC r ++ (rwsC (rows.drop (i + 1)) ++ rwC rw77)) := by
        rw [hfull]
        conv => lhs; rw [hrw]
        simp [rwsC]
      rw [hsp, Nat.zero_add, ← hlen, List.drop_left, List.take_left' rfl]
    refine .go ?_; (repeat constructor); refine .mv ?_; refine .as_ ?_
    skip
    refine .g0 ?_; repeat constructor
    refine ES.draw (X := Unit) (fun _ => [(0, .slice (some ⟨rg, ro, none⟩) rows.length cap0), (3, .slice (some ⟨a15, 0, none⟩) (rows.length + 1) c15), (4, .pointer (pkP x)), (42, Iv (rows.length : Nat)), (43, Iv (i : Nat)), (54, .bool false)]) (fun _ => HA.row (.slice (some ⟨a15, 0, none⟩) (rows.length + 1) c15) 55 7 (rows.length + 1) full :: HA.pack x.H :: []) (HA.row (.slice (some ⟨a15, 0, none⟩) (rows.length + 1) c15) 55 7 (rows.length + 1) full :: []) mixed (.i (by repeat constructor)) ?_ (fun _ => ?_)
    · refine .tk 0 rfl (RV.move rfl) ?_; refine .tk 1 rfl (RV.move rfl) ?_; refine .tk 2 rfl (RV.indexAddrL (i := i) rfl rfl rfl rfl rfl (by omega)) ?_; refine .tk 3 rfl (RV.loadRA (rwC r) rfl rfl rfl rfl (by repeat constructor) hfr) ?_; refine .tk 4 rfl (RV.move rfl) ?_; refine .tk 5 rfl (RV.move rfl) ?_; refine .tk 6 rfl (RV.indexAddrL (i := i) rfl rfl rfl rfl rfl (by omega)) ?_; refine .tk 7 rfl (RV.loadOldA (off := ro) (j := i * 7) (vs := rwC r) rfl rfl rfl rfl (by simp [rwC, adC]) hrd hget) ?_; refine .tk 8 rfl (RV.neqAgg (b := true) rfl rfl eqg55 (rw_self r)) ?_; refine .dn ?_
      exact .cy ()
    refine .go ?_; (repeat constructor); refine ES.condF rfl ?_; refine .go ?_; (repeat constructor); refine .a1 ?_; refine .mv ?_; refine .go ?_; repeat constructor
    exact .ly (i + 1) (by omega) (by omega)
  · cases x with
    | bad h =>
      refine .go ?_; (repeat constructor); refine .mv ?_; refine EL.eqlPn rfl rfl rfl rfl rfl rfl ?_; refine .mv ?_
      refine EL.rew (d := 58) (v' := .bool true) rfl (by first | rfl | (decide) | (simp)) ?_
      refine .ps ?_; refine .ps ?_; refine .ps ?_; refine .pt ?_; refine .as_ ?_; refine .go ?_; repeat constructor
      exact PX.ret rfl Tryz.results5 (.cons (.tmp rfl) .nil) (fun w hs => ⟨(), rfl, hs.ent (.nil _)⟩)
    | ok h gp z hz =>
      have hl := pickLast_c gp z.ad z.cs.length z.cap none
      refine ES.imp (H' := PKB gp z.ad z.cs.length z.cap none :: []) (fun w hs => ?_) ?_
      · have h1 := Sl.Sat.unpack (hs.ent (H' := HA.pack (NwX.ok h gp z hz : NwX rows).H :: []) (.i (by repeat constructor)))
        exact Sat.ent (H := PKB gp z.ad z.cs.length z.cap none :: CRow z.ad z.cap z.cs :: HA.mats z.ms :: []) h1 (.i (by repeat constructor))
      refine .go ?_; (repeat constructor); refine .mv ?_; refine EL.eqlPn rfl rfl rfl rfl rfl rfl ?_; refine .mv ?_
      refine EL.rew (d := 58) (v' := .bool false) rfl (by first | rfl | (decide) | (simp)) ?_
      refine .mv ?_; refine EL.callM1 rfl rfl rfl ent18 rfl hl (by repeat constructor) ?_; refine EL.eqlPn rfl rfl rfl rfl rfl rfl ?_; refine .pf ?_; refine .as_ ?_; refine .go ?_; repeat constructor
      exact PX.ret rfl Tryz.results5 (.cons (.tmp rfl) .nil) (fun w hs => ⟨(), rfl, hs.ent (.nil _)⟩)
theorem pickNews_lifted (os : Os) (started : os.Started) (H : Type) (enc : TypeId × Value → H) :
    ReturnsInHanded {} Tryz.checked os 5 .any (Rows.pickNewsSpec.pre6 enc Tryz.prog Tryz.f5 Rows.pickNewsRow.domain false) (Rows.pickNewsSpec.post enc Tryz.prog Tryz.f5 false true false false) := by
  refine returnsInHanded_of_change_shaped (C := Tryz.checked) own started (by kernel_rfl) Tryz.func5
    (ChangeSpec.witness6 (enc := enc) (C := Tryz.checked) false ⟨#[], #[.slice none 0 0], []⟩ 8 (by kernel_rfl) (by kernel_rfl) (by kernel_rfl) (by kernel_rfl)) ?_
  intro W base args ds gs before hval0 hW _ hsz hsh _
  have hk : (DataW.weightsEach Tryz.prog (Tryz.f5.params.toList ++ []) (ds ++ gs)).all (· ≤ reachBytes) = true := hsz
  have hval : ∀ (j : Nat) t v, Tryz.f5.params[j]? = some t → args[j]? = some v → Value.okWide Tryz.prog W .any base t v := hval0
  have hW1 : DataW.Whole enc Tryz.prog Tryz.f5.params.toList Rows.pickNewsSpec.vars false W args.toList ds gs before := hW
  have hW' := hW1
  obtain ⟨p, q, hA0, hV, rfl, hfz, hnd⟩ := hW1
  have hA : DataW.TrodAll enc Tryz.prog W 0 (fun _ => true) true Tryz.f5.params.toList args.toList ds p := hA0
  rw [Tryz.params5] at hA hval hk
  obtain ⟨v0, vs0, d0, ds0, p0, q0, hargs0, rfl, rfl, h0, r0⟩ := trodAll_cons hA
  obtain ⟨rfl, rfl, rfl⟩ := trodAll_nil r0
  obtain rfl : args = #[v0] := by cases args; simp_all
  obtain ⟨rfl, rfl⟩ := trodVars_none hV
  obtain ⟨ad0, cap0, xs0, rest0, rfl, hrd0, hd0⟩ := open_rows (hval 0 50 v0 rfl rfl) h0
  refine (pickNews_c ad0 cap0 xs0 (rows_w xs0 rest0 _ hd0 hk) W (GR.of hsh) hrd0).mono fun e W' ⟨_, he, hs⟩ => ⟨_, he, ?_⟩
  exact law_true (s := Rows.pickNewsSpec) laidOut rfl Tryz.underlying4 (by kernel_rfl) rfl false rfl rfl rfl hW' hs.below
theorem pickNews_holds : Rows.PickNewsSaid :=
  OpenClaim.holds_of_wide 5 Tryz.f5 rfl rfl rfl rfl rfl rfl rfl ⟨rfl, rfl, rfl, rfl, rfl⟩ rfl rfl rfl rfl rfl (by kernel_rfl) Tryz.func5 (by kernel_rfl)
    (of_decide_eq_true (by kernel_rfl)) (by unfold Func.isWrapper; first | (rw [if_pos (by decide +kernel)]; kernel_rfl) | (rw [if_neg (by decide +kernel)]; exact ⟨rfl, rfl⟩))
    (fun os started H enc _ => pickNews_lifted os started H enc)
end Go.Proofs.YthcbjbkheodejaaGreat
