/- Layer 22: the law's helpers; a picker asked out of its rows; awake. Layer 22: awake. -/
import Derived.Test.YtblpgpgbnlhjlaaQd
namespace Go.Proofs.Ytblpgpgbnlhjlaa
open Go Go.RowKit Sl
set_option maxRecDepth 100000
set_option maxHeartbeats 8000000
set_option linter.unusedVariables false
set_option linter.unusedSimpArgs false
attribute [local irreducible] ES EL PX wps

theorem run_equalIn_bool {P : Program} {t : Nat} (hT : P.underlying t = some .bool) (d : Nat) (m n : Bool) (w : World) : (Op.equalIn (d + 1) t (.bool m) (.bool n)).run P w = .ok (m == n) w := by
  simp only [Op.equalIn, Sem.run_bind, run_underlying hT, Result.andThen, if_true, Sem.run_pure]
/-- Arrays of bools. -/
theorem run_equal_arrB {P : Program} (T : TyTab P) {t el len : Nat} {ti te : TI} (ht : T.f t = some ti) (hu : ti.u = .array len el) (hte : T.f el = some te) (hue : te.u = .bool) (hsz : te.size = 1) (xs ys : List Bool) (hx : xs.length = len) (hy : ys.length = len) (w : World) :
    (Op.equal t (.agg (xs.map .bool).toArray) (.agg (ys.map .bool).toArray)).run P w = .ok (decide (xs = ys)) w := by
  have hT := (T.ok t ti ht).u
  rw [hu] at hT
  have hE := (T.ok el te hte).u
  rw [hue] at hE
  have hI := (T.ok el te hte).runInfo w
  have hag : te.agg = false := by simp [TI.agg, hue]
  have hpart : ∀ (zs : List Bool) (i : Nat) (h : i < zs.length), (part el (zs.map Value.bool).toArray (i * 1)).run P w = .ok (.bool zs[i]) w := fun zs i h => by
    simp [part, hI.2.2.2, hag, Result.andThen, List.getElem?_eq_getElem h]
  have key : ∀ d, (Op.equalIn (d + 2) t (.agg (xs.map .bool).toArray) (.agg (ys.map .bool).toArray)).run P w = .ok (decide (xs = ys)) w := fun d => by
    rw [Op.equalIn]
    simp only [Sem.run_bind, run_underlying hT, Result.andThen, hI.1, hsz]
    have loop : ∀ (n i : Nat), i + n = len → (forIn (m := Sem) (List.range' i n 1) ((none, ()) : Option Bool × Unit) (fun i r => do
        if !(← Op.equalIn (d + 1) el (← part el (xs.map Value.bool).toArray (i * 1)) (← part el (ys.map Value.bool).toArray (i * 1))) then pure (.done (some false, ()))
        else pure (.yield (none, ())))).run P w = .ok (if xs.drop i = ys.drop i then (none, ()) else (some false, ())) w := by
      intro n
      induction n with
      | zero =>
        intro i hi
        have h1 : xs.drop i = [] := by simp; omega
        have h2 : ys.drop i = [] := by simp; omega
        simp [h1, h2]
      | succ n ih =>
        intro i hi
        have hxi : i < xs.length := by omega
        have hyi : i < ys.length := by omega
        rw [List.range'_succ, List.forIn_cons]
        simp only [Sem.run_bind, hpart xs i hxi, hpart ys i hyi, Result.andThen, run_equalIn_bool hE]
        rw [List.drop_eq_getElem_cons hxi, List.drop_eq_getElem_cons hyi]
        by_cases e : xs[i] = ys[i]
        · simp only [e, beq_self_eq_true, Bool.not_true, Bool.false_eq_true, if_false, Sem.run_bind, Sem.run_pure, Result.andThen, ih (i + 1) (by omega), List.cons.injEq, true_and]
        · have : (xs[i] == ys[i]) = false := by simpa using e
          rw [if_neg (fun h => e (List.cons.inj h).1)]
          simp [this]
    have h0 := loop len 0 (by omega)
    rw [forIn_range0, h0]
    by_cases e : xs = ys <;> simp [e]
  exact key 9998
theorem askOut_c (gp : Nat) (ad : Option Addr) (n cap : Nat) (last : Option Mt) (i line : Int) (lst : Bool) (s : List UInt8) (hi : i < 0 ∨ (n : Int) ≤ i) :
    Mut Try.prog 33 #[Pv gp 0, Iv i, Iv line, .bool lst, Sv s] [PKB gp ad n cap last] (fun _ : Unit => .tuple #[.bool false, .bool false, Iv 1]) (fun _ => [PKB gp ad n cap last]) := by
  intro w0 B R w h
  replace h : Sat w0 B (PKB gp ad n cap last :: R) w := h
  refine calls_of_ES TB Try.func33 rfl _ Try.ntmps33 rfl h ?_
  refine .go ?_; repeat constructor
  refine EL.assign rfl rfl rfl ?_
  refine EL.assign rfl rfl rfl ?_
  refine EL.assign rfl rfl rfl ?_
  refine .go ?_; repeat constructor
  refine EL.move rfl rfl rfl ?_
  refine EL.eqlPn rfl rfl rfl rfl rfl rfl ?_
  refine .go ?_; repeat constructor
  refine ES.condF rfl ?_
  refine .go ?_; repeat constructor
  refine EL.cutX (X := Unit) (fun _ => [(32, .bool true)]) (fun _ => PKB gp ad n cap last :: R) ?_ (fun _ => ?_)
  · refine .go ?_; repeat constructor
    refine EL.move rfl rfl rfl ?_
    refine EL.lss rfl rfl rfl rfl ?_
    refine EL.move rfl rfl rfl ?_
    first | refine EL.splitD (d := 24) rfl (fun hp24 => ?_) (fun hp24 => ?_) | refine EL.splitN (d := 24) rfl (fun hp24 => ?_) (fun hp24 => ?_) | refine EL.splitB (d := 24) rfl (fun hp24 => ?_) (fun hp24 => ?_)
    · refine EL.pass rfl rfl rfl ?_
      refine EL.pass rfl rfl rfl ?_
      refine EL.pass rfl rfl rfl ?_
      refine EL.pass rfl rfl rfl ?_
      refine EL.pass rfl rfl rfl ?_
      refine EL.pass rfl rfl rfl ?_
      refine EL.pass rfl rfl rfl ?_
      refine EL.pickT rfl rfl rfl rfl ?_
      exact EL.endX () ⟨getA rfl (congrArg Value.bool (by first | rfl | exact decide_eq_true (by omega))), trivial⟩ (.i (by repeat constructor))
    · refine EL.move rfl rfl rfl ?_
      refine EL.move rfl rfl rfl ?_
      refine EL.nilCheck rfl rfl rfl ?_
      refine EL.fieldAddr rfl rfl rfl rfl rfl rfl rfl rfl ?_
      (apply EL.loadB; exact rfl; exact rfl; exact rfl; exact rfl; exact rfl; (case hm => repeat constructor); exact rfl)
      refine EL.lenL rfl rfl rfl rfl rfl ?_
      refine EL.geq rfl rfl rfl rfl ?_
      refine EL.pickF rfl rfl rfl rfl ?_
      exact EL.endX () ⟨getA rfl (congrArg Value.bool (by first | rfl | exact decide_eq_true (by omega))), trivial⟩ (.i (by repeat constructor))
  refine ES.condT rfl ?_
  refine .go ?_; repeat constructor
  refine EL.assign rfl rfl rfl ?_
  refine EL.assign rfl rfl rfl ?_
  refine EL.assign rfl rfl rfl ?_
  refine .go ?_; repeat constructor
  exact PX.ret rfl Try.results33 (.cons (.tmp rfl) (.cons (.tmp rfl) (.cons (.tmp rfl) .nil))) (fun w hs => ⟨(), rfl, hs.ent (.i (by repeat constructor))⟩)
theorem askNil_c (i line : Int) (lst : Bool) (s : List UInt8) (w : World) :
    Pure Try.prog 33 #[.pointer none, Iv i, Iv line, .bool lst, Sv s] (fun _ : Unit => .tuple #[.bool false, .bool false, Iv 25]) (fun _ => []) w := by
  refine calls_of_ES TB Try.func33 rfl _ Try.ntmps33 rfl (Sat.start w) ?_
  refine .go ?_; repeat constructor
  refine EL.assign rfl rfl rfl ?_
  refine EL.assign rfl rfl rfl ?_
  refine EL.assign rfl rfl rfl ?_
  refine .go ?_; repeat constructor
  refine EL.move rfl rfl rfl ?_
  refine EL.eqlPn rfl rfl rfl rfl rfl rfl ?_
  refine .go ?_; repeat constructor
  refine ES.condT rfl ?_
  refine .go ?_; repeat constructor
  refine EL.assign rfl rfl rfl ?_
  refine EL.assign rfl rfl rfl ?_
  refine EL.assign rfl rfl rfl ?_
  refine .go ?_; repeat constructor
  exact PX.ret rfl Try.results33 (.cons (.tmp rfl) (.cons (.tmp rfl) (.cons (.tmp rfl) .nil))) (fun w hs => ⟨(), rfl, hs.ent (.i (by repeat constructor))⟩)
abbrev lnA (n : Int) : Ad := ⟨1, n, []⟩
abbrev mtA (t : List UInt8) : Ad := ⟨3, 0, t⟩
theorem line22_c (n : Int) (w : World) : Pure Try.prog 32 #[Iv n] (fun _ : Unit => .agg (adC (lnA n)).toArray) (fun _ => []) w := by
  refine calls_of_ES TB Try.func32 rfl _ Try.ntmps32 rfl (Sat.start w) ?_
  refine .go ?_; repeat constructor
  (refine EL.alloc rfl rfl rfl ?_; intro g2)
  refine .go ?_; repeat constructor
  refine EL.move rfl rfl rfl ?_
  refine EL.buildS #[_, _, .string ⟨#[]⟩] rfl rfl rfl rfl rfl rfl rfl ?_
  (apply EL.storeAll; exact rfl; exact rfl; exact rfl; exact rfl; exact rfl; (case p => repeat constructor); exact rfl; (case h1 => exact (by first | rfl | exact all1 rfl | (intro u hu; simp only [List.mem_cons, List.not_mem_nil, or_false] at hu; rcases hu with rfl | rfl | rfl | rfl <;> rfl) | (intro u hu; simp at hu; rcases hu with rfl | rfl | rfl | rfl <;> rfl) | (intro u hu; simp at hu; rcases hu with rfl | rfl | rfl <;> rfl) | (intro u hu; simp at hu; rcases hu with rfl | rfl <;> rfl) | (intro u hu; simp at hu; obtain ⟨_, _, rfl⟩ := hu; rfl))))
  refine .go ?_; repeat constructor
  exact PX.ret rfl Try.results32 (.cons (.blkA rfl rfl rfl (by repeat constructor) rfl) .nil) (fun w hs => ⟨(), rfl, hs.ent (.i (by repeat constructor))⟩)
theorem match22_c (t : List UInt8) (w : World) : Pure Try.prog 34 #[Sv t] (fun _ : Unit => .agg (adC (mtA t)).toArray) (fun _ => []) w := by
  refine calls_of_ES TB Try.func34 rfl _ Try.ntmps34 rfl (Sat.start w) ?_
  refine .go ?_; repeat constructor
  (refine EL.alloc rfl rfl rfl ?_; intro g2)
  refine .go ?_; repeat constructor
  refine EL.move rfl rfl rfl ?_
  refine EL.buildS #[_, .int .i64 0, _] rfl rfl rfl rfl rfl rfl rfl ?_
  (apply EL.storeAll; exact rfl; exact rfl; exact rfl; exact rfl; exact rfl; (case p => repeat constructor); exact rfl; (case h1 => exact (by first | rfl | exact all1 rfl | (intro u hu; simp only [List.mem_cons, List.not_mem_nil, or_false] at hu; rcases hu with rfl | rfl | rfl | rfl <;> rfl) | (intro u hu; simp at hu; rcases hu with rfl | rfl | rfl | rfl <;> rfl) | (intro u hu; simp at hu; rcases hu with rfl | rfl | rfl <;> rfl) | (intro u hu; simp at hu; rcases hu with rfl | rfl <;> rfl) | (intro u hu; simp at hu; obtain ⟨_, _, rfl⟩ := hu; rfl))))
  refine .go ?_; repeat constructor
  exact PX.ret rfl Try.results34 (.cons (.blkA rfl rfl rfl (by repeat constructor) rfl) .nil) (fun w hs => ⟨(), rfl, hs.ent (.i (by repeat constructor))⟩)
end Go.Proofs.Ytblpgpgbnlhjlaa
namespace Go.Proofs.Ytblpgpgbnlhjlaa
open Go Go.RowKit Sl
set_option maxRecDepth 100000
set_option maxHeartbeats 8000000
set_option linter.unusedVariables false
set_option linter.unusedSimpArgs false
attribute [local irreducible] ES EL PX wps

/-- A picker's memory. -/
abbrev PKA (gp rg cap : Nat) (cs : List Chc) (last : Option Mt) (ms : List Mt) : List HA := [PKB gp (some ⟨rg, 0, none⟩) cs.length cap last, CRow (some ⟨rg, 0, none⟩) cap cs, HA.mats ms]
theorem ask_e (gp rg cap : Nat) (cs cs' : List Chc) (i : Nat) (c : Chc) (last last' : Option Mt) (ms : List Mt) (l : Line) (ans : List UInt8 → Bool × Int) (hans : AnsAll ms l.s ans) (on yes off : Bool) (e : Int) (hi : cs[i]? = some c) (hl : ∀ q, last = some q → q ∈ ms) (ha : ∀ q, c.a = some q → q ∈ ms) (hb : ∀ q, c.b = some q → q ∈ ms)
    (hr : askM ans last c l = ⟨last', on, yes, off, e⟩) (hcs : cs.set i { c with on := on } = cs') (hn : cs'.length = cs.length) (w0 : World) (B : Nat) (hG : GR w0 B) :
    MutAt Try.prog 33 #[Pv gp 0, Iv (i : Nat), Iv l.line, .bool l.last, Sv l.s] (PKA gp rg cap cs last ms) (fun _ : Unit => .tuple #[.bool yes, .bool off, Iv e]) (fun _ => PKA gp rg cap cs' last' ms) w0 B := by
  have h := ask_c gp rg cap cs i c hi last ms l ans hans hl ha hb w0 B hG
  rw [hr] at h
  dsimp only at h
  rw [hcs] at h
  unfold PKA
  rw [hn]
  exact h
/-- A picker with no BRE. -/
theorem PkOk.plain {rows : List Rw} {z : PkSt} (h : PkOk rows z) (hn : ∀ r ∈ rows, ¬ hasM r.A ∧ ¬ hasM r.B) : z.cs = rows.map (fun r => ⟨r, none, none, false⟩) ∧ z.ms = [] := by
  constructor
  · rw [← h.row, List.map_map]
    conv => lhs; rw [← List.map_id z.cs]
    refine List.map_congr_left fun c hc => ?_
    have hr : c.row ∈ rows := by rw [← h.row]; exact List.mem_map_of_mem hc
    obtain ⟨h1, h2⟩ := hn _ hr
    have e1 := (h.a c hc).1.none h1
    have e2 := (h.b c hc).1.none h2
    have e3 := h.on c hc
    obtain ⟨r, a, b, o⟩ := c
    dsimp only at e1 e2 e3
    subst e1 e2 e3
    rfl
  · cases hm : z.ms with
    | nil => rfl
    | cons q l =>
      obtain ⟨r, hr, h1⟩ := h.src q (by rw [hm]; simp)
      obtain ⟨h2, h3⟩ := hn r hr
      rcases h1 with ⟨h1, _⟩ | ⟨h1, _⟩
      · exact absurd h1 h2
      · exact absurd h1 h3
def ansW (s t : List UInt8) : Bool × Int := match setM 400 t s 0 with
  | some m => (m.ok, m.e)
  | none => (false, 0)
theorem ansW_is {s t : List UInt8} (hl : t.length ≤ 4611686018427387904) (hb : (meOf t).back = false) (h : (setM 400 t s 0).isSome = true) : Ans t s (ansW s t).1 (ansW s t).2 := by
  obtain ⟨m, hm⟩ := Option.isSome_iff_exists.1 h
  refine ⟨hl, hb, 400, m, hm, ?_, ?_⟩ <;> (unfold ansW; rw [hm])
abbrev awA (on : Bool) : Chc := ⟨⟨lnA 2, lnA 3, false⟩, none, none, on⟩
abbrev awB (ga gb : Nat) (on : Bool) : Chc := ⟨⟨mtA [97], mtA [98], false⟩, some (ga, [97]), some (gb, [98]), on⟩
def awR : List Rw := [⟨lnA 2, lnA 3, false⟩, ⟨mtA [97], mtA [98], false⟩]
theorem PkOk.aw {z : PkSt} (h : PkOk awR z) : ∃ ga gb, z.cs = [awA false, awB ga gb false] ∧ (ga, [97]) ∈ z.ms ∧ (gb, [98]) ∈ z.ms ∧ ∀ q ∈ z.ms, q.2 = [97] ∨ q.2 = [98] := by
  obtain ⟨h1, h2, h3, h4, h5⟩ := h
  obtain ⟨ad, cap, cs, ms⟩ := z
  dsimp only at h1 h2 h3 h4 h5 ⊢
  unfold awR at h1
  obtain ⟨c1, cs, rfl, e1, h1⟩ := List.map_eq_cons_iff.1 h1
  obtain ⟨c2, cs, rfl, e2, h1⟩ := List.map_eq_cons_iff.1 h1
  rw [List.map_eq_nil_iff] at h1
  subst h1
  obtain ⟨r1, a1, b1, o1⟩ := c1
  obtain ⟨r2, a2, b2, o2⟩ := c2
  dsimp only at e1 e2
  subst e1 e2
  have hA : hasM (mtA [97]) := by refine ⟨rfl, by decide, by decide +kernel⟩
  have hB : hasM (mtA [98]) := by refine ⟨rfl, by decide, by decide +kernel⟩
  have hno : ∀ n, ¬ hasM (lnA n) := fun n h => by have := h.1; simp at this
  obtain rfl : o1 = false := h2 _ (List.mem_cons_self ..)
  obtain rfl : o2 = false := h2 _ (List.mem_cons_of_mem _ (List.mem_cons_self ..))
  obtain rfl : a1 = none := (h3 _ (List.mem_cons_self ..)).1.none (hno 2)
  obtain rfl : b1 = none := (h4 _ (List.mem_cons_self ..)).1.none (hno 3)
  obtain ⟨ga, hga⟩ := (h3 ⟨⟨mtA [97], mtA [98], false⟩, a2, b2, false⟩ (by simp)).1.some hA
  obtain ⟨gb, hgb⟩ := (h4 ⟨⟨mtA [97], mtA [98], false⟩, a2, b2, false⟩ (by simp)).1.some hB
  dsimp only at hga hgb
  subst hga hgb
  refine ⟨ga, gb, rfl, (h3 _ (List.mem_cons_of_mem _ (List.mem_cons_self ..))).2 _ rfl, (h4 _ (List.mem_cons_of_mem _ (List.mem_cons_self ..))).2 _ rfl, fun q hq => ?_⟩
  obtain ⟨r, hr, h⟩ := h5 q hq
  simp only [awR, List.mem_cons, List.not_mem_nil, or_false] at hr
  rcases hr with rfl | rfl <;> rcases h with ⟨h, e⟩ | ⟨h, e⟩
  · exact absurd h (hno 2)
  · exact absurd h (hno 3)
  · exact .inl e
  · exact .inr e
theorem awake22_c (w : World) (hG : GR w w.heap.size) : Pure Try.prog 30 #[] (fun _ : Unit => .bool true) (fun _ => []) w := by
  have hpne : pkNE awR = 0 := by decide +kernel
  refine calls_of_ES TB Try.func30 rfl _ Try.ntmps30 rfl (Sat.start w) ?_
  refine .go ?_; repeat constructor
  refine EL.assign rfl rfl rfl ?_
  refine .go ?_; repeat constructor
  refine EL.callP rfl rfl rfl ent32 rfl (line22_c 2) ?_
  refine EL.callP rfl rfl rfl ent32 rfl (line22_c 3) ?_
  refine EL.buildS (rwC ⟨lnA 2, lnA 3, false⟩).toArray rfl rfl rfl rfl rfl (by kernel_rfl) rfl ?_
  refine EL.callP rfl rfl rfl ent34 rfl (match22_c [97]) ?_
  refine EL.callP rfl rfl rfl ent34 rfl (match22_c [98]) ?_
  refine EL.buildS (rwC ⟨mtA [97], mtA [98], false⟩).toArray rfl rfl rfl rfl rfl (by kernel_rfl) rfl ?_
  (refine EL.buildSliceC (rwsC awR).toArray rfl rfl rfl rfl rfl rfl (by kernel_rfl) rfl rfl rfl rfl ?_; intro b22)
  (refine EL.callXw rfl rfl rfl ent31 rfl (fun w hs => pickNew_c awR (by decide) (some ⟨b22, 0, none⟩) 2 w (GR.sat hG hs) (Rd.row (n := 2) (cap := 2) (sz := 7) hs (by repeat constructor) (by decide))) ?_; rintro (hbad | ⟨hok, gp, z, hz⟩); exact absurd hpne hbad)
  refine EL.move rfl rfl rfl ?_
  refine EL.extract rfl rfl rfl rfl ?_
  refine EL.extract rfl rfl rfl rfl ?_
  refine EL.assign rfl rfl rfl ?_
  refine EL.assign rfl rfl rfl ?_
  refine .go ?_; repeat constructor
  refine .go ?_; repeat constructor
  refine EL.move rfl rfl rfl ?_
  refine EL.eqlPn rfl rfl rfl rfl rfl rfl ?_
  refine EL.move rfl rfl rfl ?_
  refine EL.rew (d := 28) (v' := .bool false) rfl (by first | rfl | (decide) | (simp)) ?_
  refine EL.move rfl rfl rfl ?_
  refine EL.neqI rfl rfl rfl rfl ?_
  refine EL.pickF rfl rfl rfl rfl ?_
  refine .go ?_; repeat constructor
  refine ES.condF rfl ?_
  refine ES.know (P := ∃ rg, z.ad = some ⟨rg, 0, none⟩) (fun w hs => (row_form (hs.all (CRow z.ad z.cap z.cs) (by simp [NwX.H]))).2.2.2.2 (by obtain ⟨ga, gb, e, _⟩ := hz.aw; rw [e]; exact Nat.zero_lt_succ 1)) ?_
  rintro ⟨rg, hrg⟩
  obtain ⟨ga, gb, hcs, hma, hmb, hms⟩ := hz.aw
  obtain ⟨ad, cap, cs, ms⟩ := z
  dsimp only at hrg hcs hma hmb hms
  subst hrg hcs
  have hans : ∀ s, (setM 400 [97] s 0).isSome = true → (setM 400 [98] s 0).isSome = true → AnsAll ms s (ansW s) := fun s h1 h2 q hq => by
    rcases hms q hq with e | e <;> rw [e]
    · exact ansW_is (by decide) (by decide +kernel) h1
    · exact ansW_is (by decide) (by decide +kernel) h2
  have no : ∀ q : Mt, (none : Option Mt) = some q → q ∈ ms := fun q h => by cases h
  have ya : ∀ q : Mt, some (ga, [97]) = some q → q ∈ ms := fun q h => by cases h; exact hma
  have yb : ∀ q : Mt, some (gb, [98]) = some q → q ∈ ms := fun q h => by cases h; exact hmb
  have k1 := ask_e gp rg cap [awA false, awB ga gb false] [awA true, awB ga gb false] 0 (awA false) none none ms ⟨2, false, []⟩ (ansW []) (hans [] (by decide +kernel) (by decide +kernel)) true true false 0 rfl no no no (by kernel_rfl) rfl rfl w w.heap.size hG
  have k2 := ask_e gp rg cap [awA true, awB ga gb false] [awA false, awB ga gb false] 0 (awA true) none none ms ⟨3, false, []⟩ (ansW []) (hans [] (by decide +kernel) (by decide +kernel)) false true true 0 rfl no no no (by kernel_rfl) rfl rfl w w.heap.size hG
  have k3 := ask_e gp rg cap [awA false, awB ga gb false] [awA false, awB ga gb false] 1 (awB ga gb false) none (some (ga, [97])) ms ⟨1, false, [120, 98]⟩ (ansW [120, 98]) (hans [120, 98] (by decide +kernel) (by decide +kernel)) false false true 0 rfl no ya yb (by kernel_rfl) rfl rfl w w.heap.size hG
  have k4 := ask_e gp rg cap [awA false, awB ga gb false] [awA false, awB ga gb true] 1 (awB ga gb false) (some (ga, [97])) (some (ga, [97])) ms ⟨2, false, [97, 98]⟩ (ansW [97, 98]) (hans [97, 98] (by decide +kernel) (by decide +kernel)) true true false 0 rfl ya ya yb (by kernel_rfl) rfl rfl w w.heap.size hG
  refine .go ?_; repeat constructor
  refine EL.move rfl rfl rfl ?_
  (refine EL.callMw rfl rfl rfl ent33 rfl k1 (by repeat constructor) ?_; intro x1)
  refine EL.move rfl rfl rfl ?_
  refine EL.extract rfl rfl rfl rfl ?_
  refine EL.extract rfl rfl rfl rfl ?_
  refine EL.extract rfl rfl rfl rfl ?_
  refine EL.assign rfl rfl rfl ?_
  refine EL.assign rfl rfl rfl ?_
  refine EL.assign rfl rfl rfl ?_
  refine .go ?_; repeat constructor
  refine .go ?_; repeat constructor
  refine EL.move rfl rfl rfl ?_
  (refine EL.callMw rfl rfl rfl ent33 rfl k2 (by repeat constructor) ?_; intro x2)
  refine EL.move rfl rfl rfl ?_
  refine EL.extract rfl rfl rfl rfl ?_
  refine EL.extract rfl rfl rfl rfl ?_
  refine EL.extract rfl rfl rfl rfl ?_
  refine EL.assign rfl rfl rfl ?_
  refine EL.assign rfl rfl rfl ?_
  refine EL.assign rfl rfl rfl ?_
  refine .go ?_; repeat constructor
  refine .go ?_; repeat constructor
  refine EL.move rfl rfl rfl ?_
  (refine EL.callMw rfl rfl rfl ent33 rfl k3 (by repeat constructor) ?_; intro x3)
  refine EL.move rfl rfl rfl ?_
  refine EL.extract rfl rfl rfl rfl ?_
  refine EL.extract rfl rfl rfl rfl ?_
  refine EL.extract rfl rfl rfl rfl ?_
  refine EL.assign rfl rfl rfl ?_
  refine EL.assign rfl rfl rfl ?_
  refine EL.assign rfl rfl rfl ?_
  refine .go ?_; repeat constructor
  refine .go ?_; repeat constructor
  refine EL.move rfl rfl rfl ?_
  (refine EL.callMw rfl rfl rfl ent33 rfl k4 (by repeat constructor) ?_; intro x4)
  refine EL.move rfl rfl rfl ?_
  refine EL.extract rfl rfl rfl rfl ?_
  refine EL.extract rfl rfl rfl rfl ?_
  refine EL.extract rfl rfl rfl rfl ?_
  refine EL.assign rfl rfl rfl ?_
  refine EL.assign rfl rfl rfl ?_
  refine EL.assign rfl rfl rfl ?_
  refine .go ?_; repeat constructor
  refine .go ?_; repeat constructor
  refine EL.move rfl rfl rfl ?_
  refine EL.eqlI rfl rfl rfl rfl ?_
  refine EL.move rfl rfl rfl ?_
  refine EL.rew (d := 58) (v' := .bool true) rfl (by first | rfl | (decide) | (simp)) ?_
  refine EL.move rfl rfl rfl ?_
  refine EL.eqlI rfl rfl rfl rfl ?_
  refine EL.pickT rfl rfl rfl rfl ?_
  refine EL.move rfl rfl rfl ?_
  refine EL.rew (d := 62) (v' := .bool true) rfl (by first | rfl | (decide) | (simp)) ?_
  refine EL.move rfl rfl rfl ?_
  refine EL.eqlI rfl rfl rfl rfl ?_
  refine EL.pickT rfl rfl rfl rfl ?_
  refine EL.move rfl rfl rfl ?_
  refine EL.rew (d := 66) (v' := .bool true) rfl (by first | rfl | (decide) | (simp)) ?_
  refine EL.move rfl rfl rfl ?_
  refine EL.eqlI rfl rfl rfl rfl ?_
  refine EL.pickT rfl rfl rfl rfl ?_
  refine EL.move rfl rfl rfl ?_
  refine EL.rew (d := 70) (v' := .bool true) rfl (by first | rfl | (decide) | (simp)) ?_
  refine EL.move rfl rfl rfl ?_
  refine EL.pickT rfl rfl rfl rfl ?_
  refine EL.move rfl rfl rfl ?_
  refine EL.rew (d := 73) (v' := .bool true) rfl (by first | rfl | (decide) | (simp)) ?_
  refine EL.move rfl rfl rfl ?_
  refine EL.not rfl rfl rfl ?_
  refine EL.pickT rfl rfl rfl rfl ?_
  refine EL.move rfl rfl rfl ?_
  refine EL.rew (d := 77) (v' := .bool true) rfl (by first | rfl | (decide) | (simp)) ?_
  refine EL.move rfl rfl rfl ?_
  refine EL.pickT rfl rfl rfl rfl ?_
  refine EL.move rfl rfl rfl ?_
  refine EL.rew (d := 80) (v' := .bool true) rfl (by first | rfl | (decide) | (simp)) ?_
  refine EL.move rfl rfl rfl ?_
  refine EL.pickT rfl rfl rfl rfl ?_
  refine EL.move rfl rfl rfl ?_
  refine EL.rew (d := 83) (v' := .bool true) rfl (by first | rfl | (decide) | (simp)) ?_
  refine EL.move rfl rfl rfl ?_
  refine EL.not rfl rfl rfl ?_
  refine EL.pickT rfl rfl rfl rfl ?_
  refine EL.move rfl rfl rfl ?_
  refine EL.rew (d := 87) (v' := .bool true) rfl (by first | rfl | (decide) | (simp)) ?_
  refine EL.move rfl rfl rfl ?_
  refine EL.pickT rfl rfl rfl rfl ?_
  refine EL.move rfl rfl rfl ?_
  refine EL.rew (d := 90) (v' := .bool true) rfl (by first | rfl | (decide) | (simp)) ?_
  refine EL.move rfl rfl rfl ?_
  refine EL.not rfl rfl rfl ?_
  refine EL.pickT rfl rfl rfl rfl ?_
  refine EL.assign rfl rfl rfl ?_
  refine .go ?_; repeat constructor
  exact PX.ret rfl Try.results30 (.cons (.tmp rfl) .nil) (fun w hs => ⟨(), rfl, hs.ent (.nil _)⟩)
end Go.Proofs.Ytblpgpgbnlhjlaa
