/- Texts of this claim, bundled. -/
import Derived.Test.YthcbjbkheodejaaGreatZj4
set_option linter.unusedVariables false
set_option linter.unusedSimpArgs false
namespace Go.Proofs.YthcbjbkheodejaaGreat
open Go Go.RowKit Sl
set_option maxRecDepth 100000
set_option maxHeartbeats 8000000
attribute [local irreducible] ES EL PX wps
mutual
def hasK (k : Nat) : RE → Bool
  | .cat ks => decide (0 = k) || hasKL k ks
  | .byte _ => decide (1 = k)
  | .bol => decide (2 = k)
  | .eol => decide (3 = k)
  | .group _ r => decide (4 = k) || hasK k r
  | .rep _ _ r => decide (5 = k) || hasK k r
  | .back _ => decide (6 = k)
def hasKL (k : Nat) : List RE → Bool
  | [] => false
  | r :: ks => hasK k r || hasKL k ks
end
theorem hasKL_any (k : Nat) : ∀ ks : List RE, hasKL k ks = ks.any (hasK k)
  | [] => rfl
  | r :: ks => by rw [hasKL, List.any_cons, hasKL_any k ks]
theorem hasK_eq (k : Nat) (r : RE) : hasK k r = (decide (r.kind = k) || r.kids.any (hasK k)) := by
  cases r <;> simp only [hasK, RE.kind, RE.kids, hasKL_any, List.any_cons, List.any_nil, Bool.or_false] <;> first | done | rfl | (congr 1)
mutual
def grpN : RE → Nat
  | .cat ks => grpNL ks
  | .group _ k => 1 + grpN k
  | .rep _ _ k => grpN k
  | _ => 0
def grpNL : List RE → Nat
  | [] => 0
  | k :: ks => grpN k + grpNL ks
end
theorem grpN_eq (r : RE) : grpN r = (if r.kind = 4 then 1 else 0) + grpNL r.kids := by
  cases r <;> simp [grpN, RE.kind, RE.kids, grpNL]
theorem w64_add (a b : Int) : w64 (w64 a + b) = w64 (a + b) := by
  unfold w64 IntKind.wrap
  simp only [IntKind.bits, IntKind.signed, Bool.true_and, decide_eq_true_eq, ge_iff_le]
  split <;> split <;> split <;> omega
theorem w64_add' (a b : Int) : w64 (a + w64 b) = w64 (a + b) := by rw [Int.add_comm, w64_add, Int.add_comm]
theorem grp_take (ks : List RE) (i : Nat) (h : i < ks.length) : grpNL (ks.take (i + 1)) = grpNL (ks.take i) + grpN ks[i] := by
  have hs : ∀ l : List RE, grpNL l = (l.map grpN).sum := fun l => by
    induction l with
    | nil => rfl
    | cons k l ih => rw [grpNL, ih, List.map_cons, List.sum_cons]
  rw [hs, hs, List.take_succ_eq_append_getElem h, List.map_append, List.sum_append]
  simp
theorem any_take {α : Type _} (p : α → Bool) (l : List α) (i : Nat) (k : α) (hi : l[i]? = some k) : (l.take (i + 1)).any p = ((l.take i).any p || p k) := by
  have hlt : i < l.length := (List.getElem?_eq_some_iff.1 hi).1
  rw [List.take_succ_eq_append_getElem hlt, (List.getElem?_eq_some_iff.1 hi).2]
  simp
theorem any_true {α : Type _} (p : α → Bool) (l : List α) (i : Nat) (k : α) (hi : l[i]? = some k) (h : p k = true) : l.any p = true := List.any_eq_true.2 ⟨k, List.mem_of_getElem? hi, h⟩
theorem dhas_n (n : Nat) : ∀ r : RE, r.sz ≤ n → r.fine → ∀ (k : Nat) (ad : Option Addr) (cap : Nat) (w : World), KidsRd w w.heap.size r.kids ad →
    Pure Tryz.prog 29 #[.agg (reCells r (.slice ad r.kids.length cap)).toArray, Iv (k : Nat)] (fun _ : Unit => .bool (hasK k r)) (fun _ => []) w := by
  induction n with
  | zero => intro r hr; exact absurd (sz_pos r) (by omega)
  | succ n ih =>
    intro r hsz hfine kk ad cap w hkids
    have hkl := fine_len hfine
    have heq := hasK_eq kk r
    refine calls_of_ES TB Tryz.func29 rfl _ Tryz.ntmps29 rfl (Sat.start w) ?_; refine .go ?_; (repeat constructor); (refine .bx ?_; intro g2); refine .as_ ?_; refine .go ?_; (repeat constructor); refine .fa ?_; refine .lb ?_; refine .mv ?_; refine .ei ?_; refine .go ?_; repeat constructor
    refine ES.condD rfl (fun h1 => ?_) (fun h1 => ?_)
    · have h1 : ((r.kind : Nat) : Int) = (kk : Nat) := h1
      rw [heq, decide_eq_true (show r.kind = kk by omega), Bool.true_or]
      refine .go ?_; (repeat constructor); refine .as_ ?_; refine .go ?_; repeat constructor
      exact PX.ret rfl Tryz.results29 (.cons (.tmp rfl) .nil) (fun w hs => ⟨(), rfl, hs.ent (.nil _)⟩)
    have h1 : ¬ ((r.kind : Nat) : Int) = (kk : Nat) := h1
    rw [decide_eq_false (show ¬ r.kind = kk by omega), Bool.false_or] at heq
    refine .go ?_; (repeat constructor); refine .as_ ?_; refine .go ?_; repeat constructor
    refine ES.loop (σ := Nat) (fun i => i ≤ r.kids.length ∧ (r.kids.take i).any (hasK kk) = false) (fun i => [(1, Iv (kk : Nat)), (2, Pv g2 0), (4, .bool false), (5, Iv (i : Nat))])
      (fun i => HA.blk g2 (.cells (reCells r (.slice ad r.kids.length cap)).toArray 46) :: []) (fun i => r.kids.length - i) 0 ⟨Nat.zero_le _, rfl⟩ ⟨rfl, rfl, rfl, rfl, trivial⟩ (.i (by repeat constructor)) ?_
    rintro i ⟨hi, hall⟩
    dsimp only at hi hall ⊢
    refine .go ?_; (repeat constructor); refine .mv ?_; refine .fa ?_; refine .lb ?_; refine .lL ?_; refine .ls ?_; refine .go ?_; repeat constructor
    refine ES.condD rfl (fun hlt => ?_) (fun hge => ?_)
    · have hlt' : i < r.kids.length := by omega
      obtain ⟨k, hki⟩ : ∃ k, r.kids[i]? = some k := ⟨_, List.getElem?_eq_getElem hlt'⟩
      have hmem := List.mem_of_getElem? hki
      have hks := kids_lt hmem
      obtain ⟨kg, ko, rfl, hkn⟩ := hkids i k hki
      obtain ⟨kad, kcap, hkrd, hkk⟩ := hkn.kids
      have hkrd2 : Rd w w.heap.size (some ⟨kg, ko + i * 9, none⟩) (reCells k (.slice kad k.kids.length kcap)) := hkrd.rd
      have hrec := ih k (by omega) (fine_kid hfine hmem) kk kad kcap
      refine .go ?_; (repeat constructor); refine .fa ?_; refine .lb ?_; refine .mv ?_; refine EL.indexAddrL rfl rfl rfl rfl rfl rfl rfl (by omega) ?_
      refine EL.loadOldA (j := 0) (vs := reCells k (.slice kad k.kids.length kcap)) rfl rfl rfl rfl rfl (by simp [reCells]) rfl hkrd2 (fun i u hi => by rw [Nat.zero_add]; exact hi) ?_
      refine .mv ?_
      refine EL.callPw rfl rfl rfl ent29 rfl (fun w' hs => hrec w' (fun i' k' hi' => by obtain ⟨g', o', e1, e2⟩ := hkk (by intro e; rw [e] at hi'; simp at hi'); exact ⟨g', o', e1, NodeRd.sat (e2 i' k' hi') hs⟩)) ?_
      refine .go ?_; repeat constructor
      refine ES.cond rfl (fun ht => ?_) (fun hf => ?_)
      · rw [heq, any_true _ _ _ _ hki ht]
        refine .go ?_; (repeat constructor); refine .as_ ?_; refine .go ?_; repeat constructor
        exact PX.ret rfl Tryz.results29 (.cons (.tmp rfl) .nil) (fun w hs => ⟨(), rfl, hs.ent (.nil _)⟩)
      · refine .go ?_; (repeat constructor); refine .mv ?_; refine .a1 ?_; refine .as_ ?_; refine .go ?_; repeat constructor
        exact .ly (i + 1) ⟨hlt', by rw [any_take _ _ _ _ hki, hall, hf]; rfl⟩ (by omega)
    · rw [heq, show r.kids.any (hasK kk) = false by rw [List.take_of_length_le (by omega)] at hall; exact hall]
      refine .go ?_; (repeat constructor); refine .as_ ?_; refine .go ?_; repeat constructor
      exact PX.ret rfl Tryz.results29 (.cons (.tmp rfl) .nil) (fun w hs => ⟨(), rfl, hs.ent (.nil _)⟩)
theorem dhas_c (r : RE) (hf : r.fine) (k : Nat) (ad : Option Addr) (cap : Nat) (w : World) (h : KidsRd w w.heap.size r.kids ad) : Pure Tryz.prog 29 #[.agg (reCells r (.slice ad r.kids.length cap)).toArray, Iv (k : Nat)] (fun _ : Unit => .bool (hasK k r)) (fun _ => []) w := dhas_n r.sz r (Nat.le_refl _) hf k ad cap w h
theorem dgrps_n (n : Nat) : ∀ r : RE, r.sz ≤ n → r.fine → ∀ (ad : Option Addr) (cap : Nat) (w : World), KidsRd w w.heap.size r.kids ad →
    Pure Tryz.prog 30 #[.agg (reCells r (.slice ad r.kids.length cap)).toArray] (fun _ : Unit => Iv (w64 (grpN r : Nat))) (fun _ => []) w := by
  induction n with
  | zero => intro r hr; exact absurd (sz_pos r) (by omega)
  | succ n ih =>
    intro r hsz hfine ad cap w hkids
    have hkl := fine_len hfine
    have heq := grpN_eq r
    refine calls_of_ES TB Tryz.func30 rfl _ Tryz.ntmps30 rfl (Sat.start w) ?_; refine .go ?_; (repeat constructor); (refine .bx ?_; intro g1); refine .as_ ?_; refine .go ?_; (repeat constructor); refine .as_ ?_; refine .go ?_; (repeat constructor); refine .fa ?_; refine .lb ?_; refine .ei ?_; refine .go ?_; repeat constructor
    obtain ⟨c, hc⟩ : ∃ c : Nat, c = if r.kind = 4 then 1 else 0 := ⟨_, rfl⟩
    refine ES.cutC (X := Unit) (fun _ => [(1, Pv g1 0), (2, Iv 0), (3, Iv (c : Nat))]) (fun _ => HA.blk g1 (.cells (reCells r (.slice ad r.kids.length cap)).toArray 46) :: []) ?_ (fun _ => ?_)
    · refine ES.condD rfl (fun h4 => ?_) (fun h4 => ?_)
      · have h4 : ((r.kind : Nat) : Int) = 4 := h4
        rw [if_pos (by omega)] at hc
        rw [hc]
        refine .go ?_; (repeat constructor); refine .as_ ?_; refine .go ?_; repeat constructor
        exact .cy ()
      · have h4 : ¬ ((r.kind : Nat) : Int) = 4 := h4
        rw [if_neg (by omega)] at hc
        rw [hc]
        refine .go ?_; repeat constructor
        exact .cy ()
    rw [← hc] at heq
    have hc1 : c ≤ 1 := by rw [hc]; split <;> omega
    refine .go ?_; (repeat constructor); refine .as_ ?_; refine .go ?_; repeat constructor
    refine ES.loop (σ := Nat) (fun i => i ≤ r.kids.length) (fun i => [(1, Pv g1 0), (2, Iv 0), (3, Iv (w64 ((c + grpNL (r.kids.take i) : Nat) : Int))), (4, Iv (i : Nat))])
      (fun i => HA.blk g1 (.cells (reCells r (.slice ad r.kids.length cap)).toArray 46) :: []) (fun i => r.kids.length - i) 0 (Nat.zero_le _) ⟨rfl, rfl, getA rfl (congrArg Iv (by rw [List.take_zero, grpNL, Nat.add_zero]; exact (wrap_i64 _ (by omega) (by omega)).symm)), rfl, trivial⟩ (.i (by repeat constructor)) ?_
    intro i hi
    dsimp only at hi ⊢
    refine .go ?_; (repeat constructor); refine .mv ?_; refine .fa ?_; refine .lb ?_; refine .lL ?_; refine .ls ?_; refine .go ?_; repeat constructor
    refine ES.condD rfl (fun hlt => ?_) (fun hge => ?_)
    · have hlt' : i < r.kids.length := by omega
      obtain ⟨k, hki⟩ : ∃ k, r.kids[i]? = some k := ⟨_, List.getElem?_eq_getElem hlt'⟩
      have hmem := List.mem_of_getElem? hki
      have hks := kids_lt hmem
      have htk := grp_take r.kids i hlt'
      rw [show r.kids[i] = k from (List.getElem?_eq_some_iff.1 hki).2] at htk
      obtain ⟨kg, ko, rfl, hkn⟩ := hkids i k hki
      obtain ⟨kad, kcap, hkrd, hkk⟩ := hkn.kids
      have hkrd2 : Rd w w.heap.size (some ⟨kg, ko + i * 9, none⟩) (reCells k (.slice kad k.kids.length kcap)) := hkrd.rd
      have hrec := ih k (by omega) (fine_kid hfine hmem) kad kcap
      have hsum : w64 (w64 ((c + grpNL (r.kids.take i) : Nat) : Int) + w64 (grpN k : Nat)) = w64 ((c + grpNL (r.kids.take (i + 1)) : Nat) : Int) := by
        rw [w64_add, w64_add', htk]
        congr 1
        omega
      refine .go ?_; (repeat constructor); refine .mv ?_; refine .fa ?_; refine .lb ?_; refine .mv ?_; refine EL.indexAddrL rfl rfl rfl rfl rfl rfl rfl (by omega) ?_
      refine EL.loadOldA (j := 0) (vs := reCells k (.slice kad k.kids.length kcap)) rfl rfl rfl rfl rfl (by simp [reCells]) rfl hkrd2 (fun i u hi => by rw [Nat.zero_add]; exact hi) ?_
      refine EL.callPw rfl rfl rfl ent30 rfl (fun w' hs => hrec w' (fun i' k' hi' => by obtain ⟨g', o', e1, e2⟩ := hkk (by intro e; rw [e] at hi'; simp at hi'); exact ⟨g', o', e1, NodeRd.sat (e2 i' k' hi') hs⟩)) ?_
      refine EL.add (w64 ((c + grpNL (r.kids.take (i + 1)) : Nat) : Int)) rfl rfl rfl rfl hsum ?_; refine .as_ ?_; refine .go ?_; (repeat constructor); refine .go ?_; (repeat constructor); refine .mv ?_; refine .a1 ?_; refine .as_ ?_; refine .go ?_; repeat constructor
      exact .ly (i + 1) (by omega) (by omega)
    · obtain rfl : i = r.kids.length := by omega
      rw [List.take_length, heq]
      refine .go ?_; (repeat constructor); refine .mv ?_; refine .as_ ?_; refine .go ?_; repeat constructor
      exact PX.ret rfl Tryz.results30 (.cons (.tmp rfl) .nil) (fun w hs => ⟨(), rfl, hs.ent (.nil _)⟩)
theorem dgrps_c (r : RE) (hf : r.fine) (ad : Option Addr) (cap : Nat) (w : World) (h : KidsRd w w.heap.size r.kids ad) : Pure Tryz.prog 30 #[.agg (reCells r (.slice ad r.kids.length cap)).toArray] (fun _ : Unit => Iv (w64 (grpN r : Nat))) (fun _ => []) w := dgrps_n r.sz r (Nat.le_refl _) hf ad cap w h
theorem ddoc_p (t : List UInt8) (ht0 : t.length ≤ 4611686018427387904) (w : World) :
    Pure Tryz.prog 28 #[Sv t] (fun x : PX0 => .tuple #[.agg (RCl (parseM t).tree x).toArray, Iv (parseM t).e, Iv ((parseM t).at_ : Nat)]) (fun x => [HA.forest x.fp [(parseM t).tree] (RCl (parseM t).tree x)]) w := by
  rw [← doc_is]; exact ddoc_c t ht0 w
theorem dnewBad_c (t : List UInt8) (he : (parseM t).e ≠ 0) (ht : t.length ≤ 4611686018427387904) (w : World) :
    Pure Tryz.prog 10 #[Sv t] (fun _ : Unit => .tuple #[.pointer none, Iv (parseM t).e, Iv ((parseM t).at_ : Nat)]) (fun _ => []) w := by
  have hpc := ddoc_p t ht
  generalize parseM t = p at he hpc
  obtain ⟨tree, pe, pat⟩ := p
  dsimp only at he hpc
  refine calls_of_ES TB Tryz.func10 rfl _ Tryz.ntmps10 rfl (Sat.start w) ?_; refine .go ?_; (repeat constructor); refine .as_ ?_; refine .as_ ?_; refine .as_ ?_; refine .go ?_; (repeat constructor); refine .mv ?_; (refine EL.callX rfl rfl rfl ent28 rfl hpc ?_; intro px); refine .mv ?_; refine .ex ?_; refine .ex ?_; refine .ex ?_; (refine .al ?_; intro g5); refine .sa ?_; refine .as_ ?_; refine .as_ ?_; refine .go ?_; (repeat constructor); refine .mv ?_; refine .ni ?_; refine .go ?_; repeat constructor
  refine ES.condN rfl (fun hne => ?_) (fun h0 => ?_)
  · refine .go ?_; (repeat constructor); refine .mv ?_; refine .mv ?_; refine .as_ ?_; refine .as_ ?_; refine .as_ ?_; refine .go ?_; repeat constructor
    exact PX.ret rfl Tryz.results10 (.cons (.tmp rfl) (.cons (.tmp rfl) (.cons (.tmp rfl) .nil))) (fun w hs => ⟨(), rfl, hs.ent (.nil _)⟩)
  · exact absurd h0 he
abbrev M11 (g : Nat) (t : List UInt8) (x : PX0) : HA := HA.blk g (.cells (Sv t :: (RCl (parseM t).tree x ++ [.bool (hasK 6 (parseM t).tree), Iv (w64 (grpN (parseM t).tree : Nat))])).toArray 48)
theorem dnewOk_c (t : List UInt8) (he : (parseM t).e = 0) (ht : t.length ≤ 4611686018427387904) (w : World) :
    Pure Tryz.prog 10 #[Sv t] (fun x : Nat × PX0 => .tuple #[Pv x.1 0, Iv 0, Iv 0]) (fun x => [M11 x.1 t x.2]) w := by
  have hpc := ddoc_p t ht
  have hfine := parse_fine t
  unfold M11
  generalize parseM t = p at he hpc hfine ⊢
  obtain ⟨tree, pe, pat⟩ := p
  dsimp only at he hpc hfine ⊢
  subst he
  refine calls_of_ES TB Tryz.func10 rfl _ Tryz.ntmps10 rfl (Sat.start w) ?_; refine .go ?_; (repeat constructor); refine .as_ ?_; refine .as_ ?_; refine .as_ ?_; refine .go ?_; (repeat constructor); refine .mv ?_; (refine EL.callX rfl rfl rfl ent28 rfl hpc ?_; intro px); refine .mv ?_; refine .ex ?_; refine .ex ?_; refine .ex ?_; (refine .al ?_; intro g5); refine .sa ?_; refine .as_ ?_; refine .as_ ?_; refine .go ?_; (repeat constructor); refine .mv ?_; refine .ni ?_; refine .go ?_; (repeat constructor); refine ES.condF rfl ?_; refine .g0 ?_; repeat constructor
  refine ES.draw (X := Nat) (fun g => [(2, Pv g 0), (3, Iv 0), (4, Iv 0)]) (fun g => HA.blk g (.cells (Sv t :: (RCl tree px ++ [.bool (hasK 6 tree), Iv (w64 (grpN tree : Nat))])).toArray 48) :: []) (HA.blk g5 (.cells (RCl tree px).toArray 46) :: HA.forest px.fp [tree] (RCl tree px) :: []) mixed (.i (by repeat constructor)) ?_ (fun g => ?_)
  · refine .tk 0 rfl (RV.move rfl) ?_; refine .tk 1 rfl (RV.loadBA (RCl tree px) rfl rfl rfl rfl (by repeat constructor) rfl) ?_; refine .tk 2 rfl (RV.loadBA (RCl tree px) rfl rfl rfl rfl (by repeat constructor) rfl) ?_; refine .tk 4 rfl (RV.loadBA (RCl tree px) rfl rfl rfl rfl (by repeat constructor) rfl) ?_; refine .ld 3 ?_; refine EL.callPw rfl rfl rfl ent29 rfl (fun w' hs => dhas_c tree hfine 6 px.ad px.cap w' (kids_of hs (by repeat constructor))) ?_; refine .nx ?_; refine .ld 5 ?_; refine EL.callPw rfl rfl rfl ent30 rfl (fun w' hs => dgrps_c tree hfine px.ad px.cap w' (kids_of hs (by repeat constructor))) ?_; refine .nx ?_; refine .tk 6 rfl (RV.buildS (Sv t :: (RCl tree px ++ [.bool (hasK 6 tree), Iv (w64 (grpN tree : Nat))])).toArray rfl rfl rfl rfl (by kernel_rfl)) ?_; refine .ld 7 ?_; (refine .bx ?_; intro g25); refine .nx ?_; refine .tk 8 rfl (RV.assign rfl) ?_; refine .tk 9 rfl (RV.assign rfl) ?_; refine .tk 10 rfl (RV.assign rfl) ?_; refine .dn ?_
    exact .cy g25
  refine .go ?_; repeat constructor
  exact PX.ret rfl Tryz.results10 (.cons (.tmp rfl) (.cons (.tmp rfl) (.cons (.tmp rfl) .nil))) (fun w hs => ⟨(g, px), rfl, hs.ent (.i (by repeat constructor))⟩)
end Go.Proofs.YthcbjbkheodejaaGreat
namespace Go.Proofs.YthcbjbkheodejaaGreat
open Go Go.RowKit Sl
set_option maxRecDepth 100000
set_option maxHeartbeats 8000000
attribute [local irreducible] ES EL PX wps
structure Ed where
  kind : Nat
  set : BS
  to : Nat
structure AM where
  out : List (List Ed)
  back : List (List Ed)
def addTo (l : List (List Ed)) (i : Nat) (e : Ed) : List (List Ed) := l.set i (l.getD i [] ++ [e])
def AM.add (a : AM) : AM := ⟨a.out ++ [[]], a.back ++ [[]]⟩
def AM.link (a : AM) (f t k : Nat) (s : BS) : AM := ⟨addTo a.out f ⟨k, s, t⟩, addTo a.back t ⟨k, s, f⟩⟩
def AM.step (a : AM) (f k : Nat) (s : BS) : AM := a.add.link f a.out.length k s
def timesA (f : AM → Nat → AM × Nat) : Nat → AM → Nat → AM × Nat
  | 0, a, p => (a, p)
  | n + 1, a, p => timesA f n (f a p).1 (f a p).2
def optA (f : AM → Nat → AM × Nat) (out : Nat) : Nat → AM → Nat → AM
  | 0, a, _ => a
  | n + 1, a, p => optA f out n ((f a p).1.link (f a p).2 out 0 zeroS) (f a p).2
def repA (lo : Nat) (hi : Int) (k : RE) (f : AM → Nat → AM × Nat) (a : AM) (p : Nat) : AM × Nat :=
  let x := timesA f (leastM lo k) a p
  if hi = (lo : Int) ∨ k.thin = true then x
  else if hi < 0 then
    let h := x.1.out.length
    let y := f (x.1.step x.2 0 zeroS) h
    (y.1.link y.2 h 0 zeroS, h)
  else
    let o := x.1.out.length
    (optA f o (hi.toNat - lo) (x.1.step x.2 0 zeroS) x.2, o)
mutual
def layM : RE → AM → Nat → AM × Nat
  | .byte s, a, p => (a.step p 1 s, a.out.length)
  | .bol, a, p => (a.step p 2 zeroS, a.out.length)
  | .eol, a, p => (a.step p 3 zeroS, a.out.length)
  | .back _, a, p => ((a.step p 0 zeroS).link a.out.length a.out.length 1 (notS zeroS), a.out.length)
  | .rep lo hi k, a, p => repA lo hi k (layM k) a p
  | .cat ks, a, p => layL ks a p
  | .group _ k, a, p => layM k a p
def layL : List RE → AM → Nat → AM × Nat
  | [], a, p => (a, p)
  | k :: ks, a, p => layL ks (layM k a p).1 (layM k a p).2
end
def makeM (ks : List RE) : AM × Nat := layL ks (AM.add ⟨[], []⟩) 0
theorem add_len (a : AM) : a.add.out.length = a.out.length + 1 := by simp [AM.add]
theorem addTo_len (l : List (List Ed)) (i : Nat) (e : Ed) : (addTo l i e).length = l.length := by simp [addTo]
theorem link_len (a : AM) (f t k : Nat) (s : BS) : (a.link f t k s).out.length = a.out.length ∧ (a.link f t k s).back.length = a.back.length := ⟨addTo_len _ _ _, addTo_len _ _ _⟩
def EdsOk (es : List (List Ed)) : Prop := ∀ l ∈ es, ∀ e ∈ l, e.to < es.length ∧ e.kind ≤ 3
structure AM.Room (a : AM) (n : Nat) : Prop where
  out : a.out.length + n ≤ 131072
  same : a.back.length = a.out.length
  ro : ∀ l ∈ a.out, l.length + n ≤ 131072
  rb : ∀ l ∈ a.back, l.length + n ≤ 131072
  eo : EdsOk a.out
  eb : EdsOk a.back
theorem AM.Room.less {a : AM} {n m : Nat} (h : a.Room n) (hm : m ≤ n) : a.Room m := ⟨by have := h.out; omega, h.same, fun l hl => by have := h.ro l hl; omega, fun l hl => by have := h.rb l hl; omega, h.eo, h.eb⟩
theorem eds_add {l : List (List Ed)} (h : EdsOk l) : EdsOk (l ++ [[]]) := fun x hx e he => by
  rcases List.mem_append.1 hx with hx | hx
  · have := h x hx e he
    simp only [List.length_append, List.length_singleton]; exact ⟨by omega, this.2⟩
  · simp only [List.mem_singleton] at hx; subst hx; cases he
theorem eds_link {l : List (List Ed)} (h : EdsOk l) {i : Nat} {e : Ed} (ht : e.to < l.length) (hk : e.kind ≤ 3) : EdsOk (addTo l i e) := fun x hx e' he => by
  rw [addTo_len]
  rcases List.mem_or_eq_of_mem_set hx with hx | rfl
  · exact h x hx e' he
  · rcases List.mem_append.1 he with he | he
    · rw [List.getD_eq_getElem?_getD] at he
      cases hg : l[i]? with
      | none => rw [hg] at he; cases he
      | some y => rw [hg] at he; exact h y (List.mem_of_getElem? hg) e' he
    · rw [List.mem_singleton] at he; subst he; exact ⟨ht, hk⟩
theorem add_room {a : AM} {n : Nat} (h : a.Room (n + 1)) : a.add.Room n := by
  refine ⟨by have := h.out; rw [add_len]; omega, by simp [AM.add, h.same], fun l hl => ?_, fun l hl => ?_, eds_add h.eo, eds_add h.eb⟩
  · rcases List.mem_append.1 hl with hl | hl
    · have := h.ro l hl; omega
    · have := h.out; simp only [List.mem_singleton] at hl; subst hl; simp; omega
  · rcases List.mem_append.1 hl with hl | hl
    · have := h.rb l hl; omega
    · have := h.out; simp only [List.mem_singleton] at hl; subst hl; simp; omega
theorem addTo_room {l : List (List Ed)} {n : Nat} (h : ∀ x ∈ l, x.length + (n + 1) ≤ 131072) {i : Nat} (hi : i < l.length) (e : Ed) : ∀ x ∈ addTo l i e, x.length + n ≤ 131072 := by
  intro x hx
  rcases List.mem_or_eq_of_mem_set hx with hx | rfl
  · have := h x hx; omega
  · have := h l[i] (List.getElem_mem hi)
    simp only [List.getD_eq_getElem?_getD, List.getElem?_eq_getElem hi, Option.getD_some, List.length_append, List.length_singleton]
    omega
theorem link_room {a : AM} {n f t k : Nat} {s : BS} (h : a.Room (n + 1)) (hf : f < a.out.length) (ht : t < a.out.length) (hk : k ≤ 3 := by omega) : (a.link f t k s).Room n :=
  ⟨by rw [(link_len a f t k s).1]; have := h.out; omega, by rw [(link_len a f t k s).1, (link_len a f t k s).2]; exact h.same, addTo_room h.ro hf _, addTo_room h.rb (by rw [h.same]; exact ht) _, eds_link h.eo ht hk, eds_link h.eb (by rw [h.same]; exact hf) hk⟩
theorem step_len (a : AM) (f k : Nat) (s : BS) : (a.step f k s).out.length = a.out.length + 1 := by
  unfold AM.step; rw [(link_len _ _ _ _ _).1, add_len]
theorem step_room {a : AM} {n f k : Nat} {s : BS} (h : a.Room (n + 2)) (hf : f < a.out.length) (hk : k ≤ 3 := by omega) : (a.step f k s).Room n :=
  link_room (add_room h) (by rw [add_len]; omega) (by rw [add_len]; omega) hk
mutual
/-- How many states and edges a tree takes at the most. -/
def RE.cost : RE → Nat
  | .byte _ => 2
  | .bol => 2
  | .eol => 2
  | .back _ => 3
  | .cat ks => costL ks
  | .group _ k => k.cost
  | .rep lo hi k => leastM lo k * k.cost + (if hi = (lo : Int) ∨ k.thin = true then 0 else if hi < 0 then k.cost + 3 else (hi.toNat - lo) * (k.cost + 1) + 2)
def costL : List RE → Nat
  | [] => 0
  | k :: ks => k.cost + costL ks
end
structure Lays (c : Nat) (f : AM → Nat → AM × Nat) : Prop where
  room : ∀ a p n, a.Room (c + n) → p < a.out.length → (f a p).1.Room n ∧ (f a p).2 < (f a p).1.out.length ∧ a.out.length ≤ (f a p).1.out.length
theorem times_room {c : Nat} {f : AM → Nat → AM × Nat} (hf : Lays c f) : ∀ (m : Nat) (a : AM) (p n : Nat), a.Room (m * c + n) → p < a.out.length → (timesA f m a p).1.Room n ∧ (timesA f m a p).2 < (timesA f m a p).1.out.length ∧ a.out.length ≤ (timesA f m a p).1.out.length
  | 0, a, p, n, h, hp => ⟨h.less (by omega), hp, Nat.le_refl _⟩
  | m + 1, a, p, n, h, hp => by
    have h1 := hf.room a p (m * c + n) (h.less (by rw [Nat.succ_mul]; omega)) hp
    have h2 := times_room hf m _ _ n h1.1 h1.2.1
    exact ⟨h2.1, h2.2.1, by have := h1.2.2; have := h2.2.2; simp only [timesA]; omega⟩
theorem opt_room {c : Nat} {f : AM → Nat → AM × Nat} (hf : Lays c f) {o : Nat} : ∀ (m : Nat) (a : AM) (p n : Nat), a.Room (m * (c + 1) + n) → p < a.out.length → o < a.out.length → (optA f o m a p).Room n ∧ a.out.length ≤ (optA f o m a p).out.length
  | 0, a, p, n, h, hp, ho => ⟨h.less (by omega), Nat.le_refl _⟩
  | m + 1, a, p, n, h, hp, ho => by
    have h1 := hf.room a p (m * (c + 1) + n + 1) (h.less (by rw [Nat.succ_mul]; omega)) hp
    have h2 := opt_room hf (o := o) m ((f a p).1.link (f a p).2 o 0 zeroS) (f a p).2 n (link_room h1.1 h1.2.1 (by omega)) (by rw [(link_len _ _ _ _ _).1]; exact h1.2.1) (by rw [(link_len _ _ _ _ _).1]; omega)
    refine ⟨h2.1, ?_⟩
    have := h2.2
    rw [(link_len _ _ _ _ _).1] at this
    simp only [optA]; omega
theorem rep_room {lo : Nat} {hi : Int} {k : RE} (hk : Lays k.cost (layM k)) (a : AM) (p n : Nat) (h : a.Room ((RE.rep lo hi k).cost + n)) (hp : p < a.out.length) :
    (repA lo hi k (layM k) a p).1.Room n ∧ (repA lo hi k (layM k) a p).2 < (repA lo hi k (layM k) a p).1.out.length ∧ a.out.length ≤ (repA lo hi k (layM k) a p).1.out.length := by
  rw [RE.cost] at h
  unfold repA
  dsimp only
  split
  · rename_i hc
    rw [if_pos hc] at h
    exact times_room hk _ a p n (h.less (by omega)) hp
  · rename_i hc
    rw [if_neg hc] at h
    split
    · rename_i hneg
      rw [if_pos hneg] at h
      have h1 := times_room hk (leastM lo k) a p (k.cost + 3 + n) (h.less (by omega)) hp
      generalize timesA (layM k) (leastM lo k) a p = x at h1
      have h2 := step_room (k := 0) (s := zeroS) (n := k.cost + (1 + n)) (h1.1.less (by omega)) h1.2.1
      have h3 := hk.room _ x.1.out.length (1 + n) h2 (by rw [step_len]; omega)
      rw [step_len] at h3
      refine ⟨link_room (h3.1.less (by omega)) h3.2.1 (by omega), ?_, ?_⟩
      · rw [(link_len _ _ _ _ _).1]; omega
      · rw [(link_len _ _ _ _ _).1]; omega
    · rename_i hneg
      rw [if_neg hneg] at h
      have h1 := times_room hk (leastM lo k) a p ((hi.toNat - lo) * (k.cost + 1) + 2 + n) (h.less (by omega)) hp
      generalize timesA (layM k) (leastM lo k) a p = x at h1
      have h2 := step_room (k := 0) (s := zeroS) (n := (hi.toNat - lo) * (k.cost + 1) + n) (h1.1.less (by omega)) h1.2.1
      have h3 := opt_room hk (o := x.1.out.length) (hi.toNat - lo) (x.1.step x.2 0 zeroS) x.2 n h2 (by rw [step_len]; omega) (by rw [step_len]; omega)
      rw [step_len] at h3
      exact ⟨h3.1, by dsimp only; omega, by dsimp only; omega⟩
mutual
theorem lay_room : ∀ r : RE, Lays r.cost (layM r)
  | .byte s => ⟨fun a p n h hp => by rw [RE.cost] at h; exact ⟨step_room (h.less (by omega)) hp, by rw [layM, step_len]; dsimp only; omega, by rw [layM, step_len]; omega⟩⟩
  | .bol => ⟨fun a p n h hp => by rw [RE.cost] at h; exact ⟨step_room (h.less (by omega)) hp, by rw [layM, step_len]; dsimp only; omega, by rw [layM, step_len]; omega⟩⟩
  | .eol => ⟨fun a p n h hp => by rw [RE.cost] at h; exact ⟨step_room (h.less (by omega)) hp, by rw [layM, step_len]; dsimp only; omega, by rw [layM, step_len]; omega⟩⟩
  | .back _ => ⟨fun a p n h hp => by
      rw [RE.cost] at h
      rw [layM]
      dsimp only
      have h1 := step_room (k := 0) (s := zeroS) (n := n + 1) (h.less (by omega)) hp
      exact ⟨link_room h1 (by rw [step_len]; omega) (by rw [step_len]; omega), by rw [(link_len _ _ _ _ _).1, step_len]; omega, by rw [(link_len _ _ _ _ _).1, step_len]; omega⟩⟩
  | .rep lo hi k => ⟨fun a p n h hp => by rw [layM]; exact rep_room (lay_room k) a p n h hp⟩
  | .cat ks => ⟨fun a p n h hp => by rw [RE.cost] at h; rw [layM]; exact layL_room ks a p n h hp⟩
  | .group _ k => ⟨fun a p n h hp => by rw [RE.cost] at h; rw [layM]; exact (lay_room k).room a p n h hp⟩
theorem layL_room : ∀ (ks : List RE) (a : AM) (p n : Nat), a.Room (costL ks + n) → p < a.out.length → (layL ks a p).1.Room n ∧ (layL ks a p).2 < (layL ks a p).1.out.length ∧ a.out.length ≤ (layL ks a p).1.out.length
  | [], a, p, n, h, hp => by rw [layL]; rw [costL] at h; exact ⟨h.less (by omega), hp, Nat.le_refl _⟩
  | k :: ks, a, p, n, h, hp => by
    rw [costL] at h
    have h1 := (lay_room k).room a p (costL ks + n) (h.less (by omega)) hp
    have h2 := layL_room ks _ _ n h1.1 h1.2.1
    rw [layL]
    exact ⟨h2.1, h2.2.1, by omega⟩
end
end Go.Proofs.YthcbjbkheodejaaGreat
namespace Go.Proofs.YthcbjbkheodejaaGreat
open Go Go.RowKit Sl
set_option maxRecDepth 100000
set_option maxHeartbeats 8000000
attribute [local irreducible] ES EL PX wps
structure FS where
  marks : List Bool
  seen : List Bool
  todo : List (Nat × Nat)
  steps : Nat
def inB (n : Nat) (fwd : Bool) (a : Nat) : Bool := if fwd = true then decide (a < n) else decide (0 < a ∧ a - 1 < n)
def bAt (fwd : Bool) (a : Nat) : Nat := if fwd = true then a else a - 1
def cntM (n : Nat) (fwd : Bool) (e : Ed) (a : Nat) : Nat := if e.kind = 1 ∧ inB n fwd a = true then 1 else 0
def placeM (s : List UInt8) (fwd : Bool) (e : Ed) (a : Nat) : Option Nat :=
  if e.kind = 1 then (if inB s.length fwd a = true ∧ hasS e.set (s.getD (bAt fwd a) 0).toNat = true then some (if fwd = true then a + 1 else a - 1) else none)
  else if e.kind = 2 then (if a = 0 then some a else none)
  else if e.kind = 3 then (if a = s.length then some a else none)
  else some a
def pushM (n : Nat) (st : FS) (q a : Nat) : FS := if st.seen.getD (q * (n + 1) + a) false = true then st else { st with seen := st.seen.set (q * (n + 1) + a) true, todo := st.todo ++ [(q, a)] }
def edgeM (s : List UInt8) (fwd : Bool) (a : Nat) (st : FS) (e : Ed) : FS :=
  match placeM s fwd e a with
  | none => { st with steps := st.steps + cntM s.length fwd e a }
  | some b => pushM s.length { st with steps := st.steps + cntM s.length fwd e a } e.to b
def popM (goal : Nat) (st : FS) (p : Nat × Nat) : FS := { st with todo := st.todo.dropLast, marks := if p.1 = goal then st.marks.set p.2 true else st.marks }
def floodGo (es : List (List Ed)) (s : List UInt8) (goal : Nat) (fwd : Bool) : Nat → FS → FS
  | 0, st => st
  | f + 1, st =>
    match st.todo.getLast? with
    | none => st
    | some p => floodGo es s goal fwd f ((es.getD p.1 []).foldl (edgeM s fwd p.2) (popM goal st p))
def fs0 (N n : Nat) (p : Nat × Nat) (steps : Nat) : FS := ⟨List.replicate (n + 1) false, (List.replicate (N * (n + 1)) false).set (p.1 * (n + 1) + p.2) true, [p], steps⟩
def floodM (es : List (List Ed)) (s : List UInt8) (p : Nat × Nat) (goal : Nat) (fwd : Bool) (steps : Nat) : FS := floodGo es s goal fwd (es.length * (s.length + 1)) (fs0 es.length s.length p steps)
def FS.mu (st : FS) : Nat := st.seen.count false + st.todo.length
structure FS.Ok (N n : Nat) (st : FS) : Prop where
  marks : st.marks.length = n + 1
  seen : st.seen.length = N * (n + 1)
  todo : ∀ p ∈ st.todo, p.1 < N ∧ p.2 ≤ n
theorem idx_lt {N n q a : Nat} (hq : q < N) (ha : a ≤ n) : q * (n + 1) + a < N * (n + 1) := by
  have : (q + 1) * (n + 1) ≤ N * (n + 1) := Nat.mul_le_mul_right _ hq
  rw [Nat.succ_mul] at this
  omega
theorem idx_inj {n q a q' a' : Nat} (ha : a ≤ n) (ha' : a' ≤ n) (h : q * (n + 1) + a = q' * (n + 1) + a') : q = q' ∧ a = a' := by
  have h1 : (q * (n + 1) + a) / (n + 1) = q := by rw [Nat.mul_comm, Nat.mul_add_div (by omega), Nat.div_eq_of_lt (by omega)]; rfl
  have h2 : (q' * (n + 1) + a') / (n + 1) = q' := by rw [Nat.mul_comm, Nat.mul_add_div (by omega), Nat.div_eq_of_lt (by omega)]; rfl
  have : q = q' := by rw [← h1, h, h2]
  subst this
  exact ⟨rfl, by omega⟩
theorem place_le {s : List UInt8} {fwd : Bool} {e : Ed} {a b : Nat} (ha : a ≤ s.length) (h : placeM s fwd e a = some b) : b ≤ s.length := by
  unfold placeM at h
  split at h
  · split at h
    · rename_i h2
      have h3 := h2.1
      unfold inB at h3
      cases fwd <;> simp at h h3 <;> omega
    · cases h
  · split at h
    · split at h
      · cases h; exact ha
      · cases h
    · split at h
      · split at h
        · cases h; exact ha
        · cases h
      · cases h; exact ha
theorem count_set_false : ∀ (l : List Bool) (i : Nat), l[i]? = some false → (l.set i true).count false + 1 = l.count false
  | [], i, h => by simp at h
  | b :: l, 0, h => by
    simp only [List.getElem?_cons_zero, Option.some.injEq] at h
    subst h
    simp
  | b :: l, i + 1, h => by
    simp only [List.getElem?_cons_succ] at h
    have := count_set_false l i h
    simp only [List.set_cons_succ, List.count_cons]
    omega
theorem push_ok {N n : Nat} {st : FS} (h : st.Ok N n) {q a : Nat} (hq : q < N) (ha : a ≤ n) : (pushM n st q a).Ok N n ∧ (pushM n st q a).mu = st.mu ∧ (pushM n st q a).steps = st.steps := by
  unfold pushM
  split
  · exact ⟨h, rfl, rfl⟩
  · rename_i hf
    have hlt : q * (n + 1) + a < st.seen.length := by rw [h.seen]; exact idx_lt hq ha
    refine ⟨⟨h.marks, by simp [h.seen], fun p hp => ?_⟩, ?_, rfl⟩
    · rcases List.mem_append.1 hp with hp | hp
      · exact h.todo p hp
      · rw [List.mem_singleton] at hp; subst hp; exact ⟨hq, ha⟩
    · have hg : st.seen[q * (n + 1) + a]? = some false := by
        simp only [List.getD_eq_getElem?_getD, List.getElem?_eq_getElem hlt, Option.getD_some] at hf ⊢
        simpa using hf
      have := count_set_false _ _ hg
      simp only [FS.mu, List.length_append, List.length_singleton]
      omega
theorem cnt_le (n : Nat) (fwd : Bool) (e : Ed) (a : Nat) : cntM n fwd e a ≤ 1 := by unfold cntM; split <;> omega
theorem edge_ok {N : Nat} {s : List UInt8} {fwd : Bool} {st : FS} (h : st.Ok N s.length) {a : Nat} (ha : a ≤ s.length) {e : Ed} (he : e.to < N) :
    (edgeM s fwd a st e).Ok N s.length ∧ (edgeM s fwd a st e).mu = st.mu ∧ (edgeM s fwd a st e).steps = st.steps + cntM s.length fwd e a := by
  unfold edgeM
  split
  · exact ⟨⟨h.marks, h.seen, h.todo⟩, rfl, rfl⟩
  · rename_i b hb
    have := push_ok (st := { st with steps := st.steps + cntM s.length fwd e a }) ⟨h.marks, h.seen, h.todo⟩ he (place_le ha hb)
    exact ⟨this.1, this.2.1, this.2.2⟩
theorem edges_ok {N : Nat} {s : List UInt8} {fwd : Bool} {a : Nat} (ha : a ≤ s.length) : ∀ (es : List Ed) {st : FS}, st.Ok N s.length → (∀ e ∈ es, e.to < N) →
    (es.foldl (edgeM s fwd a) st).Ok N s.length ∧ (es.foldl (edgeM s fwd a) st).mu = st.mu ∧ (es.foldl (edgeM s fwd a) st).steps = st.steps + (es.map (cntM s.length fwd · a)).sum
  | [], st, h, _ => ⟨h, rfl, rfl⟩
  | e :: es, st, h, he => by
    have h1 := edge_ok (fwd := fwd) h ha (he e (by simp))
    have h2 := edges_ok (fwd := fwd) ha es h1.1 (fun e he' => he e (by simp [he']))
    exact ⟨h2.1, h2.2.1.trans h1.2.1, by rw [List.foldl_cons, h2.2.2, h1.2.2, List.map_cons, List.sum_cons]; omega⟩
theorem sum_le_len : ∀ (l : List Nat), (∀ x ∈ l, x ≤ 1) → l.sum ≤ l.length
  | [], _ => Nat.le_refl _
  | x :: l, h => by
    have h1 := h x (by simp)
    have h2 := sum_le_len l (fun y hy => h y (by simp [hy]))
    simp only [List.sum_cons, List.length_cons]; omega
theorem cnts_le (n : Nat) (fwd : Bool) (a : Nat) (es : List Ed) : (es.map (cntM n fwd · a)).sum ≤ es.length := by
  have := sum_le_len (es.map (cntM n fwd · a)) (fun x hx => by
    obtain ⟨e, _, rfl⟩ := List.mem_map.1 hx
    exact cnt_le n fwd e a)
  simpa using this
theorem last_split {α : Type _} {l : List α} {p : α} (h : l.getLast? = some p) : l = l.dropLast ++ [p] := by
  have hne : l ≠ [] := fun e => by subst e; simp at h
  rw [List.getLast?_eq_some_getLast hne] at h
  rw [← Option.some.inj h]
  exact (List.dropLast_concat_getLast hne).symm
theorem pop_ok {N n goal : Nat} {st : FS} (h : st.Ok N n) {p : Nat × Nat} (hp : st.todo.getLast? = some p) : (popM goal st p).Ok N n ∧ (popM goal st p).mu + 1 = st.mu ∧ p.1 < N ∧ p.2 ≤ n := by
  have hs := last_split hp
  have hm : p ∈ st.todo := by rw [hs]; simp
  refine ⟨⟨?_, h.seen, fun q hq => h.todo q (List.dropLast_subset _ hq)⟩, ?_, h.todo p hm⟩
  · unfold popM; dsimp only; split <;> simp [h.marks]
  · have : st.todo.length = st.todo.dropLast.length + 1 := by
      have h2 := congrArg List.length hs
      rw [List.length_append, List.length_singleton] at h2
      exact h2
    simp only [FS.mu, popM]; omega
theorem fs0_ok {N n : Nat} {p : Nat × Nat} (h1 : p.1 < N) (h2 : p.2 ≤ n) (steps : Nat) : (fs0 N n p steps).Ok N n ∧ (fs0 N n p steps).mu = N * (n + 1) := by
  refine ⟨⟨by simp [fs0], by simp [fs0], fun q hq => ?_⟩, ?_⟩
  · simp only [fs0, List.mem_singleton] at hq
    subst hq; exact ⟨h1, h2⟩
  · have hlt := idx_lt h1 h2
    have := count_set_false (List.replicate (N * (n + 1)) false) (p.1 * (n + 1) + p.2) (by simp [hlt])
    simp only [List.count_replicate_self] at this
    simp only [FS.mu, fs0, List.length_singleton]
    omega
inductive Rch (es : List (List Ed)) (s : List UInt8) (fwd : Bool) (x : Nat × Nat) : Nat × Nat → Prop
  | here : Rch es s fwd x x
  | step {q a b : Nat} {e : Ed} (h : Rch es s fwd x (q, a)) (he : e ∈ es.getD q []) (hp : placeM s fwd e a = some b) : Rch es s fwd x (e.to, b)
def cntAt (es : List (List Ed)) (n : Nat) (fwd : Bool) (x : Nat × Nat) : Nat := ((es.getD x.1 []).map (cntM n fwd · x.2)).sum
abbrev FS.has (n : Nat) (st : FS) (x : Nat × Nat) : Prop := st.seen.getD (x.1 * (n + 1) + x.2) false = true
def nowC (n : Nat) (fwd : Bool) (done : List (Nat × Nat)) (now : List Ed) : Nat := match done with
  | [] => 0
  | x :: _ => (now.map (cntM n fwd · x.2)).sum
theorem nowC_nil (n : Nat) (fwd : Bool) (done : List (Nat × Nat)) : nowC n fwd done [] = 0 := by cases done <;> rfl
structure FInv (es : List (List Ed)) (s : List UInt8) (fwd : Bool) (goal st0 : Nat) (x0 : Nat × Nat) (st : FS) (done : List (Nat × Nat)) (now : List Ed) : Prop where
  ok : st.Ok es.length s.length
  dok : ∀ x ∈ done, x.1 < es.length ∧ x.2 ≤ s.length
  seen : ∀ x : Nat × Nat, x.1 < es.length → x.2 ≤ s.length → (st.has s.length x ↔ x ∈ st.todo ∨ x ∈ done)
  nodup : (st.todo ++ done).Nodup
  rch : ∀ x, x ∈ st.todo ∨ x ∈ done → Rch es s fwd x0 x
  x0 : x0 ∈ st.todo ∨ x0 ∈ done
  closed : ∀ (i : Nat) (x : Nat × Nat), done[i]? = some x → ∀ e ∈ es.getD x.1 [], (i = 0 ∧ e ∈ now) ∨ ∀ b, placeM s fwd e x.2 = some b → (e.to, b) ∈ st.todo ∨ (e.to, b) ∈ done
  marks : ∀ a, a ≤ s.length → (st.marks.getD a false = true ↔ (goal, a) ∈ done)
  steps : st.steps + nowC s.length fwd done now = st0 + (done.map (cntAt es s.length fwd)).sum
theorem getD_set_bool (l : List Bool) (i j : Nat) (hi : i < l.length) : (l.set i true).getD j false = true ↔ l.getD j false = true ∨ i = j := by
  simp only [List.getD_eq_getElem?_getD, List.getElem?_set]
  by_cases h : i = j
  · subst h; simp [hi]
  · simp [h]
theorem FInv.edge {es : List (List Ed)} {s : List UInt8} {fwd : Bool} {goal st0 : Nat} {x0 x : Nat × Nat} {st : FS} {done : List (Nat × Nat)} {e : Ed} {now : List Ed} (h : FInv es s fwd goal st0 x0 st (x :: done) (e :: now)) (he : e ∈ es.getD x.1 []) (hto : e.to < es.length) (hle : ∀ e' ∈ now, e' ∈ es.getD x.1 []) :
    FInv es s fwd goal st0 x0 (edgeM s fwd x.2 st e) (x :: done) now := by
  have hx := h.dok x (by simp)
  have ho := edge_ok (fwd := fwd) h.ok hx.2 hto
  have hsteps : (edgeM s fwd x.2 st e).steps + nowC s.length fwd (x :: done) now = st0 + ((x :: done).map (cntAt es s.length fwd)).sum := by
    have := h.steps
    simp only [nowC, List.map_cons, List.sum_cons] at this ⊢
    rw [ho.2.2]; omega
  cases hp : placeM s fwd e x.2 with
  | none =>
    have he2 : edgeM s fwd x.2 st e = { st with steps := st.steps + cntM s.length fwd e x.2 } := by unfold edgeM; rw [hp]
    rw [he2] at ho hsteps ⊢
    refine ⟨ho.1, h.dok, h.seen, h.nodup, h.rch, h.x0, fun i y hy e' he' => ?_, h.marks, hsteps⟩
    rcases h.closed i y hy e' he' with ⟨rfl, hm⟩ | hm
    · rcases List.mem_cons.1 hm with rfl | hm
      · right
        simp only [List.getElem?_cons_zero, Option.some.injEq] at hy
        subst hy
        intro b hb
        rw [hp] at hb; cases hb
      · exact .inl ⟨rfl, hm⟩
    · exact .inr hm
  | some b =>
    have hb := place_le hx.2 hp
    have hrx : Rch es s fwd x0 (e.to, b) := Rch.step (q := x.1) (a := x.2) (h.rch x (.inr (by simp))) he hp
    have he2 : edgeM s fwd x.2 st e = pushM s.length { st with steps := st.steps + cntM s.length fwd e x.2 } e.to b := by unfold edgeM; rw [hp]
    rw [he2] at ho hsteps ⊢
    unfold pushM at ho hsteps ⊢
    have hhas := h.seen (e.to, b) hto hb
    split
    · rename_i hs
      rw [if_pos hs] at ho hsteps
      have hin : (e.to, b) ∈ st.todo ∨ (e.to, b) ∈ x :: done := hhas.1 hs
      refine ⟨ho.1, h.dok, h.seen, h.nodup, h.rch, h.x0, fun i y hy e' he' => ?_, h.marks, hsteps⟩
      rcases h.closed i y hy e' he' with ⟨rfl, hm⟩ | hm
      · rcases List.mem_cons.1 hm with rfl | hm
        · right
          simp only [List.getElem?_cons_zero, Option.some.injEq] at hy
          subst hy
          intro b' hb'
          rw [hp] at hb'
          rw [← Option.some.inj hb']; exact hin
        · exact .inl ⟨rfl, hm⟩
      · exact .inr hm
    · rename_i hs
      rw [if_neg hs] at ho hsteps
      have hnin : ¬ ((e.to, b) ∈ st.todo ∨ (e.to, b) ∈ x :: done) := fun hh => hs (hhas.2 hh)
      have hlt : e.to * (s.length + 1) + b < st.seen.length := by rw [h.ok.seen]; exact idx_lt hto hb
      refine ⟨ho.1, h.dok, fun y hy1 hy2 => ?_, ?_, fun y hy => ?_, ?_, fun i y hy e' he' => ?_, h.marks, hsteps⟩
      · show (st.seen.set (e.to * (s.length + 1) + b) true).getD (y.1 * (s.length + 1) + y.2) false = true ↔ _
        rw [getD_set_bool _ _ _ hlt]
        have hold := h.seen y hy1 hy2
        constructor
        · rintro (h1 | h1)
          · rcases hold.1 h1 with h2 | h2
            · exact .inl (by simp [h2])
            · exact .inr h2
          · obtain ⟨e1, e2⟩ := idx_inj hb hy2 h1
            left
            simp only [List.mem_append, List.mem_singleton]
            exact .inr (Prod.ext e1.symm e2.symm)
        · rintro (h1 | h1)
          · rcases List.mem_append.1 h1 with h1 | h1
            · exact .inl (hold.2 (.inl h1))
            · rw [List.mem_singleton] at h1
              subst h1; exact .inr rfl
          · exact .inl (hold.2 (.inr h1))
      · show ((st.todo ++ [(e.to, b)]) ++ x :: done).Nodup
        have hn := h.nodup
        rw [List.append_assoc]
        rw [List.nodup_append] at hn ⊢
        refine ⟨hn.1, ?_, ?_⟩
        · rw [List.singleton_append, List.nodup_cons]
          exact ⟨fun hm => hnin (.inr hm), hn.2.1⟩
        · intro u hu v hv
          rcases List.mem_append.1 hv with hv | hv
          · rw [List.mem_singleton] at hv
            subst hv
            intro hne
            exact hnin (.inl (hne ▸ hu))
          · exact hn.2.2 u hu v hv
      · rcases hy with hy | hy
        · rcases List.mem_append.1 hy with hy | hy
          · exact h.rch y (.inl hy)
          · rw [List.mem_singleton] at hy; subst hy; exact hrx
        · exact h.rch y (.inr hy)
      · rcases h.x0 with h0 | h0
        · exact .inl (by simp [h0])
        · exact .inr h0
      · have up : ∀ z, (z ∈ st.todo ∨ z ∈ x :: done) → (z ∈ st.todo ++ [(e.to, b)] ∨ z ∈ x :: done) := fun z hz => hz.imp (fun h => by simp [h]) id
        rcases h.closed i y hy e' he' with ⟨rfl, hm⟩ | hm
        · rcases List.mem_cons.1 hm with rfl | hm
          · right
            simp only [List.getElem?_cons_zero, Option.some.injEq] at hy
            subst hy
            intro b' hb'
            rw [hp] at hb'
            rw [← Option.some.inj hb']
            exact .inl (by simp)
          · exact .inl ⟨rfl, hm⟩
        · exact .inr (fun b' hb' => up _ (hm b' hb'))
theorem FInv.edges {es : List (List Ed)} {s : List UInt8} {fwd : Bool} {goal st0 : Nat} {x0 x : Nat × Nat} {done : List (Nat × Nat)} : ∀ (now : List Ed) {st : FS}, FInv es s fwd goal st0 x0 st (x :: done) now → (∀ e ∈ now, e ∈ es.getD x.1 [] ∧ e.to < es.length) → FInv es s fwd goal st0 x0 (now.foldl (edgeM s fwd x.2) st) (x :: done) []
  | [], st, h, _ => h
  | e :: now, st, h, hm => FInv.edges now (h.edge (hm e (by simp)).1 (hm e (by simp)).2 (fun e' he' => (hm e' (by simp [he'])).1)) (fun e' he' => hm e' (by simp [he']))
theorem FInv.pop {es : List (List Ed)} {s : List UInt8} {fwd : Bool} {goal st0 : Nat} {x0 p : Nat × Nat} {done : List (Nat × Nat)} {st : FS} (h : FInv es s fwd goal st0 x0 st done []) (hp : st.todo.getLast? = some p) : FInv es s fwd goal st0 x0 (popM goal st p) (p :: done) (es.getD p.1 []) := by
  have hs := last_split hp
  obtain ⟨k1, _, k3⟩ := pop_ok (goal := goal) h.ok hp
  have hmem : ∀ x, (x ∈ st.todo.dropLast ∨ x ∈ p :: done) ↔ (x ∈ st.todo ∨ x ∈ done) := fun x => by
    conv => rhs; rw [hs]
    simp only [List.mem_append, List.mem_cons, List.not_mem_nil, or_false]
    constructor
    · rintro (h | h | h)
      · exact .inl (.inl h)
      · exact .inl (.inr h)
      · exact .inr h
    · rintro ((h | h) | h)
      · exact .inl h
      · exact .inr (.inl h)
      · exact .inr (.inr h)
  refine ⟨k1, fun x hx => ?_, fun x h1 h2 => (h.seen x h1 h2).trans (hmem x).symm, ?_, fun x hx => h.rch x ((hmem x).1 hx), (hmem x0).2 h.x0, fun i x hx e he => ?_, fun a ha => ?_, ?_⟩
  · rcases List.mem_cons.1 hx with rfl | hx
    · exact k3
    · exact h.dok x hx
  · have hn := h.nodup
    rw [hs, List.append_assoc, List.singleton_append] at hn
    exact hn
  · cases i with
    | zero =>
      simp only [List.getElem?_cons_zero, Option.some.injEq] at hx
      subst hx
      exact .inl ⟨rfl, he⟩
    | succ i =>
      simp only [List.getElem?_cons_succ] at hx
      rcases h.closed i x hx e he with ⟨_, hm⟩ | hm
      · cases hm
      · exact .inr (fun b hb => (hmem _).2 (hm b hb))
  · show (if p.1 = goal then st.marks.set p.2 true else st.marks).getD a false = true ↔ _
    have hold := h.marks a ha
    split
    · rename_i hg
      rw [getD_set_bool _ _ _ (by rw [h.ok.marks]; omega), hold, List.mem_cons]
      constructor
      · rintro (h1 | h1)
        · exact .inr h1
        · exact .inl (Prod.ext hg.symm h1.symm)
      · rintro (h1 | h1)
        · right; rw [← h1]
        · exact .inl h1
    · rename_i hg
      rw [hold, List.mem_cons]
      exact ⟨.inr, fun h1 => h1.resolve_left (fun e => hg (by rw [← e]))⟩
  · have := h.steps
    show st.steps + _ = _
    simp only [List.map_cons, List.sum_cons, cntAt]
    rw [nowC_nil] at this
    simp only [cntAt, nowC] at this ⊢
    omega
theorem FInv.flood {es : List (List Ed)} {s : List UInt8} {fwd : Bool} {goal st0 : Nat} {x0 : Nat × Nat} (hes : EdsOk es) : ∀ (f : Nat) (done : List (Nat × Nat)) (st : FS), FInv es s fwd goal st0 x0 st done [] → st.mu ≤ f → ∃ done', FInv es s fwd goal st0 x0 (floodGo es s goal fwd f st) done' [] ∧ (floodGo es s goal fwd f st).todo = []
  | 0, done, st, h, hm => ⟨done, h, by
    unfold FS.mu at hm
    exact List.eq_nil_of_length_eq_zero (by show st.todo.length = 0; omega)⟩
  | f + 1, done, st, h, hm => by
    rw [floodGo]
    split
    · rename_i hp
      exact ⟨done, h, List.getLast?_eq_none_iff.1 hp⟩
    · rename_i p hp
      have hpop := h.pop hp
      obtain ⟨k1, k2, k3⟩ := pop_ok (goal := goal) h.ok hp
      have hrow : ∀ e ∈ es.getD p.1 [], e ∈ es.getD p.1 [] ∧ e.to < es.length := fun e he => ⟨he, by
        rw [List.getD_eq_getElem?_getD, List.getElem?_eq_getElem k3.1, Option.getD_some] at he
        exact (hes _ (List.getElem_mem k3.1) e he).1⟩
      have h2 := hpop.edges (es.getD p.1 []) hrow
      have h3 := edges_ok (fwd := fwd) k3.2 (es.getD p.1 []) k1 (fun e he => (hrow e he).2)
      exact FInv.flood hes f _ _ h2 (by rw [h3.2.1]; omega)
theorem FInv.start {es : List (List Ed)} {s : List UInt8} {fwd : Bool} {goal st0 : Nat} {x0 : Nat × Nat} (h1 : x0.1 < es.length) (h2 : x0.2 ≤ s.length) : FInv es s fwd goal st0 x0 (fs0 es.length s.length x0 st0) [] [] := by
  have hlt := idx_lt h1 h2
  refine ⟨(fs0_ok h1 h2 st0).1, by simp, fun x hx1 hx2 => ?_, by simp [fs0], fun x hx => ?_, .inl (by simp [fs0]), by simp, fun a ha => by
    have : (fs0 es.length s.length x0 st0).marks.getD a false = false := by
      simp only [fs0, List.getD_eq_getElem?_getD, List.getElem?_replicate]
      split <;> rfl
    rw [this]; simp, rfl⟩
  · show ((List.replicate (es.length * (s.length + 1)) false).set (x0.1 * (s.length + 1) + x0.2) true).getD _ false = true ↔ _
    rw [getD_set_bool _ _ _ (by simpa using hlt)]
    simp only [fs0, List.mem_singleton, List.not_mem_nil, or_false]
    constructor
    · rintro (h | h)
      · simp [List.getD_eq_getElem?_getD] at h
        rw [List.getElem?_replicate] at h
        split at h <;> simp at h
      · obtain ⟨e1, e2⟩ := idx_inj h2 hx2 h
        exact Prod.ext e1.symm e2.symm
    · intro h; subst h; exact .inr rfl
  · simp only [fs0, List.mem_singleton, List.not_mem_nil, or_false] at hx
    subst hx; exact .here
structure Flood (es : List (List Ed)) (s : List UInt8) (x0 : Nat × Nat) (goal : Nat) (fwd : Bool) (st0 : Nat) (r : FS) (done : List (Nat × Nat)) : Prop where
  len : r.marks.length = s.length + 1
  nodup : done.Nodup
  all : ∀ x, x ∈ done ↔ Rch es s fwd x0 x
  marks : ∀ a, a ≤ s.length → (r.marks.getD a false = true ↔ Rch es s fwd x0 (goal, a))
  dok : ∀ x ∈ done, x.1 < es.length ∧ x.2 ≤ s.length
  steps : r.steps = st0 + (done.map (cntAt es s.length fwd)).sum
theorem flood_spec {es : List (List Ed)} (hes : EdsOk es) (s : List UInt8) {x0 : Nat × Nat} (h1 : x0.1 < es.length) (h2 : x0.2 ≤ s.length) (goal : Nat) (fwd : Bool) (st0 : Nat) : ∃ done, Flood es s x0 goal fwd st0 (floodM es s x0 goal fwd st0) done := by
  obtain ⟨done, h, hnil⟩ := FInv.flood (goal := goal) (fwd := fwd) (st0 := st0) hes (es.length * (s.length + 1)) [] _ (FInv.start h1 h2) (by rw [(fs0_ok h1 h2 st0).2]; exact Nat.le_refl _)
  have hall : ∀ x, x ∈ done ↔ Rch es s fwd x0 x := fun x => ⟨fun hx => h.rch x (.inr hx), fun hx => by
    induction hx with
    | here =>
      rcases h.x0 with h0 | h0
      · rw [hnil] at h0; cases h0
      · exact h0
    | @step q a b e hr he hp ih =>
      obtain ⟨i, hi⟩ := List.mem_iff_getElem?.1 ih
      rcases h.closed i (q, a) hi e he with ⟨_, hm⟩ | hm
      · cases hm
      · rcases hm b hp with h0 | h0
        · rw [hnil] at h0; cases h0
        · exact h0⟩
  refine ⟨done, h.ok.marks, ?_, hall, fun a ha => (h.marks a ha).trans (hall _), h.dok, ?_⟩
  · have := h.nodup
    rw [hnil] at this
    simpa using this
  · have := h.steps
    rw [nowC_nil] at this
    exact this
def edC (e : Ed) : List Value := [Iv (e.kind : Nat), Wv e.set.a, Wv e.set.b, Wv e.set.c, Wv e.set.d, Iv (e.to : Nat)]
def edsC (es : List Ed) : List Value := es.flatMap edC
abbrev EP := Value × List Ed
abbrev edRow (p : EP) : HA := HA.row p.1 180 6 p.2.length (edsC p.2)
def HA.edg (ps : List EP) : HA := ⟨ps.flatMap fun p => p.1.ownBlock.toList, fun w => ∀ p ∈ ps, w.ownsRow 0 180 6 p.1 p.2.length (edsC p.2), fun w w' h hw p hp => ownsRow_loc (fun g hg => h g (List.mem_flatMap.2 ⟨p, hp, hg⟩)) (hw p hp)⟩
theorem Sat.edgOut {w0 w : World} {B : Nat} {l m : List EP} {R : List HA} {p : EP} (h : Sat w0 B (HA.edg (l ++ p :: m) :: R) w) : Sat w0 B (edRow p :: HA.edg (l ++ m) :: R) w :=
  Sl.Sat.rules (Hs := [HA.edg (l ++ p :: m)]) (Hs' := [edRow p, HA.edg (l ++ m)]) h (by
    simp only [fps, List.flatMap_cons, List.flatMap_nil, HA.edg, HA.row, List.append_nil, List.flatMap_append]
    exact List.perm_append_comm_assoc _ _ _) (fun hh Y hY => by
    have h1 := hh (HA.edg (l ++ p :: m)) (by simp)
    simp only [List.mem_cons, List.not_mem_nil, or_false] at hY
    rcases hY with rfl | rfl
    · exact h1 p (by simp)
    · exact fun q hq => h1 q (by rcases List.mem_append.1 hq with hq | hq <;> simp [hq]))
theorem Sat.edgIn {w0 w : World} {B : Nat} {l m : List EP} {R : List HA} {p : EP} (h : Sat w0 B (edRow p :: HA.edg (l ++ m) :: R) w) : Sat w0 B (HA.edg (l ++ p :: m) :: R) w :=
  Sl.Sat.rules (Hs := [edRow p, HA.edg (l ++ m)]) (Hs' := [HA.edg (l ++ p :: m)]) h (by
    simp only [fps, List.flatMap_cons, List.flatMap_nil, HA.edg, HA.row, List.append_nil, List.flatMap_append]
    exact (List.perm_append_comm_assoc _ _ _).symm) (fun hh Y hY => by
    have h1 : (HA.edg (l ++ m)).holds w := hh (HA.edg (l ++ m)) (by simp)
    have h2 : (edRow p).holds w := hh (edRow p) (by simp)
    rw [List.mem_singleton] at hY
    subst hY
    intro q hq
    rcases List.mem_append.1 hq with hq | hq
    · exact h1 q (by simp [hq])
    · rcases List.mem_cons.1 hq with rfl | hq
      · exact h2
      · exact h1 q (by simp [hq]))
theorem Sat.edgNew {w0 w : World} {B : Nat} {l : List EP} {R : List HA} (h : Sat w0 B (HA.edg l :: R) w) : Sat w0 B (HA.edg (l ++ [((.slice none 0 0, []) : EP)]) :: R) w :=
  Sl.Sat.rules (Hs := [HA.edg l]) (Hs' := [HA.edg (l ++ [((.slice none 0 0, []) : EP)])]) h (by
    simp only [fps, List.flatMap_cons, List.flatMap_nil, HA.edg, List.append_nil, List.flatMap_append, Value.ownBlock, Option.toList]
    exact List.Perm.refl _) (fun hh Y hY => by
    have h1 : (HA.edg l).holds w := hh (HA.edg l) (by simp)
    rw [List.mem_singleton] at hY
    subst hY
    intro q hq
    rcases List.mem_append.1 hq with hq | hq
    · exact h1 q hq
    · rw [List.mem_singleton] at hq
      subst hq
      exact World.ownsRow_nil _ _ _ _)
abbrev OR (ad : Option Addr) (cap : Nat) (ps : List EP) : HA := HA.row (.slice ad ps.length cap) 178 1 ps.length (ps.map Prod.fst)
structure AV where
  oad : Option Addr
  ocap : Nat
  bad : Option Addr
  bcap : Nat
  ps : List EP
  qs : List EP
abbrev AVal (ga : Nat) (v : AV) (en : Nat) : HA := HA.blk ga (.cells #[.slice v.oad v.ps.length v.ocap, .slice v.bad v.qs.length v.bcap, Iv (en : Nat)] 121)
abbrev AH (ga : Nat) (v : AV) (en : Nat) : List HA := [AVal ga v en, OR v.oad v.ocap v.ps, HA.edg v.ps, OR v.bad v.bcap v.qs, HA.edg v.qs]
structure AV.Is (v : AV) (a : AM) : Prop where
  out : v.ps.map Prod.snd = a.out
  back : v.qs.map Prod.snd = a.back
abbrev AX (a : AM) : Type := { v : AV // v.Is a }
abbrev nilE : EP := (.slice none 0 0, [])
theorem OR_app {ad : Option Addr} {cap : Nat} {ps : List EP} : HA.row (.slice ad (ps.length + 1) cap) 178 1 (ps.length + 1) (ps.map Prod.fst ++ [.slice none 0 0]) = OR ad cap (ps ++ [nilE]) := by
  unfold OR
  rw [List.length_append, List.length_singleton, List.map_append]; rfl
theorem nfaAdd_c (ga : Nat) (v : AV) (en : Nat) (a : AM) (hv : v.Is a) (hn : v.ps.length ≤ 1073741824) (hm : v.qs.length ≤ 1073741824) :
    Mut Tryz.prog 41 #[Pv ga 0] (AH ga v en) (fun _ : AX a.add => Iv (a.out.length : Nat)) (fun x => AH ga x.1 en) := by
  intro w0 B R w h
  obtain ⟨oad, ocap, bad, bcap, ps, qs⟩ := v
  obtain ⟨ho, hb⟩ := hv
  dsimp only at ho hb hn hm
  have hlen : a.out.length = ps.length := by rw [← ho, List.length_map]
  replace h : Sat w0 B (HA.blk ga (.cells #[.slice oad ps.length ocap, .slice bad qs.length bcap, Iv (en : Nat)] 121) :: OR oad ocap ps :: HA.edg ps :: OR bad bcap qs :: HA.edg qs :: R) w := h
  refine calls_of_ES TB Tryz.func41 rfl _ Tryz.ntmps41 rfl h ?_; refine .go ?_; (repeat constructor); refine .as_ ?_; refine .go ?_; (repeat constructor); refine .mv ?_; refine .mv ?_; refine .nc ?_; refine .fa ?_; refine .lb ?_; (refine .b1 ?_; intro b8)
  (refine EL.append1 rfl rfl rfl rfl rfl rfl rfl rfl rfl (by repeat constructor) (by repeat constructor) (by first | (intro u hu; simp [Value.cells] at hu; subst hu; rfl) | exact all1 rfl) (by rfl) (by unfold maxLen; omega) (by first | omega | (show 1 * _ ≤ _; omega) | (show 8 * _ ≤ _; omega) | (show 16 * _ ≤ _; omega) | (show 24 * _ ≤ _; omega) | (show _ * 1 ≤ _; omega) | (show _ * 8 ≤ _; omega) | (show _ * 16 ≤ _; omega) | (show _ * 24 ≤ _; omega) | exact Nat.le_trans (Nat.mul_le_mul_right _ (show _ ≤ 1073741824 by omega)) (by decide)) ?_; intro a9 c9)
  refine .nc ?_; refine .fa ?_; refine .sb ?_; refine .go ?_; (repeat constructor); refine .mv ?_; refine .mv ?_; refine .nc ?_; refine .fa ?_; refine .lb ?_; (refine .b1 ?_; intro b17)
  (refine EL.append1 rfl rfl rfl rfl rfl rfl rfl rfl rfl (by repeat constructor) (by repeat constructor) (by first | (intro u hu; simp [Value.cells] at hu; subst hu; rfl) | exact all1 rfl) (by rfl) (by unfold maxLen; omega) (by first | omega | (show 1 * _ ≤ _; omega) | (show 8 * _ ≤ _; omega) | (show 16 * _ ≤ _; omega) | (show 24 * _ ≤ _; omega) | (show _ * 1 ≤ _; omega) | (show _ * 8 ≤ _; omega) | (show _ * 16 ≤ _; omega) | (show _ * 24 ≤ _; omega) | exact Nat.le_trans (Nat.mul_le_mul_right _ (show _ ≤ 1073741824 by omega)) (by decide)) ?_; intro a18 c18)
  refine .nc ?_; refine .fa ?_; refine .sb ?_; refine .go ?_; (repeat constructor); refine .mv ?_; refine .nc ?_; refine .fa ?_; refine .lb ?_; refine .lL ?_; refine EL.sub1 rfl rfl rfl rfl (by omega) (by omega) ?_; refine .as_ ?_; refine .go ?_; repeat constructor
  refine PX.ret rfl Tryz.results41 (.cons (.tmp rfl) .nil) (fun w hs => ⟨⟨⟨some ⟨a9, 0, none⟩, c9, some ⟨a18, 0, none⟩, c18, ps ++ [nilE], qs ++ [nilE]⟩, ⟨by simp [AM.add, ← ho], by simp [AM.add, ← hb]⟩⟩, by rw [hlen]; rfl, ?_⟩)
  have h1 := Sat.edgNew (hs.ent (H' := HA.edg ps :: HA.blk ga (.cells #[.slice (some ⟨a9, 0, none⟩) (ps.length + 1) c9, .slice (some ⟨a18, 0, none⟩) (qs.length + 1) c18, Iv (en : Nat)] 121) :: HA.row (.slice (some ⟨a9, 0, none⟩) (ps.length + 1) c9) 178 1 (ps.length + 1) (ps.map Prod.fst ++ [.slice none 0 0]) :: HA.row (.slice (some ⟨a18, 0, none⟩) (qs.length + 1) c18) 178 1 (qs.length + 1) (qs.map Prod.fst ++ [.slice none 0 0]) :: HA.edg qs :: R) (.i (by repeat constructor)))
  have h2 := Sat.edgNew (h1.ent (H' := HA.edg qs :: HA.edg (ps ++ [nilE]) :: HA.blk ga (.cells #[.slice (some ⟨a9, 0, none⟩) (ps.length + 1) c9, .slice (some ⟨a18, 0, none⟩) (qs.length + 1) c18, Iv (en : Nat)] 121) :: HA.row (.slice (some ⟨a9, 0, none⟩) (ps.length + 1) c9) 178 1 (ps.length + 1) (ps.map Prod.fst ++ [.slice none 0 0]) :: HA.row (.slice (some ⟨a18, 0, none⟩) (qs.length + 1) c18) 178 1 (qs.length + 1) (qs.map Prod.fst ++ [.slice none 0 0]) :: R) (.i (by repeat constructor)))
  rw [OR_app, OR_app] at h2
  have e1 : (ps ++ [nilE]).length = ps.length + 1 := by simp
  have e2 : (qs ++ [nilE]).length = qs.length + 1 := by simp
  show Sat w0 B (HA.blk ga (.cells #[.slice (some ⟨a9, 0, none⟩) (ps ++ [nilE]).length c9, .slice (some ⟨a18, 0, none⟩) (qs ++ [nilE]).length c18, Iv (en : Nat)] 121) :: OR (some ⟨a9, 0, none⟩) c9 (ps ++ [nilE]) :: HA.edg (ps ++ [nilE]) :: OR (some ⟨a18, 0, none⟩) c18 (qs ++ [nilE]) :: HA.edg (qs ++ [nilE]) :: R) w
  rw [e1, e2]
  exact h2.ent (.i (by repeat constructor))
theorem ep_split {ps : List EP} {i : Nat} (h : i < ps.length) : ∃ l p m, ps = l ++ p :: m ∧ l.length = i := ⟨ps.take i, ps[i], ps.drop (i + 1), by rw [List.getElem_cons_drop, List.take_append_drop], by rw [List.length_take]; omega⟩
theorem fst_at (l m : List EP) (p : EP) : ((l ++ p :: m).map Prod.fst)[l.length]? = some p.1 := by simp
theorem fst_set (l m : List EP) (p : EP) (u : Value) (es : List Ed) : ((l ++ p :: m).map Prod.fst).set l.length u = (l ++ (u, es) :: m).map Prod.fst := by simp
theorem addTo_split (l m : List EP) (p : EP) (e : Ed) (u : Value) : addTo ((l ++ p :: m).map Prod.snd) l.length e = (l ++ (u, p.2 ++ [e]) :: m).map Prod.snd := by
  unfold addTo
  simp [List.getD_eq_getElem?_getD]
theorem row_val {w : World} {e sz n : Nat} {v : Value} {cs : List Value} (h : w.ownsRow 0 e sz v n cs) : ∃ ad cap, v = .slice ad n cap := by
  obtain ⟨_, (⟨h1, h2⟩ | ⟨g, cap, cur, h1, _⟩)⟩ := h
  · exact ⟨none, 0, by rw [h1, h2]⟩
  · exact ⟨_, _, h1⟩
theorem edsC_app (es : List Ed) (e : Ed) : edsC (es ++ [e]) = edsC es ++ edC e := by simp [edsC]
theorem nfaLink_c (ga : Nat) (v : AV) (en : Nat) (a : AM) (hv : v.Is a) (f t k : Nat) (s : BS) (hf : f < v.ps.length) (ht : t < v.qs.length) (hn : v.ps.length ≤ 1073741824) (hm : v.qs.length ≤ 1073741824) (he : ∀ p ∈ v.ps, p.2.length ≤ 16777216) (he2 : ∀ p ∈ v.qs, p.2.length ≤ 16777216) :
    Mut Tryz.prog 64 #[Pv ga 0, Iv (f : Nat), Iv (t : Nat), Iv (k : Nat), Bs s] (AH ga v en) (fun _ : AX (a.link f t k s) => .tuple #[]) (fun x => AH ga x.1 en) := by
  intro w0 B R w h
  obtain ⟨oad, ocap, bad, bcap, ps, qs⟩ := v
  obtain ⟨ho, hb⟩ := hv
  dsimp only at ho hb hn hm hf ht he he2
  obtain ⟨l, p, m, rfl, rfl⟩ := ep_split hf
  obtain ⟨l2, p2, m2, rfl, rfl⟩ := ep_split ht
  have h1 := Sat.edgOut (h.ent (H' := HA.edg (l ++ p :: m) :: HA.blk ga (.cells #[.slice oad (l ++ p :: m).length ocap, .slice bad (l2 ++ p2 :: m2).length bcap, Iv (en : Nat)] 121) :: OR oad ocap (l ++ p :: m) :: OR bad bcap (l2 ++ p2 :: m2) :: HA.edg (l2 ++ p2 :: m2) :: R) (.i (by repeat constructor)))
  have h2 := Sat.edgOut (h1.ent (H' := HA.edg (l2 ++ p2 :: m2) :: HA.blk ga (.cells #[.slice oad (l ++ p :: m).length ocap, .slice bad (l2 ++ p2 :: m2).length bcap, Iv (en : Nat)] 121) :: OR oad ocap (l ++ p :: m) :: edRow p :: HA.edg (l ++ m) :: OR bad bcap (l2 ++ p2 :: m2) :: R) (.i (by repeat constructor)))
  have hpe := he p (by simp)
  have hpe2 := he2 p2 (by simp)
  obtain ⟨pv, pe⟩ := p
  obtain ⟨pv2, pe2⟩ := p2
  dsimp only at hpe hpe2
  have hr1 : w.ownsRow 0 180 6 pv pe.length (edsC pe) := h2.all (edRow (pv, pe)) (by simp)
  have hr2 : w.ownsRow 0 180 6 pv2 pe2.length (edsC pe2) := h2.all (edRow (pv2, pe2)) (by simp)
  obtain ⟨iad, icap, rfl⟩ := row_val hr1
  obtain ⟨iad2, icap2, rfl⟩ := row_val hr2
  have hpl : l.length < (l ++ (Value.slice iad pe.length icap, pe) :: m).length := by simp
  have hpl2 : l2.length < (l2 ++ (Value.slice iad2 pe2.length icap2, pe2) :: m2).length := by simp
  have hset := fun u => fst_set l m (Value.slice iad pe.length icap, pe) u (pe ++ [⟨k, s, l2.length⟩])
  have hset2 := fun u => fst_set l2 m2 (Value.slice iad2 pe2.length icap2, pe2) u (pe2 ++ [⟨k, s, l.length⟩])
  have hat := fst_at l m (Value.slice iad pe.length icap, pe)
  have hat2 := fst_at l2 m2 (Value.slice iad2 pe2.length icap2, pe2)
  have hs1 := fun u => addTo_split l m (Value.slice iad pe.length icap, pe) ⟨k, s, l2.length⟩ u
  have hs2 := fun u => addTo_split l2 m2 (Value.slice iad2 pe2.length icap2, pe2) ⟨k, s, l.length⟩ u
  have hln : ∀ u es, (l ++ ((u, es) : EP) :: m).length = (l ++ (Value.slice iad pe.length icap, pe) :: m).length := fun u es => by simp
  have hln2 : ∀ u es, (l2 ++ ((u, es) : EP) :: m2).length = (l2 ++ (Value.slice iad2 pe2.length icap2, pe2) :: m2).length := fun u es => by simp
  rw [ho] at hs1
  rw [hb] at hs2
  obtain ⟨og, rfl⟩ := (row_form (h.all (OR oad ocap (l ++ (Value.slice iad pe.length icap, pe) :: m)) (by simp))).2.2.2.2 (by omega)
  obtain ⟨bg, rfl⟩ := (row_form (h.all (OR bad bcap (l2 ++ (Value.slice iad2 pe2.length icap2, pe2) :: m2)) (by simp))).2.2.2.2 (by omega)
  replace h : Sat w0 B (HA.blk ga (.cells #[.slice (some ⟨og, 0, none⟩) (l ++ (Value.slice iad pe.length icap, pe) :: m).length ocap, .slice (some ⟨bg, 0, none⟩) (l2 ++ (Value.slice iad2 pe2.length icap2, pe2) :: m2).length bcap, Iv (en : Nat)] 121) :: OR (some ⟨og, 0, none⟩) ocap (l ++ (Value.slice iad pe.length icap, pe) :: m) :: HA.row (.slice iad pe.length icap) 180 6 pe.length (edsC pe) :: HA.edg (l ++ m) :: OR (some ⟨bg, 0, none⟩) bcap (l2 ++ (Value.slice iad2 pe2.length icap2, pe2) :: m2) :: HA.row (.slice iad2 pe2.length icap2) 180 6 pe2.length (edsC pe2) :: HA.edg (l2 ++ m2) :: R) w := h2.ent (.i (by repeat constructor))
  unfold OR at h
  generalize (l ++ (Value.slice iad pe.length icap, pe) :: m).length = N at *
  generalize (l2 ++ (Value.slice iad2 pe2.length icap2, pe2) :: m2).length = M at *
  generalize hF : (l ++ (Value.slice iad pe.length icap, pe) :: m).map Prod.fst = F at *
  generalize hF2 : (l2 ++ (Value.slice iad2 pe2.length icap2, pe2) :: m2).map Prod.fst = F2 at *
  have hFl : l.length < F.length := by rw [← hF]; simp
  have hFl2 : l2.length < F2.length := by rw [← hF2]; simp
  obtain ⟨K1, hK1⟩ : ∃ K1, K1 = HA.edg (l ++ m) := ⟨_, rfl⟩
  obtain ⟨K2, hK2⟩ : ∃ K2, K2 = HA.edg (l2 ++ m2) := ⟨_, rfl⟩
  rw [← hK1, ← hK2] at h
  refine calls_of_ES TB Tryz.func64 rfl _ Tryz.ntmps64 rfl h ?_; refine .go ?_; (repeat constructor); (refine .bx ?_; intro g9); refine .go ?_; repeat constructor
  refine ES.draw (X := Nat × Nat) (fun _ => [(0, Pv ga 0), (1, Iv (l.length : Nat)), (2, Iv (l2.length : Nat)), (3, Iv (k : Nat)), (9, Pv g9 0)])
    (fun x => HA.blk g9 (.cells #[Wv s.a, Wv s.b, Wv s.c, Wv s.d] 43) :: HA.blk ga (.cells #[.slice (some ⟨og, 0, none⟩) N ocap, .slice (some ⟨bg, 0, none⟩) M bcap, Iv (en : Nat)] 121) :: HA.row (.slice (some ⟨og, 0, none⟩) N ocap) 178 1 N (F.set l.length (.slice (some ⟨x.1, 0, none⟩) (pe.length + 1) x.2)) :: HA.row (.slice (some ⟨x.1, 0, none⟩) (pe.length + 1) x.2) 180 6 (pe.length + 1) (edsC pe ++ edC ⟨k, s, l2.length⟩) :: K1 :: HA.row (.slice (some ⟨bg, 0, none⟩) M bcap) 178 1 M F2 :: HA.row (.slice iad2 pe2.length icap2) 180 6 pe2.length (edsC pe2) :: K2 :: R)
    (HA.blk g9 (.cells #[Wv s.a, Wv s.b, Wv s.c, Wv s.d] 43) :: HA.blk ga (.cells #[.slice (some ⟨og, 0, none⟩) N ocap, .slice (some ⟨bg, 0, none⟩) M bcap, Iv (en : Nat)] 121) :: HA.row (.slice (some ⟨og, 0, none⟩) N ocap) 178 1 N F :: []) mixed (.i (by repeat constructor)) ?_ (fun x => ?_)
  · refine .tk 0 rfl (RV.move rfl) ?_; refine .tk 1 rfl (RV.nilCheck rfl) ?_; refine .tk 2 rfl (RV.fieldAddr rfl rfl rfl rfl rfl rfl) ?_; refine .tk 3 rfl (RV.loadB rfl rfl rfl (by repeat constructor) rfl) ?_; refine .tk 4 rfl (RV.move rfl) ?_; refine .tk 5 rfl (RV.move rfl) ?_; refine .tk 6 rfl (RV.nilCheck rfl) ?_; refine .tk 7 rfl (RV.fieldAddr rfl rfl rfl rfl rfl rfl) ?_; refine .tk 8 rfl (RV.loadB rfl rfl rfl (by repeat constructor) rfl) ?_; refine .tk 9 rfl (RV.move rfl) ?_; refine .tk 10 rfl (RV.indexAddrL1 rfl rfl rfl rfl rfl rfl (by omega)) ?_; refine .tk 11 rfl (RV.loadR rfl rfl rfl (by repeat constructor) hat) ?_; refine .tk 12 rfl (RV.move rfl) ?_; refine .tk 13 rfl (RV.loadAggB rfl rfl rfl (by repeat constructor) rfl) ?_; refine .tk 14 rfl (RV.move rfl) ?_; refine .tk 15 rfl (RV.buildS (edC ⟨k, s, l2.length⟩).toArray rfl rfl rfl rfl (by kernel_rfl)) ?_; refine .ld 16 ?_; (refine .b1 ?_; intro b26); refine .nx ?_; refine .ld 17 ?_
    (refine EL.append1 rfl rfl rfl rfl rfl rfl rfl rfl rfl (by repeat constructor) (by repeat constructor) (all1 rfl) (by rfl) (by unfold maxLen; omega) (by show (pe.length + 1) * 48 ≤ _; omega) ?_; intro a27 c27)
    refine .nx ?_; refine .tk 18 rfl (RV.indexAddrL1 rfl rfl rfl rfl rfl rfl (by omega)) ?_; refine ED.last 19 rfl (by decide +kernel) (by decide +kernel) (by decide +kernel) ?_
    refine EL.storeR rfl rfl rfl rfl rfl rfl (by repeat constructor) (by first | omega | (simp; omega)) ?_
    refine EL.endQ ?_
    exact .cy (a27, c27)
  refine .g0 ?_; repeat constructor
  refine ES.draw (X := Nat × Nat) (fun _ => [(0, Pv ga 0)])
    (fun y => HA.blk ga (.cells #[.slice (some ⟨og, 0, none⟩) N ocap, .slice (some ⟨bg, 0, none⟩) M bcap, Iv (en : Nat)] 121) :: HA.row (.slice (some ⟨og, 0, none⟩) N ocap) 178 1 N (F.set l.length (.slice (some ⟨x.1, 0, none⟩) (pe.length + 1) x.2)) :: HA.row (.slice (some ⟨x.1, 0, none⟩) (pe.length + 1) x.2) 180 6 (pe.length + 1) (edsC pe ++ edC ⟨k, s, l2.length⟩) :: K1 :: HA.row (.slice (some ⟨bg, 0, none⟩) M bcap) 178 1 M (F2.set l2.length (.slice (some ⟨y.1, 0, none⟩) (pe2.length + 1) y.2)) :: HA.row (.slice (some ⟨y.1, 0, none⟩) (pe2.length + 1) y.2) 180 6 (pe2.length + 1) (edsC pe2 ++ edC ⟨k, s, l.length⟩) :: K2 :: R)
    (HA.blk g9 (.cells #[Wv s.a, Wv s.b, Wv s.c, Wv s.d] 43) :: HA.blk ga (.cells #[.slice (some ⟨og, 0, none⟩) N ocap, .slice (some ⟨bg, 0, none⟩) M bcap, Iv (en : Nat)] 121) :: HA.row (.slice (some ⟨bg, 0, none⟩) M bcap) 178 1 M F2 :: []) mixed (.i (by repeat constructor)) ?_ (fun y => ?_)
  · refine .tk 0 rfl (RV.move rfl) ?_; refine .tk 1 rfl (RV.nilCheck rfl) ?_; refine .tk 2 rfl (RV.fieldAddr rfl rfl rfl rfl rfl rfl) ?_; refine .tk 3 rfl (RV.loadB rfl rfl rfl (by repeat constructor) rfl) ?_; refine .tk 4 rfl (RV.move rfl) ?_; refine .tk 5 rfl (RV.move rfl) ?_; refine .tk 6 rfl (RV.nilCheck rfl) ?_; refine .tk 7 rfl (RV.fieldAddr rfl rfl rfl rfl rfl rfl) ?_; refine .tk 8 rfl (RV.loadB rfl rfl rfl (by repeat constructor) rfl) ?_; refine .tk 9 rfl (RV.move rfl) ?_; refine .tk 10 rfl (RV.indexAddrL1 rfl rfl rfl rfl rfl rfl (by omega)) ?_; refine .tk 11 rfl (RV.loadR rfl rfl rfl (by repeat constructor) hat2) ?_; refine .tk 12 rfl (RV.move rfl) ?_; refine .tk 13 rfl (RV.loadAggB rfl rfl rfl (by repeat constructor) rfl) ?_; refine .tk 14 rfl (RV.move rfl) ?_; refine .tk 15 rfl (RV.buildS (edC ⟨k, s, l.length⟩).toArray rfl rfl rfl rfl (by kernel_rfl)) ?_; refine .ld 16 ?_; (refine .b1 ?_; intro b45); refine .nx ?_; refine .ld 17 ?_
    (refine EL.append1 rfl rfl rfl rfl rfl rfl rfl rfl rfl (by repeat constructor) (by repeat constructor) (all1 rfl) (by rfl) (by unfold maxLen; omega) (by show (pe2.length + 1) * 48 ≤ _; omega) ?_; intro a46 c46)
    refine .nx ?_; refine .tk 18 rfl (RV.indexAddrL1 rfl rfl rfl rfl rfl rfl (by omega)) ?_; refine ED.last 19 rfl (by decide +kernel) (by decide +kernel) (by decide +kernel) ?_
    refine EL.storeR rfl rfl rfl rfl rfl rfl (by repeat constructor) (by first | omega | (simp; omega)) ?_
    refine EL.endQ ?_
    exact .cy (a46, c46)
  refine .go ?_; repeat constructor
  refine PX.end rfl Tryz.results64 .nil (fun w hs => ⟨⟨⟨some ⟨og, 0, none⟩, ocap, some ⟨bg, 0, none⟩, bcap, l ++ (.slice (some ⟨x.1, 0, none⟩) (pe.length + 1) x.2, pe ++ [⟨k, s, l2.length⟩]) :: m, l2 ++ (.slice (some ⟨y.1, 0, none⟩) (pe2.length + 1) y.2, pe2 ++ [⟨k, s, l.length⟩]) :: m2⟩, ⟨(hs1 _).symm, (hs2 _).symm⟩⟩, rfl, ?_⟩)
  have e1 : ∀ a : Nat × Nat, HA.row (.slice (some ⟨a.1, 0, none⟩) (pe.length + 1) a.2) 180 6 (pe.length + 1) (edsC pe ++ edC ⟨k, s, l2.length⟩) = edRow ((.slice (some ⟨a.1, 0, none⟩) (pe.length + 1) a.2, pe ++ [⟨k, s, l2.length⟩]) : EP) := fun a => by
    unfold edRow; rw [edsC_app, List.length_append]; rfl
  have e2 : ∀ a : Nat × Nat, HA.row (.slice (some ⟨a.1, 0, none⟩) (pe2.length + 1) a.2) 180 6 (pe2.length + 1) (edsC pe2 ++ edC ⟨k, s, l.length⟩) = edRow ((.slice (some ⟨a.1, 0, none⟩) (pe2.length + 1) a.2, pe2 ++ [⟨k, s, l.length⟩]) : EP) := fun a => by
    unfold edRow; rw [edsC_app, List.length_append]; rfl
  rw [e1, e2, hK1, hK2, hset, hset2] at hs
  have k1 := Sat.edgIn (hs.ent (H' := edRow _ :: HA.edg (l ++ m) :: HA.blk ga _ :: HA.row (.slice (some ⟨og, 0, none⟩) N ocap) 178 1 N _ :: HA.row (.slice (some ⟨bg, 0, none⟩) M bcap) 178 1 M _ :: edRow _ :: HA.edg (l2 ++ m2) :: R) (.i (by repeat constructor)))
  have k2 := Sat.edgIn (k1.ent (H' := edRow _ :: HA.edg (l2 ++ m2) :: HA.edg _ :: HA.blk ga _ :: HA.row (.slice (some ⟨og, 0, none⟩) N ocap) 178 1 N _ :: HA.row (.slice (some ⟨bg, 0, none⟩) M bcap) 178 1 M _ :: R) (.i (by repeat constructor)))
  unfold AH AVal OR
  dsimp only
  rw [hln, hln2]
  exact k2.ent (.i (by repeat constructor))
abbrev AP (ga : Nat) (v : AV) (en : Nat) : HA := HA.pack (AH ga v en)
theorem Mut.pack {X : Type} {P : Program} {f : FuncId} {argv : Array Value} {Hq : List HA} {val : X → Value} {HX : X → List HA} (h : Mut P f argv Hq val HX) : Mut P f argv [HA.pack Hq] val (fun x => [HA.pack (HX x)]) := fun w0 B R w hs =>
  (h w0 B R w hs.unpack).mono (fun e w' ⟨x, he, hs'⟩ => ⟨x, he, hs'.pack⟩)
theorem AV.Is.len {v : AV} {a : AM} (h : v.Is a) : v.ps.length = a.out.length ∧ v.qs.length = a.back.length := ⟨by rw [← h.out, List.length_map], by rw [← h.back, List.length_map]⟩
def AX.cast {a b : AM} (x : AX a) (h : a = b) : AX b := ⟨x.1, h ▸ x.2⟩
theorem nfaAdd_p (ga en : Nat) (a : AM) (x : AX a) (hr : a.Room 1) : Mut Tryz.prog 41 #[Pv ga 0] [AP ga x.1 en] (fun _ : AX a.add => Iv (a.out.length : Nat)) (fun y => [AP ga y.1 en]) := by
  have hl := x.2.len
  have h1 := hr.out
  have h2 := hr.same
  exact Mut.pack (nfaAdd_c ga x.1 en a x.2 (by omega) (by omega))
theorem nfaLink_p (ga en : Nat) (a : AM) (x : AX a) (f t k : Nat) (s : BS) (hr : a.Room 1) (hf : f < a.out.length) (ht : t < a.out.length) :
    Mut Tryz.prog 64 #[Pv ga 0, Iv (f : Nat), Iv (t : Nat), Iv (k : Nat), Bs s] [AP ga x.1 en] (fun _ : AX (a.link f t k s) => .tuple #[]) (fun y => [AP ga y.1 en]) := by
  have hl := x.2.len
  have h1 := hr.out
  have h2 := hr.same
  refine Mut.pack (nfaLink_c ga x.1 en a x.2 f t k s (by omega) (by omega) (by omega) (by omega) (fun p hp => ?_) (fun p hp => ?_))
  · have := hr.ro p.2 (by rw [← x.2.out]; exact List.mem_map_of_mem hp)
    omega
  · have := hr.rb p.2 (by rw [← x.2.back]; exact List.mem_map_of_mem hp)
    omega
theorem nfaStep_p (ga en : Nat) (a : AM) (x : AX a) (f k : Nat) (s : BS) (hr : a.Room 2) (hf : f < a.out.length) :
    Mut Tryz.prog 63 #[Pv ga 0, Iv (f : Nat), Iv (k : Nat), Bs s] [AP ga x.1 en] (fun _ : AX (a.step f k s) => Iv (a.out.length : Nat)) (fun y => [AP ga y.1 en]) := by
  intro w0 B R w h
  replace h : Sat w0 B (AP ga x.1 en :: R) w := h
  have hr1 := add_room hr
  have hal := add_len a
  refine calls_of_ES TB Tryz.func63 rfl _ Tryz.ntmps63 rfl h ?_; refine .go ?_; (repeat constructor); (refine .bx ?_; intro g7); refine .as_ ?_; refine .go ?_; (repeat constructor); refine .mv ?_; (refine EL.callM rfl rfl rfl ent41 rfl (nfaAdd_p ga en a x (hr.less (by omega))) (by repeat constructor) ?_; intro y); refine .as_ ?_; refine .go ?_; (repeat constructor); refine .go ?_; (repeat constructor); refine .mv ?_; refine .mv ?_; refine .mv ?_; refine .mv ?_; refine .lg ?_; (refine EL.callM rfl rfl rfl ent64 rfl (nfaLink_p ga en a.add y f a.out.length k s hr1 (by omega) (by omega)) (by repeat constructor) ?_; intro z); refine .go ?_; (repeat constructor); refine .mv ?_; refine .as_ ?_; refine .go ?_; repeat constructor
  exact PX.ret rfl Tryz.results63 (.cons (.tmp rfl) .nil) (fun w hs => ⟨z, rfl, hs.ent (.i (by repeat constructor))⟩)
abbrev LayCt (w0 : World) (B : Nat) (r : RE) (g off : Nat) : Prop := ∀ (ga en : Nat) (a : AM) (x : AX a) (p : Nat), p < a.out.length → a.Room r.cost →
  MutAt Tryz.prog 42 #[Pv ga 0, Pv g off, Iv (p : Nat)] [AP ga x.1 en] (fun _ : AX (layM r a p).1 => Iv ((layM r a p).2 : Nat)) (fun y => [AP ga y.1 en]) w0 B
structure LS where
  i : Nat
  b : AM
  q : Nat
  x : AX b
theorem least_le (lo : Nat) (k : RE) : leastM lo k ≤ lo := by unfold leastM; split <;> omega
theorem layRep_c (w0 : World) (B lo : Nat) (hi : Int) (k : RE) (hf : (RE.rep lo hi k).fine) (g off : Nat) (hn : NodeRd w0 B g off (.rep lo hi k)) (hk : ∀ g' off', NodeRd w0 B g' off' k → LayCt w0 B k g' off')
    (ga en : Nat) (a : AM) (x : AX a) (p : Nat) (hp : p < a.out.length) (hr : a.Room (RE.rep lo hi k).cost) :
    MutAt Tryz.prog 66 #[Pv ga 0, Pv g off, Iv (p : Nat)] [AP ga x.1 en] (fun _ : AX (repA lo hi k (layM k) a p).1 => Iv ((repA lo hi k (layM k) a p).2 : Nat)) (fun y => [AP ga y.1 en]) w0 B := by
  intro R w h
  replace h : Sat w0 B (AP ga x.1 en :: R) w := h
  have hl := lay_room k
  obtain ⟨hlo, hm1, h255, hle, hkf⟩ := id hf
  obtain ⟨ad, cap, hrd, hkids⟩ := hn.kids
  have hrd := hrd.rd
  obtain ⟨g', o', rfl, hkk⟩ := hkids (by simp [RE.kids])
  have hkn : NodeRd w0 B g' o' k := by have := hkk 0 k rfl; rwa [Nat.zero_mul, Nat.add_zero] at this
  have hkc := hk g' o' hkn
  have hrep : repA lo hi k (layM k) a p = (let x := timesA (layM k) (leastM lo k) a p
    if hi = (lo : Int) ∨ k.thin = true then x
    else if hi < 0 then ((layM k (x.1.step x.2 0 zeroS) x.1.out.length).1.link (layM k (x.1.step x.2 0 zeroS) x.1.out.length).2 x.1.out.length 0 zeroS, x.1.out.length)
    else (optA (layM k) x.1.out.length (hi.toNat - lo) (x.1.step x.2 0 zeroS) x.2, x.1.out.length)) := rfl
  rw [RE.cost] at hr
  obtain ⟨rest, hrest⟩ : ∃ rest, rest = (if hi = (lo : Int) ∨ k.thin = true then 0 else if hi < 0 then k.cost + 3 else (hi.toNat - lo) * (k.cost + 1) + 2) := ⟨_, rfl⟩
  rw [← hrest] at hr
  have hleast := least_le lo k
  have hlc := fun w Hs (hs : Sat w0 B Hs w) => least_c lo hi k hf g off w (NodeRd.sat hn hs)
  generalize hX : timesA (layM k) (leastM lo k) a p = X at hrep
  generalize leastM lo k = m at *
  dsimp only at hrep
  refine calls_of_ES TB Tryz.func66 rfl _ Tryz.ntmps66 rfl h ?_; refine .go ?_; (repeat constructor); refine .as_ ?_; refine .go ?_; (repeat constructor); refine .mv ?_; refine .nc ?_; refine .fa ?_; refine EL.loadOld rfl rfl rfl rfl rfl hrd rfl ?_; refine EL.indexAddrL (i := 0) rfl rfl rfl rfl rfl rfl rfl (by simp [RE.kids]) ?_; refine .as_ ?_; refine .go ?_; (repeat constructor); refine .go ?_; (repeat constructor); refine .mv ?_; refine EL.callPw rfl rfl rfl ent68 rfl (fun w hs => hlc w _ hs) ?_; refine .mv ?_; refine .go ?_; repeat constructor
  refine ES.loop (σ := LS) (fun s => s.i ≤ m ∧ timesA (layM k) (m - s.i) s.b s.q = X ∧ s.q < s.b.out.length ∧ s.b.Room ((m - s.i) * k.cost + rest)) (fun s => [(0, Pv ga 0), (1, Pv g off), (2, Iv (s.q : Nat)), (7, Pv g' o'), (16, Iv (m : Nat)), (17, Iv (s.i : Nat))])
    (fun s => AP ga s.x.1 en :: R) (fun s => m - s.i) ⟨0, a, p, x⟩ ⟨Nat.zero_le _, hX, hp, hr⟩ ⟨rfl, rfl, rfl, rfl, rfl, rfl, trivial⟩ (.i (by repeat constructor)) ?_
  rintro ⟨i, b, q, y⟩ ⟨hi1, hgo, hq, hroom⟩
  dsimp only at hi1 hgo hq hroom ⊢
  refine .go ?_; (repeat constructor); refine .ls ?_; refine .go ?_; repeat constructor
  refine ES.condD rfl (fun hlt => ?_) (fun hge => ?_)
  · obtain ⟨d, hd⟩ : ∃ d, m - i = d + 1 := ⟨m - i - 1, by omega⟩
    have hd2 : m - (i + 1) = d := by omega
    rw [hd, Nat.succ_mul] at hroom
    rw [hd, timesA] at hgo
    have hnext := hl.room b q (d * k.cost + rest) (hroom.less (by omega)) hq
    refine .go ?_; (repeat constructor); refine .mv ?_; refine .mv ?_; refine .mv ?_; (refine EL.callMw rfl rfl rfl ent42 rfl (hkc ga en b y q hq (hroom.less (by omega))) (by repeat constructor) ?_; intro z); refine .as_ ?_; refine .go ?_; (repeat constructor); refine .a1 ?_; refine .mv ?_; refine .go ?_; repeat constructor
    exact .ly ⟨i + 1, (layM k b q).1, (layM k b q).2, z⟩ ⟨by simp only; omega, by rw [hd2]; exact hgo, hnext.2.1, by rw [hd2]; exact hnext.1⟩ (by simp only; omega)
  obtain rfl : i = m := by omega
  rw [Nat.sub_self, timesA] at hgo
  rw [Nat.sub_self, Nat.zero_mul, Nat.zero_add] at hroom
  subst hgo
  refine .g0 ?_; repeat constructor
  refine ES.draw (X := Unit) (fun _ => [(0, Pv ga 0), (1, Pv g off), (2, Iv (q : Nat)), (7, Pv g' o'), (36, .bool (decide (hi = (lo : Int) ∨ k.thin = true)))]) (fun _ => AP ga y.1 en :: R) [] mixed (.i (by repeat constructor)) ?_ (fun _ => ?_)
  · refine .tk 0 rfl (RV.move rfl) ?_; refine .tk 1 rfl (RV.nilCheck rfl) ?_; refine .tk 2 rfl (RV.fieldAddr rfl rfl rfl rfl rfl rfl) ?_; refine .tk 3 rfl (RV.loadOld rfl rfl rfl hrd rfl) ?_; refine .tk 4 rfl (RV.move rfl) ?_; refine .tk 5 rfl (RV.nilCheck rfl) ?_; refine .tk 6 rfl (RV.fieldAddr rfl rfl rfl rfl rfl rfl) ?_; refine .tk 7 rfl (RV.loadOld rfl rfl rfl hrd rfl) ?_; refine .tk 8 rfl (RV.eqlI rfl rfl) ?_; refine .tk 9 rfl (RV.move rfl) ?_
    first | refine ED.part (d := 33) rfl (fun hp33 => ?_) (fun hp33 => ?_) | refine ED.partN (d := 33) rfl (fun hp33 => ?_) (fun hp33 => ?_) | refine ED.partB (d := 33) rfl (fun hp33 => ?_) (fun hp33 => ?_)
    · refine .pa 10 rfl ?_; refine .pa 11 rfl ?_; refine .tk 12 rfl (RV.pickT rfl rfl) ?_; refine .dn ?_
      exact .cx () ⟨rfl, rfl, rfl, rfl, getA rfl (congrArg Value.bool (by first | exact (decide_eq_true (p := hi = (lo : Int) ∨ k.thin = true) (Or.inl hp33)).symm | (have h0 : ¬ hi = (lo : Int) := hp33; simp [h0]))), trivial⟩
    · refine .tk 10 rfl (RV.move rfl) ?_; refine .ld 11 ?_; refine EL.callPw rfl rfl rfl ent87 rfl (fun w hs => thin_c k hkf g' o' w (NodeRd.sat hkn hs)) ?_; refine .nx ?_; refine .tk 12 rfl (RV.pickF rfl rfl) ?_; refine .dn ?_
      exact .cx () ⟨rfl, rfl, rfl, rfl, getA rfl (congrArg Value.bool (by first | exact (decide_eq_true (p := hi = (lo : Int) ∨ k.thin = true) (Or.inl hp33)).symm | (have h0 : ¬ hi = (lo : Int) := hp33; simp [h0]))), trivial⟩
  refine ES.condD rfl (fun hc => ?_) (fun hc => ?_)
  · rw [if_pos hc] at hrep
    refine .go ?_; (repeat constructor); refine .mv ?_; refine .as_ ?_; refine .go ?_; repeat constructor
    exact PX.ret rfl Tryz.results66 (.cons (.tmp rfl) .nil) (fun w hs => ⟨y.cast (by rw [hrep]), by rw [hrep]; rfl, hs.ent (.i (by repeat constructor))⟩)
  rw [if_neg hc] at hrep hrest
  refine .go ?_; (repeat constructor); refine .mv ?_; refine .nc ?_; refine .fa ?_; refine EL.loadOld rfl rfl rfl rfl rfl hrd rfl ?_; refine .ls ?_; refine .go ?_; repeat constructor
  refine ES.condD rfl (fun hneg => ?_) (fun hneg => ?_)
  · have hneg' : hi < 0 := hneg
    rw [if_pos hneg'] at hrep hrest
    have r1 := step_room (k := 0) (s := zeroS) (n := k.cost + 1) (hroom.less (by omega)) hq
    have hsl := step_len b q 0 zeroS
    have r2 := hl.room _ b.out.length 1 r1 (by omega)
    refine .go ?_; (repeat constructor); refine .mv ?_; refine .mv ?_; refine EL.buildZA rfl rfl rfl rfl rfl ?_; (refine EL.callM rfl rfl rfl ent63 rfl (nfaStep_p ga en b y q 0 zeroS (hroom.less (by omega)) hq) (by repeat constructor) ?_; intro y2); refine .as_ ?_; refine .go ?_; (repeat constructor); refine .mv ?_; refine .mv ?_; refine .mv ?_; refine .mv ?_; (refine EL.callMw rfl rfl rfl ent42 rfl (hkc ga en (b.step q 0 zeroS) y2 b.out.length (by omega) (r1.less (by omega))) (by repeat constructor) ?_; intro y3); refine .mv ?_; refine EL.buildZA rfl rfl rfl rfl rfl ?_; (refine EL.callM rfl rfl rfl ent64 rfl (nfaLink_p ga en _ y3 _ b.out.length 0 zeroS r2.1 r2.2.1 (by omega)) (by repeat constructor) ?_; intro y4); refine .go ?_; (repeat constructor); refine .go ?_; (repeat constructor); refine .mv ?_; refine .as_ ?_; refine .go ?_; repeat constructor
    exact PX.ret rfl Tryz.results66 (.cons (.tmp rfl) .nil) (fun w hs => ⟨y4.cast (by rw [hrep]), by rw [hrep]; rfl, hs.ent (.i (by repeat constructor))⟩)
  have hneg' : ¬ hi < 0 := hneg
  rw [if_neg hneg'] at hrep hrest
  have hge2 := hle (by omega)
  obtain ⟨M, hM⟩ : ∃ M, M = hi.toNat - lo := ⟨_, rfl⟩
  rw [← hM] at hrep hrest
  have r1 := step_room (k := 0) (s := zeroS) (n := M * (k.cost + 1)) (hroom.less (by omega)) hq
  have hsl := step_len b q 0 zeroS
  refine .go ?_; (repeat constructor); refine .mv ?_; refine .mv ?_; refine EL.buildZA rfl rfl rfl rfl rfl ?_; (refine EL.callM rfl rfl rfl ent63 rfl (nfaStep_p ga en b y q 0 zeroS (hroom.less (by omega)) hq) (by repeat constructor) ?_; intro y2); refine .as_ ?_; refine .go ?_; (repeat constructor); refine .g0 ?_; repeat constructor
  refine ES.draw (X := Unit) (fun _ => [(0, Pv ga 0), (2, Iv (q : Nat)), (7, Pv g' o'), (9, Iv (b.out.length : Nat)), (68, Iv (M : Nat)), (69, Iv ((0 : Nat) : Int))]) (fun _ => AP ga y2.1 en :: R) [] mixed (.i (by repeat constructor)) ?_ (fun _ => ?_)
  · refine .tk 0 rfl (RV.move rfl) ?_; refine .tk 1 rfl (RV.nilCheck rfl) ?_; refine .tk 2 rfl (RV.fieldAddr rfl rfl rfl rfl rfl rfl) ?_; refine .tk 3 rfl (RV.loadOld rfl rfl rfl hrd rfl) ?_; refine .tk 4 rfl (RV.move rfl) ?_; refine .tk 5 rfl (RV.nilCheck rfl) ?_; refine .tk 6 rfl (RV.fieldAddr rfl rfl rfl rfl rfl rfl) ?_; refine .tk 7 rfl (RV.loadOld rfl rfl rfl hrd rfl) ?_
    refine .tk 8 rfl (RV.sub_ ((M : Nat) : Int) rfl rfl ((wrap_i64 _ (by simp only [RE.hi, RE.lo]; omega) (by simp only [RE.hi, RE.lo]; omega)).trans (by simp only [RE.hi, RE.lo]; omega))) ?_
    refine .tk 9 rfl (RV.move rfl) ?_; refine .dn ?_
    exact .cy ()
  refine .go ?_; repeat constructor
  generalize hO : b.out.length = O at *
  generalize hF : optA (layM k) O M (b.step q 0 zeroS) q = F at hrep
  refine ES.loop (σ := LS) (fun s => s.i ≤ M ∧ optA (layM k) O (M - s.i) s.b s.q = F ∧ s.q < s.b.out.length ∧ O < s.b.out.length ∧ s.b.Room ((M - s.i) * (k.cost + 1))) (fun s => [(0, Pv ga 0), (2, Iv (s.q : Nat)), (7, Pv g' o'), (9, Iv (O : Nat)), (68, Iv (M : Nat)), (69, Iv (s.i : Nat))])
    (fun s => AP ga s.x.1 en :: R) (fun s => M - s.i) ⟨0, b.step q 0 zeroS, q, y2⟩ ⟨Nat.zero_le _, hF, by simp only; omega, by simp only; omega, r1⟩ ⟨rfl, rfl, rfl, rfl, rfl, rfl, trivial⟩ (.i (by repeat constructor)) ?_
  rintro ⟨i, b2, q2, z⟩ ⟨hi1, hgo, hq2, hO2, hroom2⟩
  dsimp only at hi1 hgo hq2 hO2 hroom2 ⊢
  refine .go ?_; (repeat constructor); refine .ls ?_; refine .go ?_; repeat constructor
  refine ES.condD rfl (fun hlt => ?_) (fun hge => ?_)
  · obtain ⟨d, hd⟩ : ∃ d, M - i = d + 1 := ⟨M - i - 1, by omega⟩
    have hd2 : M - (i + 1) = d := by omega
    rw [hd, Nat.succ_mul] at hroom2
    rw [hd, optA] at hgo
    have hnext := hl.room b2 q2 (d * (k.cost + 1) + 1) (hroom2.less (by omega)) hq2
    have hlink := link_room (k := 0) (s := zeroS) (t := O) hnext.1 hnext.2.1 (by omega)
    have hll := (link_len (layM k b2 q2).1 (layM k b2 q2).2 O 0 zeroS).1
    refine .go ?_; (repeat constructor); refine .mv ?_; refine .mv ?_; refine .mv ?_; (refine EL.callMw rfl rfl rfl ent42 rfl (hkc ga en b2 z q2 hq2 (hroom2.less (by omega))) (by repeat constructor) ?_; intro z2); refine .as_ ?_; refine .go ?_; (repeat constructor); refine .mv ?_; refine .mv ?_; refine .mv ?_; refine EL.buildZA rfl rfl rfl rfl rfl ?_; (refine EL.callM rfl rfl rfl ent64 rfl (nfaLink_p ga en _ z2 _ O 0 zeroS (hnext.1.less (by omega)) hnext.2.1 (by omega)) (by repeat constructor) ?_; intro z3); refine .go ?_; (repeat constructor); refine .a1 ?_; refine .mv ?_; refine .go ?_; repeat constructor
    exact .ly ⟨i + 1, (layM k b2 q2).1.link (layM k b2 q2).2 O 0 zeroS, (layM k b2 q2).2, z3⟩ ⟨by simp only; omega, by rw [hd2]; exact hgo, by simp only; omega, by simp only; omega, by rw [hd2]; exact hlink⟩ (by simp only; omega)
  obtain rfl : i = M := by omega
  rw [Nat.sub_self, optA] at hgo
  subst hgo
  refine .go ?_; (repeat constructor); refine .mv ?_; refine .as_ ?_; refine .go ?_; repeat constructor
  exact PX.ret rfl Tryz.results66 (.cons (.tmp rfl) .nil) (fun w hs => ⟨z.cast (by rw [hrep]), by rw [hrep]; rfl, hs.ent (.i (by repeat constructor))⟩)
theorem layL_kids (r : RE) (h : r.kind = 0 ∨ r.kind = 4) (a : AM) (p : Nat) : layM r a p = layL r.kids a p := by
  cases r <;> simp [RE.kind] at h
  · rw [layM]; rfl
  · rw [layM]; simp only [RE.kids]; rw [layL, layL]
theorem costL_kids (r : RE) (h : r.kind = 0 ∨ r.kind = 4) : r.cost = costL r.kids := by
  cases r <;> simp [RE.kind] at h
  · rw [RE.cost]; rfl
  · rw [RE.cost]; simp only [RE.kids]; rw [costL, costL]; rfl
theorem lay_n (w0 : World) (B n : Nat) : ∀ r : RE, r.sz ≤ n → r.fine → ∀ g off, NodeRd w0 B g off r → LayCt w0 B r g off := by
  induction n with
  | zero => intro r hr; exact absurd (sz_pos r) (by omega)
  | succ n ih =>
    intro r hsz hfine g off hn ga en a x p hp hr R w h
    replace h : Sat w0 B (AP ga x.1 en :: R) w := h
    have hkl := fine_len hfine
    obtain ⟨ad, cap, hrd, hkids⟩ := hn.kids
    have hrd := hrd.rd
    refine calls_of_ES TB Tryz.func42 rfl _ Tryz.ntmps42 rfl h ?_; refine .go ?_; (repeat constructor); refine .as_ ?_; refine .go ?_; (repeat constructor); refine .mv ?_; refine .nc ?_; refine .fa ?_; refine EL.loadOld rfl rfl rfl rfl rfl hrd rfl ?_; refine .go ?_; (repeat constructor); refine .go ?_; (repeat constructor); refine .ei ?_; refine .as_ ?_; refine .go ?_; repeat constructor
    refine ES.condD rfl (fun h1 => ?_) (fun h1 => ?_)
    · obtain ⟨bs, rfl⟩ := kind_1 (show r.kind = 1 by omega)
      rw [RE.cost] at hr
      have el : layM (.byte bs) a p = (a.step p 1 bs, a.out.length) := by rw [layM]
      refine .go ?_; (repeat constructor); refine .mv ?_; refine .mv ?_; refine .mv ?_; refine .nc ?_; refine .fa ?_
      refine EL.ofRV (RV.loadOldA (vs := [Wv bs.a, Wv bs.b, Wv bs.c, Wv bs.d]) rfl rfl rfl rfl (by simp) hrd (set_cells (.byte bs) _)) rfl rfl rfl (by intro c h; cases h) ?_
      (refine EL.callM rfl rfl rfl ent63 rfl (nfaStep_p ga en a x p 1 bs hr hp) (by repeat constructor) ?_; intro y); refine .as_ ?_; refine .go ?_; repeat constructor
      exact PX.ret rfl Tryz.results42 (.cons (.tmp rfl) .nil) (fun w hs => ⟨y.cast (by rw [el]), congrArg (fun z : AM × Nat => Ending.returned (Iv (z.2 : Nat))) el.symm, hs.ent (.i (by repeat constructor))⟩)
    refine .go ?_; (repeat constructor); refine .ei ?_; refine .as_ ?_; refine .go ?_; repeat constructor
    refine ES.condD rfl (fun h2 => ?_) (fun h2 => ?_)
    · obtain rfl := kind_2 (show r.kind = 2 by omega)
      rw [RE.cost] at hr
      have el : layM .bol a p = (a.step p 2 zeroS, a.out.length) := by rw [layM]
      refine .go ?_; (repeat constructor); refine .mv ?_; refine .mv ?_; refine EL.buildZA rfl rfl rfl rfl rfl ?_; (refine EL.callM rfl rfl rfl ent63 rfl (nfaStep_p ga en a x p 2 zeroS hr hp) (by repeat constructor) ?_; intro y); refine .as_ ?_; refine .go ?_; repeat constructor
      exact PX.ret rfl Tryz.results42 (.cons (.tmp rfl) .nil) (fun w hs => ⟨y.cast (by rw [el]), congrArg (fun z : AM × Nat => Ending.returned (Iv (z.2 : Nat))) el.symm, hs.ent (.i (by repeat constructor))⟩)
    refine .go ?_; (repeat constructor); refine .ei ?_; refine .as_ ?_; refine .go ?_; repeat constructor
    refine ES.condD rfl (fun h3 => ?_) (fun h3 => ?_)
    · obtain rfl := kind_3 (show r.kind = 3 by omega)
      rw [RE.cost] at hr
      have el : layM .eol a p = (a.step p 3 zeroS, a.out.length) := by rw [layM]
      refine .go ?_; (repeat constructor); refine .mv ?_; refine .mv ?_; refine EL.buildZA rfl rfl rfl rfl rfl ?_; (refine EL.callM rfl rfl rfl ent63 rfl (nfaStep_p ga en a x p 3 zeroS hr hp) (by repeat constructor) ?_; intro y); refine .as_ ?_; refine .go ?_; repeat constructor
      exact PX.ret rfl Tryz.results42 (.cons (.tmp rfl) .nil) (fun w hs => ⟨y.cast (by rw [el]), congrArg (fun z : AM × Nat => Ending.returned (Iv (z.2 : Nat))) el.symm, hs.ent (.i (by repeat constructor))⟩)
    refine .go ?_; (repeat constructor); refine .ei ?_; refine .as_ ?_; refine .go ?_; repeat constructor
    refine ES.condD rfl (fun h6 => ?_) (fun h6 => ?_)
    · obtain ⟨bn, rfl⟩ := kind_6 (show r.kind = 6 by omega)
      rw [RE.cost] at hr
      have el : layM (.back bn) a p = ((a.step p 0 zeroS).link a.out.length a.out.length 1 (notS zeroS), a.out.length) := by rw [layM]
      have r1 := step_room (k := 0) (s := zeroS) (n := 1) hr hp
      have hsl := step_len a p 0 zeroS
      refine .go ?_; (repeat constructor); refine .mv ?_; refine .mv ?_; refine EL.buildZA rfl rfl rfl rfl rfl ?_; (refine EL.callM rfl rfl rfl ent63 rfl (nfaStep_p ga en a x p 0 zeroS (hr.less (by omega)) hp) (by repeat constructor) ?_; intro y); refine .as_ ?_; refine .go ?_; (repeat constructor); refine .mv ?_; refine .mv ?_; refine .mv ?_; refine EL.buildZA rfl rfl rfl rfl rfl ?_; refine EL.callP rfl rfl rfl ent65 rfl (not_c zeroS) ?_; (refine EL.callM rfl rfl rfl ent64 rfl (nfaLink_p ga en _ y a.out.length a.out.length 1 (notS zeroS) r1 (by omega) (by omega)) (by repeat constructor) ?_; intro z); refine .go ?_; (repeat constructor); refine .go ?_; (repeat constructor); refine .mv ?_; refine .as_ ?_; refine .go ?_; repeat constructor
      exact PX.ret rfl Tryz.results42 (.cons (.tmp rfl) .nil) (fun w hs => ⟨z.cast (by rw [el]), congrArg (fun z : AM × Nat => Ending.returned (Iv (z.2 : Nat))) el.symm, hs.ent (.i (by repeat constructor))⟩)
    refine .go ?_; (repeat constructor); refine .ei ?_; refine .as_ ?_; refine .go ?_; repeat constructor
    refine ES.condD rfl (fun h5 => ?_) (fun h5 => ?_)
    · obtain ⟨lo, hi, k, rfl⟩ := kind_5 (show r.kind = 5 by omega)
      have hks : k.sz + 1 = (RE.rep lo hi k).sz := by simp [RE.sz]
      have el : layM (.rep lo hi k) a p = repA lo hi k (layM k) a p := by rw [layM]
      have hrc := layRep_c w0 B lo hi k hfine g off hn (fun g' off' hk => ih k (by omega) hfine.2.2.2.2 g' off' hk) ga en a x p hp hr
      refine .go ?_; (repeat constructor); refine .mv ?_; refine .mv ?_; refine .mv ?_; (refine EL.callMw rfl rfl rfl ent66 rfl hrc (by repeat constructor) ?_; intro y); refine .as_ ?_; refine .go ?_; repeat constructor
      exact PX.ret rfl Tryz.results42 (.cons (.tmp rfl) .nil) (fun w hs => ⟨y.cast (by rw [el]), congrArg (fun z : AM × Nat => Ending.returned (Iv (z.2 : Nat))) el.symm, hs.ent (.i (by repeat constructor))⟩)
    have hk04 : r.kind = 0 ∨ r.kind = 4 := by have := kind_le r; omega
    have hlk := layL_kids r hk04 a p
    have hck := costL_kids r hk04
    rw [hck] at hr
    refine .go ?_; (repeat constructor); refine .mv ?_; refine .nc ?_; refine .fa ?_; refine EL.loadOld rfl rfl rfl rfl rfl hrd rfl ?_; refine .lL ?_; refine .mv ?_; refine .go ?_; repeat constructor
    refine ES.loop (σ := LS) (fun s => s.i ≤ r.kids.length ∧ layL (r.kids.drop s.i) s.b s.q = layM r a p ∧ s.q < s.b.out.length ∧ s.b.Room (costL (r.kids.drop s.i))) (fun s => [(0, Pv ga 0), (1, Pv g off), (2, Iv (s.q : Nat)), (57, Iv (r.kids.length : Nat)), (58, Iv (s.i : Nat))])
      (fun s => AP ga s.x.1 en :: R) (fun s => r.kids.length - s.i) ⟨0, a, p, x⟩ ⟨Nat.zero_le _, by rw [List.drop_zero]; exact hlk.symm, hp, by rw [List.drop_zero]; exact hr⟩ ⟨rfl, rfl, rfl, rfl, rfl, trivial⟩ (.i (by repeat constructor)) ?_
    rintro ⟨i, b, q, y⟩ ⟨hi1, hgo, hq, hroom⟩
    dsimp only at hi1 hgo hq hroom ⊢
    refine .go ?_; (repeat constructor); refine .ls ?_; refine .go ?_; repeat constructor
    refine ES.condD rfl (fun hlt => ?_) (fun hge => ?_)
    · have hlt' : i < r.kids.length := by omega
      obtain ⟨kg, ko, rfl, hk⟩ := hkids (by intro e; rw [e] at hlt'; simp at hlt')
      obtain ⟨k, hki⟩ : ∃ k, r.kids[i]? = some k := ⟨_, List.getElem?_eq_getElem hlt'⟩
      have hmem := List.mem_of_getElem? hki
      have hks := kids_lt hmem
      rw [List.drop_eq_getElem_cons hlt', show r.kids[i] = k from (List.getElem?_eq_some_iff.1 hki).2] at hgo hroom
      rw [costL] at hroom
      rw [layL] at hgo
      have hnext := (lay_room k).room b q _ hroom hq
      refine .go ?_; (repeat constructor); refine .mv ?_; refine .as_ ?_; refine .go ?_; (repeat constructor); refine .mv ?_; refine .mv ?_; refine .nc ?_; refine .fa ?_; refine EL.loadOld rfl rfl rfl rfl rfl hrd rfl ?_; refine .mv ?_; refine EL.indexAddrL rfl rfl rfl rfl rfl rfl rfl (by omega) ?_; refine .mv ?_; (refine EL.callMw rfl rfl rfl ent42 rfl (ih k (by omega) (fine_kid hfine hmem) kg (ko + i * 9) (hk i k hki) ga en b y q hq (hroom.less (by omega))) (by repeat constructor) ?_; intro z); refine .as_ ?_; refine .go ?_; (repeat constructor); refine .a1 ?_; refine .mv ?_; refine .go ?_; repeat constructor
      exact .ly ⟨i + 1, (layM k b q).1, (layM k b q).2, z⟩ ⟨hlt', hgo, hnext.2.1, hnext.1⟩ (by simp only; omega)
    · obtain rfl : i = r.kids.length := by omega
      rw [List.drop_length, layL] at hgo
      refine .go ?_; (repeat constructor); refine .mv ?_; refine .as_ ?_; refine .go ?_; repeat constructor
      exact PX.ret rfl Tryz.results42 (.cons (.tmp rfl) .nil) (fun w hs => ⟨y.cast (by rw [← hgo]), by rw [← hgo]; rfl, hs.ent (.i (by repeat constructor))⟩)
theorem lay_c (w0 : World) (B : Nat) (r : RE) (hf : r.fine) (g off : Nat) (hn : NodeRd w0 B g off r) : LayCt w0 B r g off := lay_n w0 B r.sz r (Nat.le_refl _) hf g off hn
end Go.Proofs.YthcbjbkheodejaaGreat
namespace Go.Proofs.YthcbjbkheodejaaGreat
open Go Go.RowKit Sl
set_option maxRecDepth 100000
set_option maxHeartbeats 8000000
attribute [local irreducible] ES EL PX wps
theorem am0_room {n : Nat} (h : n ≤ 131072) : AM.Room ⟨[], []⟩ n := ⟨by simp; exact h, rfl, by simp, by simp, (by intro l hl; cases hl), (by intro l hl; cases hl)⟩
abbrev av0 : AV := ⟨none, 0, none, 0, [], []⟩
theorem Sat.auto0 {w0 w : World} {B ga : Nat} {R : List HA} (h : Sat w0 B (HA.blk ga (.cells #[.slice none 0 0, .slice none 0 0, Iv 0] 121) :: R) w) : Sat w0 B (AP ga av0 0 :: R) w := by
  have h1 := (h.nilRow 178 1).nilRow 178 1
  have h2 : Sat w0 B ([HA.edg [], HA.edg []] ++ (HA.row (.slice none 0 0) 178 1 0 [] :: HA.row (.slice none 0 0) 178 1 0 [] :: HA.blk ga (.cells #[.slice none 0 0, .slice none 0 0, Iv 0] 121) :: R)) w :=
    Sat.rules (Hs := []) h1 (by simp [fps, HA.edg]) (fun _ Y hY => by
      simp only [List.mem_cons, List.not_mem_nil, or_false, or_self] at hY
      subst hY
      intro p hp; cases hp)
  exact Sat.pack (Sat.ent (H' := AH ga av0 0 ++ R) h2 (.i (by repeat constructor)))
theorem make_c (ks : List RE) (hf : ∀ k ∈ ks, k.fine) (hl : ks.length ≤ 1024) (hc : costL ks + 1 ≤ 131072) (ad : Option Addr) (cap : Nat) (w : World) (hn : ∀ i k, ks[i]? = some k → ∃ g o, ad = some ⟨g, o, none⟩ ∧ NodeRd w w.heap.size g (o + i * 9) k) :
    Pure Tryz.prog 23 #[.slice ad ks.length cap] (fun x : Nat × AX (makeM ks).1 => Pv x.1 0) (fun x => [AP x.1 x.2.1 (makeM ks).2]) w := by
  have hm : makeM ks = layL ks (AM.add ⟨[], []⟩) 0 := rfl
  have h0 : AM.Room ⟨[], []⟩ (costL ks + 1) := am0_room hc
  have h1 := add_room h0
  generalize hX : makeM ks = X at *
  obtain ⟨XA, xe⟩ := X
  refine calls_of_ES TB Tryz.func23 rfl _ Tryz.ntmps23 rfl (Sat.start w) ?_; refine .go ?_; (repeat constructor); refine .as_ ?_; refine .go ?_; (repeat constructor); refine EL.buildZ rfl rfl rfl rfl rfl ?_; (refine .bx ?_; intro g7); refine .as_ ?_; refine .go ?_; (repeat constructor); refine EL.imp (H' := AP g7 av0 0 :: []) (fun w hs => Sat.auto0 (hs.ent (.i (by repeat constructor)))) ?_; refine .go ?_; (repeat constructor); refine .mv ?_; (refine EL.callM rfl rfl rfl ent41 rfl (nfaAdd_p g7 0 ⟨[], []⟩ ⟨av0, ⟨rfl, rfl⟩⟩ (h0.less (by omega))) (by repeat constructor) ?_; intro y); refine .as_ ?_; refine .go ?_; (repeat constructor); refine .go ?_; (repeat constructor); refine .mv ?_; refine .lL ?_; refine .mv ?_; refine .go ?_; repeat constructor
  refine ES.loop (σ := LS) (fun s => s.i ≤ ks.length ∧ layL (ks.drop s.i) s.b s.q = (XA, xe) ∧ s.q < s.b.out.length ∧ s.b.Room (costL (ks.drop s.i))) (fun s => [(0, .slice ad ks.length cap), (3, Pv g7 0), (4, Iv (s.q : Nat)), (11, Iv (ks.length : Nat)), (12, Iv (s.i : Nat))])
    (fun s => AP g7 s.x.1 0 :: []) (fun s => ks.length - s.i) ⟨0, _, 0, y⟩ ⟨Nat.zero_le _, hm.symm, by rw [add_len]; simp, h1⟩ ⟨rfl, rfl, rfl, rfl, rfl, trivial⟩ (.i (by repeat constructor)) ?_
  rintro ⟨i, b, q, z⟩ ⟨hi1, hgo, hq, hroom⟩
  dsimp only at hi1 hgo hq hroom ⊢
  refine .go ?_; (repeat constructor); refine .ls ?_; refine .go ?_; repeat constructor
  refine ES.condD rfl (fun hlt => ?_) (fun hge => ?_)
  · have hlt' : i < ks.length := by omega
    obtain ⟨k, hki⟩ : ∃ k, ks[i]? = some k := ⟨_, List.getElem?_eq_getElem hlt'⟩
    have hmem := List.mem_of_getElem? hki
    obtain ⟨g, o, rfl, hnk⟩ := hn i k hki
    rw [List.drop_eq_getElem_cons hlt', show ks[i] = k from (List.getElem?_eq_some_iff.1 hki).2] at hgo hroom
    rw [costL] at hroom
    rw [layL] at hgo
    have hnext := (lay_room k).room b q _ hroom hq
    refine .go ?_; (repeat constructor); refine .mv ?_; refine .as_ ?_; refine .go ?_; (repeat constructor); refine .mv ?_; refine .mv ?_; refine .mv ?_; refine EL.indexAddrL rfl rfl rfl rfl rfl rfl rfl (by omega) ?_; refine .mv ?_; (refine EL.callMw rfl rfl rfl ent42 rfl (lay_c w w.heap.size k (hf k hmem) g (o + i * 9) hnk g7 0 b z q hq (hroom.less (by omega))) (by repeat constructor) ?_; intro u); refine .as_ ?_; refine .go ?_; (repeat constructor); refine .a1 ?_; refine .mv ?_; refine .go ?_; repeat constructor
    exact .ly ⟨i + 1, (layM k b q).1, (layM k b q).2, u⟩ ⟨hlt', hgo, hnext.2.1, hnext.1⟩ (by simp only; omega)
  · obtain rfl : i = ks.length := by omega
    rw [List.drop_length, layL] at hgo
    cases hgo
    refine .go ?_; repeat constructor
    refine EL.imp (H' := AH g7 z.1 0) (fun w hs => (Sat.unpack (R := []) hs).ent (.i (by rw [List.append_nil]; exact .refl _))) ?_
    refine .go ?_; (repeat constructor); refine .mv ?_; refine .mv ?_; refine .nc ?_; refine .fa ?_; refine .sb ?_; refine .go ?_; (repeat constructor); refine .mv ?_; refine .as_ ?_; refine .go ?_; repeat constructor
    refine PX.ret rfl Tryz.results23 (.cons (.tmp rfl) .nil) (fun w hs => ⟨(g7, z), rfl, ?_⟩)
    exact Sat.pack (R := []) (by rw [List.append_nil]; exact hs.ent (.i (by repeat constructor)))
end Go.Proofs.YthcbjbkheodejaaGreat
namespace Go.Proofs.YthcbjbkheodejaaGreat
open Go Go.RowKit Sl
set_option maxRecDepth 100000
set_option maxHeartbeats 8000000
attribute [local irreducible] ES EL PX wps
def prC (p : Nat × Nat) : List Value := [Iv (p.1 : Nat), Iv (p.2 : Nat)]
def prsC (l : List (Nat × Nat)) : List Value := l.flatMap prC
theorem prsC_len : ∀ l : List (Nat × Nat), (prsC l).length = l.length * 2
  | [] => rfl
  | p :: l => by
    have := prsC_len l
    simp only [prsC, List.flatMap_cons, List.length_append, List.length_cons] at this ⊢
    rw [this]; simp only [prC, List.length_cons, List.length_nil]; omega
theorem prsC_snoc (l : List (Nat × Nat)) (p : Nat × Nat) : prsC (l ++ [p]) = prsC l ++ prC p := by simp [prsC]
theorem edsC_get : ∀ (es : List Ed) (i : Nat) (e : Ed), es[i]? = some e → ∀ j u, (edC e)[j]? = some u → (edsC es)[i * 6 + j]? = some u
  | [], i, e, h, _, _, _ => by simp at h
  | e' :: es, 0, e, h, j, u, hj => by
    simp only [List.getElem?_cons_zero, Option.some.injEq] at h
    subst h
    have hlt := (List.getElem?_eq_some_iff.1 hj).1
    rw [Nat.zero_mul, Nat.zero_add]
    show (edC e' ++ edsC es)[j]? = some u
    rw [List.getElem?_append_left hlt]; exact hj
  | e' :: es, i + 1, e, h, j, u, hj => by
    simp only [List.getElem?_cons_succ] at h
    have ih := edsC_get es i e h j u hj
    show (edC e' ++ edsC es)[(i + 1) * 6 + j]? = some u
    rw [List.getElem?_append_right (by simp only [edC, List.length_cons, List.length_nil]; omega)]
    rw [show (i + 1) * 6 + j - (edC e').length = i * 6 + j by simp only [edC, List.length_cons, List.length_nil]; omega]
    exact ih
abbrev WB (gs : Nat) (s : List UInt8) (st : Nat) (rest : List Value) (ty : TypeId) : HA := HA.blk gs (.cells (Sv s :: Iv (st : Nat) :: rest).toArray ty)
theorem wb_set (s : List UInt8) (a : Value) (b : Nat) (rest : List Value) (ty : TypeId) : Obj.cells ((Sv s :: a :: rest).toArray.setIfInBounds 1 (Iv (b : Nat))) ty (0, 0) = Obj.cells (Sv s :: Iv (b : Nat) :: rest).toArray ty (0, 0) := by simp
abbrev BR (g n : Nat) (l : List Bool) : HA := HA.row (.slice (some ⟨g, 0, none⟩) n n) 4 1 n (l.map Value.bool)
abbrev TR (ad : Option Addr) (cap : Nat) (l : List (Nat × Nat)) : HA := HA.row (.slice ad l.length cap) 154 2 l.length (prsC l)
structure FL where
  f : Nat
  st : FS
  ad : Option Addr
  cap : Nat
theorem blk_sub {w : World} {g off e : Nat} {cs : Array Value} {vs : List Value} (h : w.heap[g]? = some (.cells cs e (0, 0))) (hv : (cs.toList.drop off).take vs.length = vs) : ∀ j u, vs[j]? = some u → w.cell? ((⟨g, off, none⟩ : Addr).add j) = some u := fun j u hj => by
  rw [add_n, blk_cell h]
  rw [← hv, List.getElem?_take] at hj
  split at hj
  · rw [List.getElem?_drop] at hj
    simpa using hj
  · cases hj
theorem flood_c (gs : Nat) (s : List UInt8) (hs : s.length ≤ 1024) (st0 : Nat) (hst0 : st0 ≤ 1152921504606846976) (rest : List Value) (ty : TypeId) (es : List (List Ed)) (hok : EdsOk es) (hN : es.length ≤ 131072) (hrow : ∀ l ∈ es, l.length ≤ 1048576)
    (ps : List EP) (hps : ps.map Prod.snd = es) (oad : Option Addr) (ocap : Nat) (x0 : Nat × Nat) (h1 : x0.1 < es.length) (h2 : x0.2 ≤ s.length) (goal : Nat) (fwd : Bool) :
    Mut Tryz.prog 62 #[Pv gs 0, .slice oad ps.length ocap, .agg #[Iv (x0.1 : Nat), Iv (x0.2 : Nat)], Iv (goal : Nat), .bool fwd] [WB gs s st0 rest ty, OR oad ocap ps, HA.edg ps]
      (fun g : Nat => .slice (some ⟨g, 0, none⟩) (s.length + 1) (s.length + 1)) (fun g => [BR g (s.length + 1) (floodM es s x0 goal fwd st0).marks, WB gs s (floodM es s x0 goal fwd st0).steps rest ty, OR oad ocap ps, HA.edg ps]) := by
  intro w0 B R w h
  replace h : Sat w0 B (WB gs s st0 rest ty :: OR oad ocap ps :: HA.edg ps :: R) w := h
  have hpl : ps.length = es.length := by rw [← hps, List.length_map]
  have hrows : ∀ p ∈ ps, ∃ ad cap, p.1 = .slice ad p.2.length cap := fun p hp => row_val ((h.all (HA.edg ps) (by simp) : (HA.edg ps).holds w) p hp)
  obtain ⟨og, rfl⟩ := (row_form (h.all (OR oad ocap ps) (by simp))).2.2.2.2 (by omega)
  have hmu0 := fs0_ok h1 h2 st0
  have hidx := idx_lt h1 h2
  have hbig : es.length * (s.length + 1) ≤ 131072 * 1025 := Nat.mul_le_mul hN (by omega)
  obtain ⟨F0, hF0⟩ : ∃ F0, F0 = es.length * (s.length + 1) := ⟨_, rfl⟩
  obtain ⟨r, hr⟩ : ∃ r, r = floodM es s x0 goal fwd st0 := ⟨_, rfl⟩
  have hgo0 : floodGo es s goal fwd F0 (fs0 es.length s.length x0 st0) = r := by rw [hr, hF0]; rfl
  rw [← hr]
  rw [← hF0] at hidx hbig hmu0
  obtain ⟨n, hn⟩ : ∃ n, n = s.length := ⟨_, rfl⟩
  refine calls_of_ES TB Tryz.func62 rfl _ Tryz.ntmps62 rfl h ?_; refine .gr ?_; (repeat constructor); (refine .bx ?_; intro g7); refine .as_ ?_; refine .gr ?_; (repeat constructor); refine .mv ?_; refine .nc ?_; refine .fa ?_; refine .lb ?_; refine .lS ?_; refine .as_ ?_; refine .gr ?_; (repeat constructor); refine .gr ?_; (repeat constructor); refine .mv ?_; refine .a1 ?_
  (refine EL.makeSlice (n := s.length + 1) rfl rfl rfl rfl rfl rfl (by show 1 * (s.length + 1) ≤ _; omega) (by unfold maxLen; omega) ?_; intro g28; refine EL.rowEq (v := .slice (some ⟨g28, 0, none⟩) (s.length + 1) (s.length + 1)) (by repeat constructor) ((made1 _ _).trans (List.map_replicate (f := Value.bool) (a := false)).symm) ?_)
  refine .as_ ?_; refine .gr ?_; (repeat constructor); refine .gr ?_; (repeat constructor); refine .mv ?_; refine .lL ?_; refine .mv ?_; refine .a1 ?_
  (refine EL.mulN (m := ps.length) rfl rfl rfl rfl rfl (by rw [hpl, ← hF0]; omega) ?_; refine EL.rew (d := 33) (v' := Iv (F0 : Nat)) rfl (by rw [hpl, ← hF0]) ?_)
  (refine EL.makeSlice (n := F0) rfl rfl rfl rfl rfl rfl (by show 1 * F0 ≤ _; omega) (by unfold maxLen; omega) ?_; intro g34; refine EL.rowEq (v := .slice (some ⟨g34, 0, none⟩) F0 F0) (by repeat constructor) ((made1 _ _).trans (List.map_replicate (f := Value.bool) (a := false)).symm) ?_)
  refine .as_ ?_; refine .gr ?_; (repeat constructor); refine .gr ?_; (repeat constructor); refine .mv ?_; refine .fa ?_; refine .lb ?_; refine .mv ?_; refine .a1 ?_; refine EL.mulN (m := x0.1) rfl rfl rfl rfl rfl (by omega) ?_; refine .fa ?_; refine .lb ?_; refine EL.addN rfl rfl rfl rfl rfl (by omega) ?_; refine .i1 ?_
  (refine EL.storeR rfl rfl rfl rfl rfl rfl (by repeat constructor) (by simp; omega) ?_; refine EL.rowEq (v := .slice (some ⟨g34, 0, none⟩) F0 F0) (by repeat constructor) (List.map_set (f := Value.bool) (a := true)).symm ?_)
  refine .gr ?_; (repeat constructor); refine .gr ?_; (repeat constructor); refine .lg ?_; (refine .b1 ?_; intro b46); refine .as_ ?_; refine .gr ?_; repeat constructor
  refine ES.loop (σ := FL) (fun z => z.st.Ok es.length s.length ∧ z.st.mu ≤ z.f ∧ z.f ≤ F0 ∧ floodGo es s goal fwd z.f z.st = r ∧ z.st.steps ≤ st0 + (F0 - z.f) * 1048576)
    (fun z => [(0, Pv gs 0), (1, .slice (some ⟨og, 0, none⟩) ps.length ocap), (3, Iv (goal : Nat)), (4, .bool fwd), (11, Iv (s.length : Nat)), (12, .slice (some ⟨g28, 0, none⟩) (s.length + 1) (s.length + 1)), (13, .slice (some ⟨g34, 0, none⟩) F0 F0), (14, .slice z.ad z.st.todo.length z.cap)])
    (fun z => WB gs s z.st.steps rest ty :: BR g28 (s.length + 1) z.st.marks :: BR g34 F0 z.st.seen :: TR z.ad z.cap z.st.todo :: OR (some ⟨og, 0, none⟩) ocap ps :: HA.edg ps :: R) (fun z => z.f) ⟨F0, fs0 es.length s.length x0 st0, some ⟨b46, 0, none⟩, 1⟩
    ⟨hmu0.1, by rw [hmu0.2]; exact Nat.le_refl _, Nat.le_refl _, hgo0, by simp [fs0]⟩ ⟨rfl, rfl, rfl, rfl, rfl, rfl, rfl, rfl, trivial⟩ (by simp only [fs0, hF0]; exact (.i (by repeat constructor))) ?_
  rintro ⟨f, st, tad, tcap⟩ ⟨zok, zmu, zf, zgo, zst⟩
  dsimp only at zok zmu zf zgo zst ⊢
  refine .gr ?_; (repeat constructor); refine .mv ?_; refine .lL ?_; refine .gt_ ?_; refine .gr ?_; repeat constructor
  refine ES.condD rfl (fun hpos => ?_) (fun hnone => ?_)
  rotate_left
  · have hnil : st.todo = [] := List.eq_nil_of_length_eq_zero (by omega)
    have hend : st = r := by
      rw [← zgo]
      cases f with
      | zero => rfl
      | succ f => rw [floodGo, hnil]; rfl
    rw [hend]
    refine .gr ?_; (repeat constructor); refine .mv ?_; refine .as_ ?_; refine .gr ?_; repeat constructor
    exact PX.ret rfl Tryz.results62 (.cons (.tmp rfl) .nil) (fun w hs => ⟨g28, rfl, hs.ent (.i (by repeat constructor))⟩)
  obtain ⟨p, hp⟩ : ∃ p, st.todo.getLast? = some p := ⟨_, List.getLast?_eq_some_getLast (by intro e; rw [e] at hpos; simp at hpos)⟩
  obtain ⟨pok, pmu, pq, pa⟩ := pop_ok (goal := goal) zok hp
  have hsplit := last_split hp
  obtain ⟨f, rfl⟩ : ∃ f', f = f' + 1 := ⟨f - 1, by simp only [FS.mu] at zmu; omega⟩
  rw [floodGo, hp] at zgo
  simp only at zgo
  obtain ⟨td, htd⟩ : ∃ td, td = st.todo.dropLast := ⟨_, rfl⟩
  have hpm : popM goal st p = ⟨if p.1 = goal then st.marks.set p.2 true else st.marks, st.seen, td, st.steps⟩ := by rw [htd]; rfl
  rw [← htd] at hsplit
  have hlen : st.todo.length = td.length + 1 := by rw [hsplit]; simp
  have htl : td.length + 1 ≤ 131072 * 1025 := by simp only [FS.mu] at zmu; omega
  refine ES.rowForm (e := 154) (sz := 2) (n := st.todo.length) (cs := prsC st.todo) (ad := tad) (len := st.todo.length) (cap := tcap) (by repeat constructor) (fun hf => ?_)
  obtain ⟨tg, rfl⟩ := hf.2.2.2.2 (by omega)
  have hcap := hf.2.1
  have hpl2 := prsC_len td
  have hcells : prsC st.todo = prsC td ++ prC p := by rw [hsplit, prsC_snoc]
  obtain ⟨pp, hpp⟩ : ∃ pp, ps[p.1]? = some pp := ⟨_, List.getElem?_eq_getElem (by rw [hpl]; exact pq)⟩
  obtain ⟨iad, icap, hpv⟩ := hrows pp (List.mem_of_getElem? hpp)
  have hpe : es.getD p.1 [] = pp.2 := by rw [← hps, List.getD_eq_getElem?_getD, List.getElem?_map, hpp]; rfl
  have hfst : (ps.map Prod.fst)[p.1]? = some (.slice iad pp.2.length icap) := by rw [List.getElem?_map, hpp, ← hpv]; rfl
  have hmem2 : pp.2 ∈ es := by rw [← hps]; exact List.mem_map_of_mem (List.mem_of_getElem? hpp)
  have hplen := hrow pp.2 hmem2
  have heok : ∀ e ∈ pp.2, e.to < es.length ∧ e.kind ≤ 3 := hok pp.2 hmem2
  have hpin : pp ∈ ps := List.mem_of_getElem? hpp
  rw [hpe] at zgo
  unfold TR
  rw [hlen, hcells]
  refine .gr ?_; (repeat constructor); refine .mv ?_; refine .mv ?_; refine .lL ?_; refine EL.sub1 rfl rfl rfl rfl (by omega) (by omega) ?_; refine EL.indexAddrL rfl rfl rfl rfl rfl rfl rfl (by omega) ?_
  refine EL.ofRV (RV.loadRA (prC p) rfl rfl rfl rfl (by repeat constructor) (by show ((prsC td ++ prC p).drop (0 + (td.length + 1 - 1) * 2)).take 2 = prC p; rw [show 0 + (td.length + 1 - 1) * 2 = (prsC td).length by omega, List.drop_left]; rfl)) rfl rfl rfl (by intro c h; cases h) ?_
  (refine .al ?_; intro g15); refine .sa ?_; refine .gr ?_; (repeat constructor); refine .gr ?_; (repeat constructor); refine .mv ?_; refine .mv ?_; refine .lL ?_; refine EL.sub1 rfl rfl rfl rfl (by omega) (by omega) ?_
  refine EL.ofRV (RV.sliceHi (hi := td.length) rfl rfl rfl rfl rfl (by omega)) rfl rfl rfl (by intro c h; cases h) ?_
  refine .as_ ?_; refine .gr ?_; (repeat constructor); refine EL.imp (H' := HA.blk g15 (.cells #[Iv (p.1 : Nat), Iv (p.2 : Nat)] 154) :: WB gs s st.steps rest ty :: BR g28 (s.length + 1) st.marks :: BR g34 F0 st.seen :: TR (some ⟨tg, 0, none⟩) tcap td :: OR (some ⟨og, 0, none⟩) ocap ps :: HA.edg ps :: R) (fun w hs => ?_) ?_
  · have k1 := Sat.cutRow (m := td.length) (hs.ent (H' := HA.row (.slice (some ⟨tg, 0, none⟩) (td.length + 1) tcap) 154 2 (td.length + 1) (prsC td ++ prC p) :: HA.blk g15 (.cells #[Iv (p.1 : Nat), Iv (p.2 : Nat)] 154) :: WB gs s st.steps rest ty :: BR g28 (s.length + 1) st.marks :: BR g34 F0 st.seen :: OR (some ⟨og, 0, none⟩) ocap ps :: HA.edg ps :: R) (.i (by repeat constructor))) (by omega)
    rw [← hpl2, List.take_left] at k1
    exact k1.ent (.i (by repeat constructor))
  refine .gr ?_; (repeat constructor); refine .fa ?_; refine .lb ?_; refine .mv ?_; refine .ei ?_; refine .gr ?_; repeat constructor
  refine ES.cutC (X := Unit) (fun _ => [(0, Pv gs 0), (1, .slice (some ⟨og, 0, none⟩) ps.length ocap), (3, Iv (goal : Nat)), (4, .bool fwd), (11, Iv (s.length : Nat)), (12, .slice (some ⟨g28, 0, none⟩) (s.length + 1) (s.length + 1)), (13, .slice (some ⟨g34, 0, none⟩) F0 F0), (14, .slice (some ⟨tg, 0, none⟩) td.length tcap), (15, Pv g15 0)])
    (fun _ => HA.blk g15 (.cells #[Iv (p.1 : Nat), Iv (p.2 : Nat)] 154) :: WB gs s st.steps rest ty :: BR g28 (s.length + 1) (popM goal st p).marks :: BR g34 F0 st.seen :: TR (some ⟨tg, 0, none⟩) tcap td :: OR (some ⟨og, 0, none⟩) ocap ps :: HA.edg ps :: R) ?_ (fun _ => ?_)
  · refine ES.condD rfl (fun hg => ?_) (fun hg => ?_)
    · have hm : (popM goal st p).marks = st.marks.set p.2 true := by rw [hpm]; exact if_pos (by omega)
      rw [hm]
      refine .gr ?_; (repeat constructor); refine .mv ?_; refine .fa ?_; refine .lb ?_; refine .i1 ?_
      (refine EL.storeR rfl rfl rfl rfl rfl rfl (by repeat constructor) (by rw [List.length_map, zok.marks]; omega) ?_; refine EL.rowEq (v := .slice (some ⟨g28, 0, none⟩) (s.length + 1) (s.length + 1)) (by repeat constructor) (List.map_set (f := Value.bool) (a := true)).symm ?_)
      refine .gr ?_; repeat constructor
      exact .cy ()
    · have hm : (popM goal st p).marks = st.marks := by rw [hpm]; exact if_neg (by omega)
      rw [hm]
      refine .gr ?_; repeat constructor
      exact .cy ()
  generalize hM : (popM goal st p).marks = mk
  have hpm2 : popM goal st p = ⟨mk, st.seen, td, st.steps⟩ := by rw [← hM, hpm]
  rw [hpm2] at pok pmu zgo
  have hed := edges_ok (fwd := fwd) pa pp.2 pok (fun e he => (heok e he).1)
  have hcs := cnts_le s.length fwd p.2 pp.2
  generalize hX : pp.2.foldl (edgeM s fwd p.2) ⟨mk, st.seen, td, st.steps⟩ = stX at zgo hed
  refine .gr ?_; (repeat constructor); refine .mv ?_; refine .fa ?_; refine .lb ?_; refine .i1 ?_; refine EL.loadR rfl rfl rfl rfl rfl (by repeat constructor) hfst ?_; refine .lL ?_; refine .mv ?_; refine .gr ?_; repeat constructor
  refine ES.loop (σ := FL) (fun z => z.f ≤ pp.2.length ∧ (pp.2.drop z.f).foldl (edgeM s fwd p.2) z.st = stX ∧ z.st.Ok es.length s.length ∧ z.st.mu ≤ f ∧ z.st.steps ≤ st.steps + z.f)
    (fun z => [(0, Pv gs 0), (1, .slice (some ⟨og, 0, none⟩) ps.length ocap), (3, Iv (goal : Nat)), (4, .bool fwd), (11, Iv (s.length : Nat)), (12, .slice (some ⟨g28, 0, none⟩) (s.length + 1) (s.length + 1)), (13, .slice (some ⟨g34, 0, none⟩) F0 F0), (14, .slice z.ad z.st.todo.length z.cap), (15, Pv g15 0), (73, .slice iad pp.2.length icap), (74, Iv (pp.2.length : Nat)), (75, Iv (z.f : Nat))])
    (fun z => HA.blk g15 (.cells #[Iv (p.1 : Nat), Iv (p.2 : Nat)] 154) :: WB gs s z.st.steps rest ty :: BR g28 (s.length + 1) z.st.marks :: BR g34 F0 z.st.seen :: TR z.ad z.cap z.st.todo :: OR (some ⟨og, 0, none⟩) ocap ps :: HA.edg ps :: R) (fun z => pp.2.length - z.f)
    ⟨0, ⟨mk, st.seen, td, st.steps⟩, some ⟨tg, 0, none⟩, tcap⟩ ⟨Nat.zero_le _, hX, pok, by dsimp only; omega, Nat.le_refl _⟩ ⟨rfl, rfl, rfl, rfl, rfl, rfl, rfl, rfl, rfl, rfl, rfl, rfl, trivial⟩ (.i (by repeat constructor)) ?_
  rintro ⟨i, sj, jad, jcap⟩ ⟨ji, jgo, jok, jmu, jst⟩
  dsimp only at ji jgo jok jmu jst ⊢
  refine .gr ?_; (repeat constructor); refine .ls ?_; refine .gr ?_; repeat constructor
  refine ES.condD rfl (fun hlt => ?_) (fun hge => ?_)
  rotate_left
  · obtain rfl : i = pp.2.length := by omega
    rw [List.drop_length] at jgo
    have jgo : sj = stX := jgo
    subst jgo
    refine .gr ?_; repeat constructor
    exact .ly ⟨f, sj, jad, jcap⟩ ⟨jok, jmu, by dsimp only; omega, zgo, by dsimp only; rw [show F0 - f = F0 - (f + 1) + 1 by omega]; omega⟩ (by simp only; omega)
  have hlt' : i < pp.2.length := by omega
  obtain ⟨e, hei⟩ : ∃ e, pp.2[i]? = some e := ⟨_, List.getElem?_eq_getElem hlt'⟩
  have hemem := List.mem_of_getElem? hei
  obtain ⟨eto, ekind⟩ := heok e hemem
  rw [List.drop_eq_getElem_cons hlt', show pp.2[i] = e from (List.getElem?_eq_some_iff.1 hei).2, List.foldl_cons] at jgo
  have hstep := edge_ok (fwd := fwd) jok pa eto
  have hcl := cnt_le s.length fwd e p.2
  have hbig2 : e.to * (s.length + 1) + s.length < F0 := by rw [hF0]; exact idx_lt eto (Nat.le_refl _)
  refine ES.know (P := ∃ ig, iad = some ⟨ig, 0, none⟩) (fun w hs => ?_) (fun hig => ?_)
  · have hr := ((hs.all (HA.edg ps) (by simp) : (HA.edg ps).holds w) pp hpin)
    rw [hpv] at hr
    exact (row_form hr).2.2.2.2 (by omega)
  obtain ⟨ig, rfl⟩ := hig
  have hrd : ∀ (w : World), (HA.edg ps).holds w → ∀ j u, (edC e)[j]? = some u → w.cell? ((⟨ig, 0 + i * 6, none⟩ : Addr).add j) = some u := fun w hw j u hj => by
    have hr := hw pp hpin
    rw [hpv] at hr
    rw [add_n]
    exact row_cell hr _ u (by rw [Nat.zero_add]; exact edsC_get pp.2 i e hei j u hj)
  refine .gr ?_; (repeat constructor); refine EL.indexAddrL rfl rfl rfl rfl rfl rfl rfl (by omega) ?_; refine EL.loadAgg (cs := edC e) rfl rfl rfl rfl rfl rfl (fun w hs => hrd w (hs.all (HA.edg ps) (by simp))) ?_; (refine .al ?_; intro g17); refine .sa ?_; refine .gr ?_; (repeat constructor); refine .gr ?_; (repeat constructor); refine .fa ?_; refine .lb ?_; refine .as_ ?_; refine .gr ?_; (repeat constructor); refine .fa ?_; refine .lb ?_
  repeat (first | apply EL.nil | apply ES.seq | apply ES.skip)
  refine ES.cutE (X := { b : Nat // placeM s fwd e p.2 = some b }) (Y := PLift (placeM s fwd e p.2 = none)) 3 (fun b => [(0, Pv gs 0), (1, .slice (some ⟨og, 0, none⟩) ps.length ocap), (3, Iv (goal : Nat)), (4, .bool fwd), (11, Iv (s.length : Nat)), (12, .slice (some ⟨g28, 0, none⟩) (s.length + 1) (s.length + 1)), (13, .slice (some ⟨g34, 0, none⟩) F0 F0), (14, .slice jad sj.todo.length jcap), (15, Pv g15 0), (17, Pv g17 0), (18, Iv (b.1 : Nat)), (73, .slice (some ⟨ig, 0, none⟩) pp.2.length icap), (74, Iv (pp.2.length : Nat)), (75, Iv (i : Nat))]) (fun _ => HA.blk g17 (.cells (edC e).toArray 180) :: HA.blk g15 (.cells #[Iv (p.1 : Nat), Iv (p.2 : Nat)] 154) :: WB gs s (sj.steps + cntM s.length fwd e p.2) rest ty :: BR g28 (s.length + 1) sj.marks :: BR g34 F0 sj.seen :: TR jad jcap sj.todo :: OR (some ⟨og, 0, none⟩) ocap ps :: HA.edg ps :: R) (fun _ => [(0, Pv gs 0), (1, .slice (some ⟨og, 0, none⟩) ps.length ocap), (3, Iv (goal : Nat)), (4, .bool fwd), (11, Iv (s.length : Nat)), (12, .slice (some ⟨g28, 0, none⟩) (s.length + 1) (s.length + 1)), (13, .slice (some ⟨g34, 0, none⟩) F0 F0), (14, .slice jad sj.todo.length jcap), (15, Pv g15 0), (73, .slice (some ⟨ig, 0, none⟩) pp.2.length icap), (74, Iv (pp.2.length : Nat)), (75, Iv (i : Nat))]) (fun _ => HA.blk g17 (.cells (edC e).toArray 180) :: HA.blk g15 (.cells #[Iv (p.1 : Nat), Iv (p.2 : Nat)] 154) :: WB gs s (sj.steps + cntM s.length fwd e p.2) rest ty :: BR g28 (s.length + 1) sj.marks :: BR g34 F0 sj.seen :: TR jad jcap sj.todo :: OR (some ⟨og, 0, none⟩) ocap ps :: HA.edg ps :: R) ?_ (fun b => ?_) (fun y => ?_)
  · refine .gr ?_; (repeat constructor); refine .ei ?_; refine .as_ ?_; refine .gr ?_; repeat constructor
    refine ES.condD rfl (fun k2 => ?_) (fun k2 => ?_)
    · have hk : e.kind = 2 := by have h : ((e.kind : Nat) : Int) = 2 := k2; omega
      have hc0 : cntM s.length fwd e p.2 = 0 := by unfold cntM; rw [if_neg (by omega)]
      have hpl : placeM s fwd e p.2 = if p.2 = 0 then some p.2 else none := by unfold placeM; rw [if_neg (by omega), if_pos hk]
      rw [hc0, Nat.add_zero]
      refine .gr ?_; (repeat constructor); refine .mv ?_; refine .ni ?_; refine .gr ?_; repeat constructor
      refine ES.condN rfl (fun h0 => ?_) (fun h0 => ?_)
      · refine .gr ?_; repeat constructor
        exact PX.cutEx ⟨by rw [hpl, if_neg (by omega)]⟩ ⟨rfl, rfl, rfl, rfl, rfl, rfl, rfl, rfl, rfl, rfl, rfl, rfl, trivial⟩ (.i (by repeat constructor))
      · refine .gr ?_; repeat constructor
        exact PX.cutEn ⟨p.2, by rw [hpl, if_pos (by omega)]⟩ ⟨rfl, rfl, rfl, rfl, rfl, rfl, rfl, rfl, rfl, rfl, rfl, rfl, rfl, rfl, trivial⟩ (.i (by repeat constructor))
    have hk2 : ¬ e.kind = 2 := by have h : ¬ ((e.kind : Nat) : Int) = 2 := k2; omega
    refine .gr ?_; (repeat constructor); refine .ei ?_; refine .as_ ?_; refine .gr ?_; repeat constructor
    refine ES.condD rfl (fun k3 => ?_) (fun k3 => ?_)
    · have hk : e.kind = 3 := by have h : ((e.kind : Nat) : Int) = 3 := k3; omega
      have hc0 : cntM s.length fwd e p.2 = 0 := by unfold cntM; rw [if_neg (by omega)]
      have hpl : placeM s fwd e p.2 = if p.2 = s.length then some p.2 else none := by unfold placeM; rw [if_neg (by omega), if_neg (by omega), if_pos hk]
      rw [hc0, Nat.add_zero]
      refine .gr ?_; (repeat constructor); refine .mv ?_; refine .mv ?_; refine .ni ?_; refine .gr ?_; repeat constructor
      refine ES.condN rfl (fun h0 => ?_) (fun h0 => ?_)
      · refine .gr ?_; repeat constructor
        exact PX.cutEx ⟨by rw [hpl, if_neg (by omega)]⟩ ⟨rfl, rfl, rfl, rfl, rfl, rfl, rfl, rfl, rfl, rfl, rfl, rfl, trivial⟩ (.i (by repeat constructor))
      · refine .gr ?_; repeat constructor
        exact PX.cutEn ⟨p.2, by rw [hpl, if_pos (by omega)]⟩ ⟨rfl, rfl, rfl, rfl, rfl, rfl, rfl, rfl, rfl, rfl, rfl, rfl, rfl, rfl, trivial⟩ (.i (by repeat constructor))
    have hk3 : ¬ e.kind = 3 := by have h : ¬ ((e.kind : Nat) : Int) = 3 := k3; omega
    refine .gr ?_; (repeat constructor); refine .ei ?_; refine .as_ ?_; refine .gr ?_; repeat constructor
    refine ES.condD rfl (fun k1 => ?_) (fun k1 => ?_)
    rotate_left
    · have hk1 : ¬ e.kind = 1 := by have h : ¬ ((e.kind : Nat) : Int) = 1 := k1; omega
      have hc0 : cntM s.length fwd e p.2 = 0 := by unfold cntM; rw [if_neg (by omega)]
      rw [hc0, Nat.add_zero]
      refine .gr ?_; repeat constructor
      exact PX.cutEn ⟨p.2, by unfold placeM; rw [if_neg hk1, if_neg hk2, if_neg hk3]⟩ ⟨rfl, rfl, rfl, rfl, rfl, rfl, rfl, rfl, rfl, rfl, rfl, rfl, rfl, rfl, trivial⟩ (.i (by repeat constructor))
    have hk : e.kind = 1 := by have h : ((e.kind : Nat) : Int) = 1 := k1; omega
    have hpl : placeM s fwd e p.2 = if inB s.length fwd p.2 = true ∧ hasS e.set (s.getD (bAt fwd p.2) 0).toNat = true then some (if fwd = true then p.2 + 1 else p.2 - 1) else none := by unfold placeM; rw [if_pos hk]
    obtain ⟨bA, hbA⟩ : ∃ bA : Int, bA = if fwd = true then (p.2 : Int) else (p.2 : Int) - 1 := ⟨_, rfl⟩
    refine .gr ?_; (repeat constructor); refine .mv ?_; refine .as_ ?_; refine .gr ?_; (repeat constructor); refine .mv ?_; refine .nt ?_; refine .gr ?_; repeat constructor
    refine ES.cutC (X := Unit) (fun _ => [(0, Pv gs 0), (1, .slice (some ⟨og, 0, none⟩) ps.length ocap), (3, Iv (goal : Nat)), (4, .bool fwd), (11, Iv (s.length : Nat)), (12, .slice (some ⟨g28, 0, none⟩) (s.length + 1) (s.length + 1)), (13, .slice (some ⟨g34, 0, none⟩) F0 F0), (14, .slice jad sj.todo.length jcap), (15, Pv g15 0), (17, Pv g17 0), (19, Iv bA), (73, .slice (some ⟨ig, 0, none⟩) pp.2.length icap), (74, Iv (pp.2.length : Nat)), (75, Iv (i : Nat))]) (fun _ => HA.blk g17 (.cells (edC e).toArray 180) :: HA.blk g15 (.cells #[Iv (p.1 : Nat), Iv (p.2 : Nat)] 154) :: WB gs s sj.steps rest ty :: BR g28 (s.length + 1) sj.marks :: BR g34 F0 sj.seen :: TR jad jcap sj.todo :: OR (some ⟨og, 0, none⟩) ocap ps :: HA.edg ps :: R) ?_ (fun _ => ?_)
    · refine ES.cond rfl (fun hf => ?_) (fun hf => ?_)
      · have hf' : fwd = false := by simpa using hf
        refine .gr ?_; (repeat constructor); refine .mv ?_; refine EL.sub_ ((p.2 : Int) - 1) rfl rfl rfl rfl (wrap_i64 _ (by omega) (by omega)) ?_; refine .as_ ?_; refine .gr ?_; repeat constructor
        exact .cx () ⟨rfl, rfl, rfl, rfl, rfl, rfl, rfl, rfl, rfl, rfl, getA rfl (congrArg Iv (by rw [hbA, hf']; rfl)), rfl, rfl, rfl, trivial⟩
      · have hf' : fwd = true := by simpa using hf
        refine .gr ?_; repeat constructor
        exact .cx () ⟨rfl, rfl, rfl, rfl, rfl, rfl, rfl, rfl, rfl, rfl, getA rfl (congrArg Iv (by rw [hbA, hf']; rfl)), rfl, rfl, rfl, trivial⟩
    refine .gr ?_; repeat constructor
    refine EL.cutX (X := Unit) (fun _ => [(0, Pv gs 0), (1, .slice (some ⟨og, 0, none⟩) ps.length ocap), (3, Iv (goal : Nat)), (4, .bool fwd), (11, Iv (s.length : Nat)), (12, .slice (some ⟨g28, 0, none⟩) (s.length + 1) (s.length + 1)), (13, .slice (some ⟨g34, 0, none⟩) F0 F0), (14, .slice jad sj.todo.length jcap), (15, Pv g15 0), (17, Pv g17 0), (19, Iv bA), (105, .bool (decide (bA < 0 ∨ (s.length : Int) ≤ bA))), (73, .slice (some ⟨ig, 0, none⟩) pp.2.length icap), (74, Iv (pp.2.length : Nat)), (75, Iv (i : Nat))]) (fun _ => HA.blk g17 (.cells (edC e).toArray 180) :: HA.blk g15 (.cells #[Iv (p.1 : Nat), Iv (p.2 : Nat)] 154) :: WB gs s sj.steps rest ty :: BR g28 (s.length + 1) sj.marks :: BR g34 F0 sj.seen :: TR jad jcap sj.todo :: OR (some ⟨og, 0, none⟩) ocap ps :: HA.edg ps :: R) ?_ (fun _ => ?_)
    · refine .gr ?_; (repeat constructor); refine .mv ?_; refine .ls ?_; refine .mv ?_
      first | refine EL.splitD (d := 101) rfl (fun hp101 => ?_) (fun hp101 => ?_) | refine EL.splitN (d := 101) rfl (fun hp101 => ?_) (fun hp101 => ?_) | refine EL.splitB (d := 101) rfl (fun hp101 => ?_) (fun hp101 => ?_)
      · refine .ps ?_; refine .ps ?_; refine .ps ?_; refine .pt ?_
        exact .dx () ⟨rfl, rfl, rfl, rfl, rfl, rfl, rfl, rfl, rfl, rfl, rfl, getA rfl (congrArg Value.bool (by rw [Bool.eq_iff_iff]; simp only [decide_eq_true_eq, true_iff]; omega)), rfl, rfl, rfl, trivial⟩
      · refine .mv ?_; refine .mv ?_; refine .gq ?_; refine .pf ?_
        exact .dx () ⟨rfl, rfl, rfl, rfl, rfl, rfl, rfl, rfl, rfl, rfl, rfl, getA rfl (congrArg Value.bool (by rw [Bool.eq_iff_iff]; simp only [decide_eq_true_eq, true_iff]; omega)), rfl, rfl, rfl, trivial⟩
    refine ES.condD rfl (fun ho => ?_) (fun ho => ?_)
    · have hin : inB s.length fwd p.2 = false := by
        unfold inB
        cases fwd
        · simp only [Bool.false_eq_true, if_false] at hbA ⊢
          exact decide_eq_false (by omega)
        · simp only [if_true] at hbA ⊢
          exact decide_eq_false (by omega)
      have hc0 : cntM s.length fwd e p.2 = 0 := by unfold cntM; rw [hin, if_neg (by simp)]
      rw [hc0, Nat.add_zero]
      refine .gr ?_; repeat constructor
      exact PX.cutEx ⟨by rw [hpl, hin, if_neg (by simp)]⟩ ⟨rfl, rfl, rfl, rfl, rfl, rfl, rfl, rfl, rfl, rfl, rfl, rfl, trivial⟩ (.i (by repeat constructor))
    obtain ⟨k, hkb⟩ : ∃ k, k = bAt fwd p.2 := ⟨_, rfl⟩
    have hin : inB s.length fwd p.2 = true ∧ bA = (k : Int) ∧ k < s.length := by
      unfold inB
      unfold bAt at hkb
      cases fwd
      · simp only [Bool.false_eq_true, if_false] at hbA hkb ⊢
        exact ⟨decide_eq_true (by omega), by omega, by omega⟩
      · simp only [if_true] at hbA hkb ⊢
        exact ⟨decide_eq_true (by omega), by omega, by omega⟩
    obtain ⟨hin, hbk, hklt⟩ := hin
    have hc1 : cntM s.length fwd e p.2 = 1 := by unfold cntM; rw [hin, if_pos ⟨hk, rfl⟩]
    rw [hin, ← hkb] at hpl
    rw [hc1]
    rw [hbk]
    refine .gr ?_; (repeat constructor); refine .mv ?_; refine .nc ?_; refine .fa ?_; refine .lb ?_; refine .a1 ?_; refine .nc ?_; refine .fa ?_
    (refine EL.storeB rfl rfl rfl rfl rfl rfl (by repeat constructor) (by simp) ?_; refine EL.blkEq (g := gs) (by repeat constructor) (wb_set s _ (sj.steps + 1) rest ty) ?_)
    refine .gr ?_; (repeat constructor); refine .gs ?_; repeat constructor
    refine ES.draw (X := Unit) (fun _ => [(0, Pv gs 0), (1, .slice (some ⟨og, 0, none⟩) ps.length ocap), (3, Iv (goal : Nat)), (4, .bool fwd), (11, Iv (s.length : Nat)), (12, .slice (some ⟨g28, 0, none⟩) (s.length + 1) (s.length + 1)), (13, .slice (some ⟨g34, 0, none⟩) F0 F0), (14, .slice jad sj.todo.length jcap), (15, Pv g15 0), (17, Pv g17 0), (19, Iv (k : Nat)), (122, .bool (!hasS e.set (s.getD k 0).toNat)), (73, .slice (some ⟨ig, 0, none⟩) pp.2.length icap), (74, Iv (pp.2.length : Nat)), (75, Iv (i : Nat))]) (fun _ => HA.blk g17 (.cells (edC e).toArray 180) :: HA.blk g15 (.cells #[Iv (p.1 : Nat), Iv (p.2 : Nat)] 154) :: WB gs s (sj.steps + 1) rest ty :: BR g28 (s.length + 1) sj.marks :: BR g34 F0 sj.seen :: TR jad jcap sj.todo :: OR (some ⟨og, 0, none⟩) ocap ps :: HA.edg ps :: R) (HA.blk g17 (.cells (edC e).toArray 180) :: WB gs s (sj.steps + 1) rest ty :: []) mixed (.i (by repeat constructor)) ?_ (fun _ => ?_)
    · refine .tk 0 rfl (RV.fieldAddr rfl rfl rfl rfl rfl rfl) ?_; refine ED.take 1 rfl (by decide +kernel) CutX.no_panic (by decide +kernel) rfl rfl rfl (RV.loadAgg (cs := [Wv e.set.a, Wv e.set.b, Wv e.set.c, Wv e.set.d]) rfl rfl rfl rfl (fun w hs => blk_sub (hs.all (HA.blk g17 (.cells (edC e).toArray 180)) (by simp)) rfl)) ?_; refine .tk 2 rfl (RV.move rfl) ?_; refine .tk 3 rfl (RV.nilCheck rfl) ?_; refine .tk 4 rfl (RV.fieldAddr rfl rfl rfl rfl rfl rfl) ?_; refine .tk 5 rfl (RV.loadB rfl rfl rfl (by repeat constructor) rfl) ?_; refine .tk 6 rfl (RV.move rfl) ?_; refine .tk 7 rfl (RV.indexSN rfl rfl rfl rfl (by omega)) ?_; refine .ld 8 ?_; refine EL.callP rfl rfl rfl ent84 rfl (has_c e.set (s.getD k 0)) ?_; refine .nx ?_; refine .tk 9 rfl (RV.not rfl) ?_; refine .dn ?_
      exact .cy ()
    refine ES.cond rfl (fun hh => ?_) (fun hh => ?_)
    · have hh' : hasS e.set (s.getD k 0).toNat = false := by simpa using hh
      rw [hh', if_neg (by simp)] at hpl
      refine .gr ?_; repeat constructor
      exact PX.cutEx ⟨hpl⟩ ⟨rfl, rfl, rfl, rfl, rfl, rfl, rfl, rfl, rfl, rfl, rfl, rfl, trivial⟩ (.i (by repeat constructor))
    have hh' : hasS e.set (s.getD k 0).toNat = true := by simpa using hh
    rw [hh', if_pos ⟨rfl, rfl⟩] at hpl
    refine .gr ?_; (repeat constructor); refine .mv ?_; refine .as_ ?_; refine .gr ?_; (repeat constructor); refine .mv ?_; refine .gr ?_; repeat constructor
    refine ES.cond rfl (fun hf => ?_) (fun hf => ?_)
    · rw [if_pos hf] at hpl
      have hk2 : k = p.2 := by rw [hkb]; unfold bAt; exact if_pos hf
      subst hk2
      refine .gr ?_; (repeat constructor); refine .mv ?_; refine .a1 ?_; refine .as_ ?_; refine .gr ?_; repeat constructor
      exact PX.cutEn ⟨p.2 + 1, hpl⟩ ⟨rfl, rfl, rfl, rfl, rfl, rfl, rfl, rfl, rfl, rfl, rfl, rfl, rfl, rfl, trivial⟩ (.i (by repeat constructor))
    · rw [if_neg (by rw [hf]; simp)] at hpl
      have hk2 : k = p.2 - 1 := by rw [hkb]; unfold bAt; exact if_neg (by rw [hf]; simp)
      rw [← hk2] at hpl
      refine .gr ?_; repeat constructor
      exact PX.cutEn ⟨k, hpl⟩ ⟨rfl, rfl, rfl, rfl, rfl, rfl, rfl, rfl, rfl, rfl, rfl, rfl, rfl, rfl, trivial⟩ (.i (by repeat constructor))
  · obtain ⟨b, hb⟩ := b
    have hble := place_le pa hb
    have hix : e.to * (s.length + 1) + b < F0 := by omega
    have htl3 : sj.todo.length ≤ F0 := by simp only [FS.mu] at jmu; omega
    have hse : edgeM s fwd p.2 sj e = pushM s.length { sj with steps := sj.steps + cntM s.length fwd e p.2 } e.to b := by unfold edgeM; rw [hb]
    dsimp only
    refine .gr ?_; (repeat constructor); refine .fa ?_; refine .lb ?_; refine .mv ?_; refine .a1 ?_; refine EL.mulN (m := e.to) rfl rfl rfl rfl rfl (by omega) ?_; refine .mv ?_; refine EL.addN rfl rfl rfl rfl rfl (by omega) ?_; refine .as_ ?_; refine .gr ?_; (repeat constructor); refine .mv ?_; refine .mv ?_; refine .i1 ?_
    refine EL.ofRV (RV.loadRm Value.bool false rfl rfl rfl (by repeat constructor) (by rw [jok.seen, ← hF0]; exact hix)) rfl rfl rfl (by intro c h; cases h) ?_
    refine .nt ?_; refine .gr ?_; repeat constructor
    refine ES.cond rfl (fun hf => ?_) (fun hf => ?_)
    · have hns : sj.seen.getD (e.to * (s.length + 1) + b) false = false := by simpa using hf
      have hst : edgeM s fwd p.2 sj e = ⟨sj.marks, sj.seen.set (e.to * (s.length + 1) + b) true, sj.todo ++ [(e.to, b)], sj.steps + cntM s.length fwd e p.2⟩ := by
        rw [hse]; unfold pushM; rw [if_neg (by rw [hns]; simp)]
      rw [hst] at jgo hstep
      refine .gr ?_; (repeat constructor); refine .mv ?_; refine .mv ?_; refine .i1 ?_
      (refine EL.storeR rfl rfl rfl rfl rfl rfl (by repeat constructor) (by rw [List.length_map, jok.seen, ← hF0]; exact hix) ?_; refine EL.rowEq (v := .slice (some ⟨g34, 0, none⟩) F0 F0) (by repeat constructor) (List.map_set (f := Value.bool) (a := true)).symm ?_)
      refine .gr ?_; (repeat constructor); refine .mv ?_; refine .fa ?_; refine .lb ?_; refine .mv ?_
      (apply EL.build2; exact rfl; exact rfl; exact rfl; exact rfl; exact rfl; exact rfl; exact rfl; exact rfl; exact rfl; exact rfl)
      (refine .b1 ?_; intro b147)
      (refine EL.append1 rfl rfl rfl rfl rfl rfl rfl rfl rfl (by repeat constructor) (by repeat constructor) (by first | (intro u hu; simp [Value.cells] at hu; subst hu; rfl) | exact all1 rfl) (by rfl) (by unfold maxLen; omega) (by first | omega | (show 1 * _ ≤ _; omega) | (show 8 * _ ≤ _; omega) | (show 16 * _ ≤ _; omega) | (show 24 * _ ≤ _; omega) | (show _ * 1 ≤ _; omega) | (show _ * 8 ≤ _; omega) | (show _ * 16 ≤ _; omega) | (show _ * 24 ≤ _; omega) | exact Nat.le_trans (Nat.mul_le_mul_right _ (show _ ≤ 1073741824 by omega)) (by decide)) ?_; intro a148 c148)
      refine .as_ ?_; refine .gr ?_; (repeat constructor); refine .a1 ?_; refine .mv ?_; refine .gr ?_; repeat constructor
      exact PX.loop ⟨i + 1, _, some ⟨a148, 0, none⟩, c148⟩ ⟨hlt', jgo, hstep.1, by rw [hstep.2.1]; exact jmu, by dsimp only; omega⟩ (by simp only; omega) ⟨rfl, rfl, rfl, rfl, rfl, rfl, rfl, getA rfl (by simp), rfl, rfl, rfl, rfl, trivial⟩ (by dsimp only; unfold TR; rw [List.length_append, prsC_snoc]; exact (.i (by repeat constructor)))
    · have hys : sj.seen.getD (e.to * (s.length + 1) + b) false = true := by simpa using hf
      have hst : edgeM s fwd p.2 sj e = { sj with steps := sj.steps + cntM s.length fwd e p.2 } := by
        rw [hse]; unfold pushM; rw [if_pos (by exact hys)]
      rw [hst] at jgo hstep
      refine .gr ?_; (repeat constructor); refine .a1 ?_; refine .mv ?_; refine .gr ?_; repeat constructor
      exact .ly ⟨i + 1, _, jad, jcap⟩ ⟨hlt', jgo, hstep.1, by rw [hstep.2.1]; exact jmu, by dsimp only; omega⟩ (by simp only; omega)
  · have hst : edgeM s fwd p.2 sj e = { sj with steps := sj.steps + cntM s.length fwd e p.2 } := by unfold edgeM; rw [y.down]
    rw [hst] at jgo hstep
    refine .gr ?_; (repeat constructor); refine .gr ?_; (repeat constructor); refine .a1 ?_; refine .mv ?_; refine .gr ?_; repeat constructor
    exact .ly ⟨i + 1, _, jad, jcap⟩ ⟨hlt', jgo, hstep.1, by rw [hstep.2.1]; exact jmu, by dsimp only; omega⟩ (by simp only; omega)
end Go.Proofs.YthcbjbkheodejaaGreat
namespace Go.Proofs.YthcbjbkheodejaaGreat
open Go Go.RowKit Sl
set_option maxRecDepth 100000
set_option maxHeartbeats 8000000
attribute [local irreducible] ES EL PX wps
abbrev leftLo (lo : Nat) (k : RE) (times : Nat) : Nat := leastM lo k - times
def leftM (lo : Nat) (hi : Int) (k : RE) (times : Nat) : RE := .rep (leftLo lo k times) (if 0 ≤ hi then max ((leftLo lo k times : Nat) : Int) (hi - times) else -1) k
theorem left_c (lo : Nat) (hi : Int) (k : RE) (hf : (RE.rep lo hi k).fine) (times : Nat) (ht : times ≤ 1073741824) (g off : Nat) (ad : Option Addr) (cap : Nat) (w : World) (hn : NodeRd w w.heap.size g off (.rep lo hi k)) (hrd : Rd w w.heap.size (some ⟨g, off, none⟩) (reCells (.rep lo hi k) (.slice ad 1 cap))) :
    Pure Tryz.prog 69 #[Pv g off, Iv (times : Nat)] (fun _ : Unit => .agg (reCells (leftM lo hi k times) (.slice ad 1 cap)).toArray) (fun _ => []) w := by
  have hlo := hf.1
  have hle := least_le lo k
  have hh := hf.2.1
  have hh2 := hf.2.2.1
  obtain ⟨m, hm⟩ : ∃ m, m = leastM lo k := ⟨_, rfl⟩
  obtain ⟨l, hl⟩ : ∃ l, l = leftLo lo k times := ⟨_, rfl⟩
  have hlm : l = m - times := by rw [hl, hm]
  rw [← hm] at hle
  have hmx : max 0 ((m : Int) - (times : Int)) = ((l : Nat) : Int) := by omega
  have hlm2 : leftM lo hi k times = .rep l (if 0 ≤ hi then max ((l : Nat) : Int) (hi - times) else -1) k := by rw [hl]; rfl
  rw [hlm2]
  refine calls_of_ES TB Tryz.func69 rfl _ Tryz.ntmps69 rfl (Sat.start w) ?_; refine .gr ?_; (repeat constructor); (refine .al ?_; intro g4); refine .gr ?_; repeat constructor
  refine ES.draw (X := Nat) (fun g5 => [(0, Pv g off), (1, Iv (times : Nat)), (4, Pv g4 0), (5, Pv g5 0)]) (fun g5 => HA.blk g5 (.cells #[Iv 5, Wv 0, Wv 0, Wv 0, Wv 0, Iv (max 0 ((m : Int) - (times : Int))), Iv (-1), Iv 0, .slice ad 1 cap] 46) :: HA.blk g4 (.cells zeroRe 46) :: []) [] mixed (.i (by repeat constructor)) ?_ (fun g5 => ?_)
  · refine .tk 0 rfl (RV.move rfl) ?_; refine .tk 2 rfl (RV.move rfl) ?_; refine .tk 5 rfl (RV.move rfl) ?_; refine .tk 6 rfl (RV.nilCheck rfl) ?_; refine .tk 7 rfl (RV.fieldAddr rfl rfl rfl rfl rfl rfl) ?_; refine .tk 8 rfl (RV.loadOld rfl rfl rfl hrd rfl) ?_
    refine ED.fork 1 [10] (by decide +kernel) ⟨⟨_, rfl, ?_⟩, ⟨_, rfl, ?_⟩, trivial⟩
    · (refine EL.callPw rfl rfl rfl ent68 rfl (fun w hs => least_c lo hi k hf g off w (NodeRd.sat hn hs)) ?_; rw [← hm])
      refine .nx ?_; refine .tk 3 rfl (RV.sub_ ((m : Int) - (times : Int)) rfl rfl (wrap_i64 _ (by omega) (by omega))) ?_; refine .tk 4 rfl (RV.maxI rfl rfl) ?_; refine .tk 9 rfl (RV.buildS #[Iv 5, Wv 0, Wv 0, Wv 0, Wv 0, Iv (max 0 ((m : Int) - (times : Int))), Iv (-1), Iv 0, .slice ad 1 cap] rfl rfl rfl rfl (by kernel_rfl)) ?_; refine .ld 10 ?_; (refine .al ?_; intro g5); refine .nx ?_; refine ED.last 11 rfl (by decide +kernel) (by decide +kernel) (by decide +kernel) ?_; refine .sa ?_; refine EL.endQ ?_
      exact .cy g5
    · (refine .al ?_; intro g5); refine .nx ?_; refine .ld 1 ?_
      (refine EL.callPw rfl rfl rfl ent68 rfl (fun w hs => least_c lo hi k hf g off w (NodeRd.sat hn hs)) ?_; rw [← hm])
      refine .nx ?_; refine .tk 3 rfl (RV.sub_ ((m : Int) - (times : Int)) rfl rfl (wrap_i64 _ (by omega) (by omega))) ?_; refine .tk 4 rfl (RV.maxI rfl rfl) ?_; refine .tk 9 rfl (RV.buildS #[Iv 5, Wv 0, Wv 0, Wv 0, Wv 0, Iv (max 0 ((m : Int) - (times : Int))), Iv (-1), Iv 0, .slice ad 1 cap] rfl rfl rfl rfl (by kernel_rfl)) ?_; refine ED.last 11 rfl (by decide +kernel) (by decide +kernel) (by decide +kernel) ?_; refine .sa ?_; refine EL.endQ ?_
      exact .cy g5
  rw [hmx]
  refine .gr ?_; (repeat constructor); refine .mv ?_; refine .nc ?_; refine .fa ?_; refine EL.loadOld rfl rfl rfl rfl rfl hrd rfl ?_; refine .gq ?_; refine .gr ?_; repeat constructor
  refine ES.condD rfl (fun hge => ?_) (fun hlt => ?_)
  · have hge' : 0 ≤ hi := hge
    rw [if_pos hge']
    refine .gs ?_; repeat constructor
    refine ES.draw (X := Unit) (fun _ => [(4, Pv g4 0), (5, Pv g5 0)]) (fun _ => HA.blk g5 (.cells (reCells (.rep l (max ((l : Nat) : Int) (hi - times)) k) (.slice ad 1 cap)).toArray 46) :: HA.blk g4 (.cells zeroRe 46) :: []) (HA.blk g5 (.cells #[Iv 5, Wv 0, Wv 0, Wv 0, Wv 0, Iv (l : Nat), Iv (-1), Iv 0, .slice ad 1 cap] 46) :: []) mixed (.i (by repeat constructor)) ?_ (fun _ => ?_)
    · refine .tk 0 rfl (RV.fieldAddr rfl rfl rfl rfl rfl rfl) ?_; refine .tk 1 rfl (RV.loadB rfl rfl rfl (by repeat constructor) rfl) ?_; refine .tk 2 rfl (RV.move rfl) ?_; refine .tk 3 rfl (RV.nilCheck rfl) ?_; refine .tk 4 rfl (RV.fieldAddr rfl rfl rfl rfl rfl rfl) ?_; refine .tk 5 rfl (RV.loadOld rfl rfl rfl hrd rfl) ?_; refine .tk 6 rfl (RV.move rfl) ?_
      refine .tk 7 rfl (RV.sub_ (hi - (times : Int)) rfl rfl (wrap_i64 _ (by simp only [RE.hi]; omega) (by simp only [RE.hi]; omega))) ?_
      refine .tk 8 rfl (RV.maxI rfl rfl) ?_; refine .tk 9 rfl (RV.fieldAddr rfl rfl rfl rfl rfl rfl) ?_; refine ED.last 10 rfl (by decide +kernel) (by decide +kernel) (by decide +kernel) ?_; refine .sb ?_; refine EL.endQ ?_
      exact .cy ()
    refine .gr ?_; (repeat constructor); refine .lg ?_; refine .sa ?_; refine .gr ?_; repeat constructor
    exact PX.ret rfl Tryz.results69 (.cons (.blkA rfl rfl rfl (by repeat constructor) rfl) .nil) (fun w hs => ⟨(), rfl, hs.ent (.i (by repeat constructor))⟩)
  · have hlt' : ¬ 0 ≤ hi := hlt
    rw [if_neg hlt']
    refine .gr ?_; (repeat constructor); refine .gr ?_; (repeat constructor); refine .lg ?_; refine .sa ?_; refine .gr ?_; repeat constructor
    exact PX.ret rfl Tryz.results69 (.cons (.blkA rfl rfl rfl (by repeat constructor) rfl) .nil) (fun w hs => ⟨(), rfl, hs.ent (.i (by repeat constructor))⟩)
end Go.Proofs.YthcbjbkheodejaaGreat
namespace Go.Proofs.YthcbjbkheodejaaGreat
open Go Go.RowKit Sl
set_option maxRecDepth 100000
set_option maxHeartbeats 8000000
attribute [local irreducible] ES EL PX wps
theorem edge_steps (s : List UInt8) (fwd : Bool) (a : Nat) (st : FS) (e : Ed) : (edgeM s fwd a st e).steps = st.steps + cntM s.length fwd e a := by
  unfold edgeM
  split
  · rfl
  · unfold pushM; split <;> rfl
theorem edges_steps (s : List UInt8) (fwd : Bool) (a : Nat) : ∀ (es : List Ed) (st : FS), (es.foldl (edgeM s fwd a) st).steps ≤ st.steps + es.length
  | [], st => Nat.le_refl _
  | e :: es, st => by
    have h1 := edges_steps s fwd a es (edgeM s fwd a st e)
    have h2 := edge_steps s fwd a st e
    have h3 := cnt_le s.length fwd e a
    simp only [List.foldl_cons, List.length_cons]; omega
theorem flood_steps {es : List (List Ed)} {M : Nat} (hM : ∀ l ∈ es, l.length ≤ M) (s : List UInt8) (goal : Nat) (fwd : Bool) : ∀ (f : Nat) (st : FS), (floodGo es s goal fwd f st).steps ≤ st.steps + f * M
  | 0, st => by rw [floodGo]; omega
  | f + 1, st => by
    rw [floodGo]
    split
    · omega
    · rename_i p hp
      have h1 := flood_steps hM s goal fwd f ((es.getD p.1 []).foldl (edgeM s fwd p.2) (popM goal st p))
      have h2 := edges_steps s fwd p.2 (es.getD p.1 []) (popM goal st p)
      have h3 : (popM goal st p).steps = st.steps := rfl
      have h4 : (es.getD p.1 []).length ≤ M := by
        rw [List.getD_eq_getElem?_getD]
        cases hg : es[p.1]? with
        | none => simp
        | some l => exact hM l (List.mem_of_getElem? hg)
      rw [Nat.succ_mul]; omega
theorem floodM_steps {es : List (List Ed)} (hN : es.length ≤ 131072) (hM : ∀ l ∈ es, l.length ≤ 131072) (s : List UInt8) (hs : s.length ≤ 1024) (p : Nat × Nat) (goal : Nat) (fwd : Bool) (st : Nat) : (floodM es s p goal fwd st).steps ≤ st + 131072 * 1025 * 131072 := by
  have h1 := flood_steps hM s goal fwd (es.length * (s.length + 1)) (fs0 es.length s.length p st)
  have h2 : es.length * (s.length + 1) * 131072 ≤ 131072 * 1025 * 131072 := Nat.mul_le_mul_right _ (Nat.mul_le_mul hN (by omega))
  have h3 : (fs0 es.length s.length p st).steps = st := rfl
  unfold floodM
  omega
theorem make_room (ks : List RE) (h : costL ks + 1 ≤ 131072) : (makeM ks).1.Room 0 ∧ (makeM ks).2 < (makeM ks).1.out.length := by
  have h0 : AM.Room ⟨[], []⟩ (costL ks + 1) := am0_room h
  have h1 := layL_room ks _ 0 0 (add_room h0) (by rw [add_len]; simp)
  exact ⟨h1.1, h1.2.1⟩
def endsM (A : AM × Nat) (s : List UInt8) (i st : Nat) : FS := floodM A.1.out s (0, i) A.2 true st
def startsM (A : AM × Nat) (s : List UInt8) (j st : Nat) : FS := floodM A.1.back s (A.2, j) 0 false st
theorem ends_c (gs : Nat) (s : List UInt8) (hs : s.length ≤ 1024) (st0 : Nat) (hst0 : st0 ≤ 1152921504606846976) (rest : List Value) (ty : TypeId) (ga : Nat) (A : AM × Nat) (x : AX A.1) (hr : A.1.Room 0) (he : A.2 < A.1.out.length) (i : Nat) (hi : i ≤ s.length) :
    Mut Tryz.prog 40 #[Pv gs 0, Pv ga 0, Iv (i : Nat)] [WB gs s st0 rest ty, AP ga x.1 A.2] (fun g : Nat => .slice (some ⟨g, 0, none⟩) (s.length + 1) (s.length + 1))
      (fun g => [BR g (s.length + 1) (endsM A s i st0).marks, WB gs s (endsM A s i st0).steps rest ty, AP ga x.1 A.2]) := by
  intro w0 B R w h
  obtain ⟨a, en⟩ := A
  obtain ⟨⟨oad, ocap, bad, bcap, ps, qs⟩, hv⟩ := x
  obtain ⟨ho, hb⟩ := id hv
  dsimp only at ho hb hr he ⊢
  have hout := hr.out
  have hro := hr.ro
  have hfc := flood_c gs s hs st0 hst0 rest ty a.out hr.eo (by omega) (fun l hl => by have := hro l hl; omega) ps ho oad ocap (0, i) (by show 0 < _; omega) hi en true
  replace h : Sat w0 B (AH ga ⟨oad, ocap, bad, bcap, ps, qs⟩ en ++ (WB gs s st0 rest ty :: R)) w := Sat.unpack (h.ent (.i (by repeat constructor)))
  replace h : Sat w0 B (HA.blk ga (.cells #[.slice oad ps.length ocap, .slice bad qs.length bcap, Iv (en : Nat)] 121) :: WB gs s st0 rest ty :: OR oad ocap ps :: HA.edg ps :: OR bad bcap qs :: HA.edg qs :: R) w := h.ent (.i (by repeat constructor))
  unfold endsM
  dsimp only
  generalize floodM a.out s (0, i) en true st0 = r at hfc
  refine calls_of_ES TB Tryz.func40 rfl _ Tryz.ntmps40 rfl h ?_; refine .gr ?_; (repeat constructor); refine .as_ ?_; refine .gr ?_; repeat constructor
  refine ES.draw (X := Nat) (fun g => [(6, .slice (some ⟨g, 0, none⟩) (s.length + 1) (s.length + 1))]) (fun g => BR g (s.length + 1) r.marks :: WB gs s r.steps rest ty :: HA.blk ga (.cells #[.slice oad ps.length ocap, .slice bad qs.length bcap, Iv (en : Nat)] 121) :: OR oad ocap ps :: HA.edg ps :: OR bad bcap qs :: HA.edg qs :: R)
    (HA.blk ga (.cells #[.slice oad ps.length ocap, .slice bad qs.length bcap, Iv (en : Nat)] 121) :: []) mixed (.i (by repeat constructor)) ?_ (fun g => ?_)
  · refine .tk 0 rfl (RV.move rfl) ?_; refine .tk 1 rfl (RV.move rfl) ?_; refine .tk 2 rfl (RV.nilCheck rfl) ?_; refine .tk 3 rfl (RV.fieldAddr rfl rfl rfl rfl rfl rfl) ?_; refine .tk 4 rfl (RV.loadB rfl rfl rfl (by repeat constructor) rfl) ?_; refine .tk 5 rfl (RV.move rfl) ?_; refine .tk 6 rfl (RV.buildS #[Iv 0, Iv (i : Nat)] rfl rfl rfl rfl (by kernel_rfl)) ?_; refine .tk 7 rfl (RV.move rfl) ?_; refine .tk 8 rfl (RV.nilCheck rfl) ?_; refine .tk 9 rfl (RV.fieldAddr rfl rfl rfl rfl rfl rfl) ?_; refine .tk 10 rfl (RV.loadB rfl rfl rfl (by repeat constructor) rfl) ?_; refine .ld 11 ?_; (refine EL.callM rfl rfl rfl ent62 rfl hfc (by repeat constructor) ?_; intro g); refine .nx ?_; refine .tk 12 rfl (RV.assign rfl) ?_; refine .dn ?_
    exact .cy g
  refine .gr ?_; repeat constructor
  refine PX.ret rfl Tryz.results40 (.cons (.tmp rfl) .nil) (fun w hs => ⟨g, rfl, ?_⟩)
  have k1 := Sat.pack (Hs := AH ga ⟨oad, ocap, bad, bcap, ps, qs⟩ en) (hs.ent (H' := AH ga ⟨oad, ocap, bad, bcap, ps, qs⟩ en ++ (BR g (s.length + 1) r.marks :: WB gs s r.steps rest ty :: R)) (.i (by repeat constructor)))
  exact k1.ent (.i (by repeat constructor))
theorem starts_c (gs : Nat) (s : List UInt8) (hs : s.length ≤ 1024) (st0 : Nat) (hst0 : st0 ≤ 1152921504606846976) (rest : List Value) (ty : TypeId) (ga : Nat) (A : AM × Nat) (x : AX A.1) (hr : A.1.Room 0) (he : A.2 < A.1.out.length) (j : Nat) (hj : j ≤ s.length) :
    Mut Tryz.prog 88 #[Pv gs 0, Pv ga 0, Iv (j : Nat)] [WB gs s st0 rest ty, AP ga x.1 A.2] (fun g : Nat => .slice (some ⟨g, 0, none⟩) (s.length + 1) (s.length + 1))
      (fun g => [BR g (s.length + 1) (startsM A s j st0).marks, WB gs s (startsM A s j st0).steps rest ty, AP ga x.1 A.2]) := by
  intro w0 B R w h
  obtain ⟨a, en⟩ := A
  obtain ⟨⟨oad, ocap, bad, bcap, ps, qs⟩, hv⟩ := x
  obtain ⟨ho, hb⟩ := id hv
  dsimp only at ho hb hr he ⊢
  have hout := hr.out
  have hsame := hr.same
  have hrb := hr.rb
  have hfc := flood_c gs s hs st0 hst0 rest ty a.back hr.eb (by omega) (fun l hl => by have := hrb l hl; omega) qs hb bad bcap (en, j) (by show en < _; omega) hj 0 false
  replace h : Sat w0 B (AH ga ⟨oad, ocap, bad, bcap, ps, qs⟩ en ++ (WB gs s st0 rest ty :: R)) w := Sat.unpack (h.ent (.i (by repeat constructor)))
  replace h : Sat w0 B (HA.blk ga (.cells #[.slice oad ps.length ocap, .slice bad qs.length bcap, Iv (en : Nat)] 121) :: WB gs s st0 rest ty :: OR oad ocap ps :: HA.edg ps :: OR bad bcap qs :: HA.edg qs :: R) w := h.ent (.i (by repeat constructor))
  unfold startsM
  dsimp only
  generalize floodM a.back s (en, j) 0 false st0 = r at hfc
  refine calls_of_ES TB Tryz.func88 rfl _ Tryz.ntmps88 rfl h ?_; refine .gr ?_; (repeat constructor); refine .as_ ?_; refine .gr ?_; repeat constructor
  refine ES.draw (X := Nat) (fun g => [(6, .slice (some ⟨g, 0, none⟩) (s.length + 1) (s.length + 1))]) (fun g => BR g (s.length + 1) r.marks :: WB gs s r.steps rest ty :: HA.blk ga (.cells #[.slice oad ps.length ocap, .slice bad qs.length bcap, Iv (en : Nat)] 121) :: OR oad ocap ps :: HA.edg ps :: OR bad bcap qs :: HA.edg qs :: R)
    (HA.blk ga (.cells #[.slice oad ps.length ocap, .slice bad qs.length bcap, Iv (en : Nat)] 121) :: []) mixed (.i (by repeat constructor)) ?_ (fun g => ?_)
  · refine .tk 0 rfl (RV.move rfl) ?_; refine .tk 1 rfl (RV.move rfl) ?_; refine .tk 2 rfl (RV.nilCheck rfl) ?_; refine .tk 3 rfl (RV.fieldAddr rfl rfl rfl rfl rfl rfl) ?_; refine .tk 4 rfl (RV.loadB rfl rfl rfl (by repeat constructor) rfl) ?_; refine .tk 5 rfl (RV.move rfl) ?_; refine .tk 6 rfl (RV.nilCheck rfl) ?_; refine .tk 7 rfl (RV.fieldAddr rfl rfl rfl rfl rfl rfl) ?_; refine .tk 8 rfl (RV.loadB rfl rfl rfl (by repeat constructor) rfl) ?_; refine .tk 9 rfl (RV.move rfl) ?_; refine .tk 10 rfl (RV.buildS #[Iv (en : Nat), Iv (j : Nat)] rfl rfl rfl rfl (by kernel_rfl)) ?_; refine .ld 11 ?_; (refine EL.callM rfl rfl rfl ent62 rfl hfc (by repeat constructor) ?_; intro g); refine .nx ?_; refine .tk 12 rfl (RV.assign rfl) ?_; refine .dn ?_
    exact .cy g
  refine .gr ?_; repeat constructor
  refine PX.ret rfl Tryz.results88 (.cons (.tmp rfl) .nil) (fun w hs => ⟨g, rfl, ?_⟩)
  have k1 := Sat.pack (Hs := AH ga ⟨oad, ocap, bad, bcap, ps, qs⟩ en) (hs.ent (H' := AH ga ⟨oad, ocap, bad, bcap, ps, qs⟩ en ++ (BR g (s.length + 1) r.marks :: WB gs s r.steps rest ty :: R)) (.i (by repeat constructor)))
  exact k1.ent (.i (by repeat constructor))
def dnL (i : Nat) : Nat → List Nat
  | 0 => []
  | n + 1 => (i + n) :: dnL i n
def splE (s : List UInt8) (hd : List RE) (i st : Nat) : FS := endsM (makeM hd) s i st
def splS (s : List UInt8) (hd tl : List RE) (i j st : Nat) : FS := startsM (makeM tl) s j (splE s hd i st).steps
def splL (s : List UInt8) (hd tl : List RE) (i j st : Nat) : List Nat := (dnL i (j + 1 - i)).filter fun p => (splE s hd i st).marks.getD p false && (splS s hd tl i j st).marks.getD p false
abbrev IR (ad : Option Addr) (cap : Nat) (l : List Nat) : HA := HA.row (.slice ad l.length cap) 3 1 l.length (l.map fun z : Nat => Iv (z : Nat))
structure SPL where
  n : Nat
  l : List Nat
  ad : Option Addr
  cap : Nat
abbrev RowRd (w0 : World) (B : Nat) (T : HA) (ad : Option Addr) (ks : List RE) : Prop := ∀ (w : World) (H : List HA), Sat w0 B (T :: H) w → ∀ i k, ks[i]? = some k → ∃ g o, ad = some ⟨g, o, none⟩ ∧ NodeRd w w.heap.size g (o + i * 9) k
theorem flood_len {es : List (List Ed)} (hes : EdsOk es) (s : List UInt8) {x0 : Nat × Nat} (h1 : x0.1 < es.length) (h2 : x0.2 ≤ s.length) (goal : Nat) (fwd : Bool) (st0 : Nat) : (floodM es s x0 goal fwd st0).marks.length = s.length + 1 := by
  obtain ⟨_, h⟩ := flood_spec hes s h1 h2 goal fwd st0
  exact h.len
theorem splits_c (gs : Nat) (s : List UInt8) (hs : s.length ≤ 1024) (st0 : Nat) (hst0 : st0 ≤ 576460752303423488) (rest : List Value) (ty : TypeId) (hd tl : List RE) (hdf : ∀ k ∈ hd, k.fine) (tlf : ∀ k ∈ tl, k.fine) (hdl : hd.length ≤ 1024) (tll : tl.length ≤ 1024) (hdc : costL hd + 1 ≤ 131072) (tlc : costL tl + 1 ≤ 131072)
    (had tad : Option Addr) (hcap tcap : Nat) (i j : Nat) (hij : i ≤ j) (hj : j ≤ s.length) (w0 : World) (B : Nat) (T : HA) (hh : RowRd w0 B T had hd) (ht : RowRd w0 B T tad tl) :
    MutAt Tryz.prog 67 #[Pv gs 0, .slice had hd.length hcap, .slice tad tl.length tcap, Iv (i : Nat), Iv (j : Nat)] [WB gs s st0 rest ty, T] (fun z : Option Addr × Nat => .slice z.1 (splL s hd tl i j st0).length z.2)
      (fun z => [IR z.1 z.2 (splL s hd tl i j st0), WB gs s (splS s hd tl i j st0).steps rest ty, T]) w0 B := by
  intro R w h
  replace h : Sat w0 B (WB gs s st0 rest ty :: T :: R) w := h
  have hi : i ≤ s.length := by omega
  obtain ⟨hr1, he1⟩ := make_room hd hdc
  obtain ⟨hr2, he2⟩ := make_room tl tlc
  have hE : (splE s hd i st0).steps ≤ 1152921504606846976 := by
    have := floodM_steps (es := (makeM hd).1.out) (by have := hr1.out; omega) (fun l hl => by have := hr1.ro l hl; omega) s hs (0, i) (makeM hd).2 true st0
    unfold splE endsM
    omega
  have hL : splL s hd tl i j st0 = (dnL i (j + 1 - i)).filter fun p => (splE s hd i st0).marks.getD p false && (splS s hd tl i j st0).marks.getD p false := rfl
  have hl1 : (splE s hd i st0).marks.length = s.length + 1 := flood_len hr1.eo s (by show 0 < _; omega) hi _ _ _
  have hl2 : (splS s hd tl i j st0).marks.length = s.length + 1 := flood_len hr2.eb s (by show (makeM tl).2 < _; rw [hr2.same]; exact he2) hj _ _ _
  have hec := fun ga (x : AX (makeM hd).1) => ends_c gs s hs st0 (by omega) rest ty ga (makeM hd) x hr1 he1 i hi
  have hsc := fun ga (x : AX (makeM tl).1) => starts_c gs s hs (splE s hd i st0).steps hE rest ty ga (makeM tl) x hr2 he2 j hj
  change ∀ (ga : Nat) (x : AX (makeM hd).1), Mut _ _ _ _ _ (fun g => [BR g (s.length + 1) (splE s hd i st0).marks, WB gs s (splE s hd i st0).steps rest ty, AP ga x.1 (makeM hd).2]) at hec
  change ∀ (ga : Nat) (x : AX (makeM tl).1), Mut _ _ _ _ _ (fun g => [BR g (s.length + 1) (splS s hd tl i j st0).marks, WB gs s (splS s hd tl i j st0).steps rest ty, AP ga x.1 (makeM tl).2]) at hsc
  generalize splS s hd tl i j st0 = FSs at *
  generalize splE s hd i st0 = FE at *
  generalize splL s hd tl i j st0 = L at *
  refine calls_of_ES TB Tryz.func67 rfl _ Tryz.ntmps67 rfl h ?_; refine .gr ?_; (repeat constructor); refine .as_ ?_; refine .gr ?_; (repeat constructor); refine .gr ?_; (repeat constructor); refine .mv ?_; refine .mv ?_; (refine EL.callXw rfl rfl rfl ent23 rfl (fun w hs => make_c hd hdf hdl hdc had hcap w (hh w [] (hs.ent (.i (by repeat constructor))))) ?_; intro m1); refine .mv ?_; (refine EL.callM rfl rfl rfl ent40 rfl (hec m1.1 m1.2) (by repeat constructor) ?_; intro e1); refine .mv ?_; refine .mv ?_; (refine EL.callXw rfl rfl rfl ent23 rfl (fun w hs => make_c tl tlf tll tlc tad tcap w (ht w [] (hs.ent (.i (by repeat constructor))))) ?_; intro m2); refine .mv ?_; (refine EL.callM rfl rfl rfl ent88 rfl (hsc m2.1 m2.2) (by repeat constructor) ?_; intro e2); refine .as_ ?_; refine .as_ ?_; refine .gr ?_; (repeat constructor); refine EL.nilRow 3 1 ?_; refine .gr ?_; (repeat constructor); refine .as_ ?_; refine .gr ?_; (repeat constructor); refine .mv ?_; refine .as_ ?_; refine .gr ?_; repeat constructor
  refine ES.loop (σ := SPL) (fun z => z.n ≤ j + 1 - i ∧ z.l ++ ((dnL i z.n).filter fun p => FE.marks.getD p false && FSs.marks.getD p false) = L ∧ z.l.length + z.n ≤ j + 1 - i)
    (fun z => [(3, Iv (i : Nat)), (11, .slice (some ⟨e1, 0, none⟩) (s.length + 1) (s.length + 1)), (12, .slice (some ⟨e2, 0, none⟩) (s.length + 1) (s.length + 1)), (13, .slice z.ad z.l.length z.cap), (14, Iv ((i : Int) + (z.n : Int) - 1))])
    (fun z => IR z.ad z.cap z.l :: BR e1 (s.length + 1) FE.marks :: BR e2 (s.length + 1) FSs.marks :: WB gs s FSs.steps rest ty :: T :: R) (fun z => z.n) ⟨j + 1 - i, [], none, 0⟩ ⟨Nat.le_refl _, hL.symm, by simp⟩
    ⟨rfl, rfl, rfl, rfl, getA rfl (congrArg Iv (by simp only; omega)), trivial⟩ (.i (by repeat constructor)) ?_
  rintro ⟨n, l, ad, cap⟩ ⟨zn, zl, zc⟩
  dsimp only at zn zl zc ⊢
  refine .gr ?_; (repeat constructor); refine .mv ?_; refine .mv ?_; refine .gq ?_; refine .gr ?_; repeat constructor
  refine ES.condD rfl (fun hge => ?_) (fun hlt => ?_)
  rotate_left
  · obtain rfl : n = 0 := by omega
    rw [dnL, List.filter_nil, List.append_nil] at zl
    subst zl
    refine .gr ?_; (repeat constructor); refine .mv ?_; refine .as_ ?_; refine .gr ?_; repeat constructor
    exact PX.ret rfl Tryz.results67 (.cons (.tmp rfl) .nil) (fun w hs => ⟨(ad, cap), rfl, hs.ent (.i (by repeat constructor))⟩)
  obtain ⟨n, rfl⟩ : ∃ n', n = n' + 1 := ⟨n - 1, by omega⟩
  have e : (i : Int) + ((n + 1 : Nat) : Int) - 1 = ((i + n : Nat) : Int) := by omega
  rw [e]
  have hp : i + n ≤ s.length := by omega
  rw [dnL, List.filter_cons] at zl
  refine .gr ?_; repeat constructor
  refine EL.cutX (X := Unit) (fun _ => [(3, Iv (i : Nat)), (11, .slice (some ⟨e1, 0, none⟩) (s.length + 1) (s.length + 1)), (12, .slice (some ⟨e2, 0, none⟩) (s.length + 1) (s.length + 1)), (13, .slice ad l.length cap), (14, Iv ((i + n : Nat) : Int)), (40, .bool (FE.marks.getD (i + n) false && FSs.marks.getD (i + n) false))])
    (fun _ => IR ad cap l :: BR e1 (s.length + 1) FE.marks :: BR e2 (s.length + 1) FSs.marks :: WB gs s FSs.steps rest ty :: T :: R) ?_ (fun _ => ?_)
  · refine .gr ?_; (repeat constructor); refine .mv ?_; refine .mv ?_; refine .i1 ?_
    refine EL.ofRV (RV.loadRm (l := FE.marks) Value.bool false rfl rfl rfl (by repeat constructor) (by rw [hl1]; omega)) rfl rfl rfl (by intro c h; cases h) ?_
    refine .mv ?_
    first | refine EL.splitD (d := 35) rfl (fun hp35 => ?_) (fun hp35 => ?_) | refine EL.splitN (d := 35) rfl (fun hp35 => ?_) (fun hp35 => ?_) | refine EL.splitB (d := 35) rfl (fun hp35 => ?_) (fun hp35 => ?_)
    · refine .mv ?_; refine .mv ?_; refine .i1 ?_
      refine EL.ofRV (RV.loadRm (l := FSs.marks) Value.bool false rfl rfl rfl (by repeat constructor) (by rw [hl2]; omega)) rfl rfl rfl (by intro c h; cases h) ?_
      refine .pt ?_
      exact .dx () ⟨rfl, rfl, rfl, rfl, rfl, getA rfl (congrArg Value.bool (by rw [hp35]; rfl)), trivial⟩
    · refine .ps ?_; refine .ps ?_; refine .ps ?_; refine .ps ?_; refine .pf ?_
      exact .dx () ⟨rfl, rfl, rfl, rfl, rfl, getA rfl (congrArg Value.bool (by rw [hp35]; rfl)), trivial⟩
  refine ES.cond rfl (fun hf => ?_) (fun hf => ?_)
  · rw [if_pos hf] at zl
    refine .gr ?_; (repeat constructor); refine .mv ?_; refine .mv ?_; (refine .b1 ?_; intro b43)
    (refine EL.append1 rfl rfl rfl rfl rfl rfl rfl rfl rfl (by repeat constructor) (by repeat constructor) (by first | (intro u hu; simp [Value.cells] at hu; subst hu; rfl) | exact all1 rfl) (by rfl) (by unfold maxLen; omega) (by first | omega | (show 1 * _ ≤ _; omega) | (show 8 * _ ≤ _; omega) | (show 16 * _ ≤ _; omega) | (show 24 * _ ≤ _; omega) | (show _ * 1 ≤ _; omega) | (show _ * 8 ≤ _; omega) | (show _ * 16 ≤ _; omega) | (show _ * 24 ≤ _; omega) | exact Nat.le_trans (Nat.mul_le_mul_right _ (show _ ≤ 1073741824 by omega)) (by decide)) ?_; intro a44 c44)
    refine .as_ ?_; refine .gr ?_; (repeat constructor); refine .gr ?_; (repeat constructor); refine .mv ?_; refine EL.sub_ ((i : Int) + (n : Int) - 1) rfl rfl rfl rfl ((wrap_i64 _ (by omega) (by omega)).trans (by omega)) ?_; refine .as_ ?_; refine .gr ?_; repeat constructor
    exact PX.loop ⟨n, l ++ [i + n], some ⟨a44, 0, none⟩, c44⟩ ⟨by dsimp only; omega, by dsimp only; rw [List.append_assoc]; exact zl, by dsimp only; rw [List.length_append, List.length_singleton]; omega⟩ (by simp only; omega) ⟨rfl, rfl, rfl, getA rfl (by simp), rfl, trivial⟩ (by dsimp only; unfold IR; rw [List.length_append, List.map_append]; exact (.i (by repeat constructor)))
  · rw [if_neg (by rw [hf]; simp)] at zl
    refine .gr ?_; (repeat constructor); refine .gr ?_; (repeat constructor); refine .mv ?_; refine EL.sub_ ((i : Int) + (n : Int) - 1) rfl rfl rfl rfl ((wrap_i64 _ (by omega) (by omega)).trans (by omega)) ?_; refine .as_ ?_; refine .gr ?_; repeat constructor
    exact .ly ⟨n, l, ad, cap⟩ ⟨by dsimp only; omega, zl, by dsimp only; omega⟩ (by simp only; omega)
end Go.Proofs.YthcbjbkheodejaaGreat
namespace Go.Proofs.YthcbjbkheodejaaGreat
open Go Go.RowKit Sl
set_option maxRecDepth 100000
set_option maxHeartbeats 8000000
attribute [local irreducible] ES EL PX wps
abbrev Spn := Int × Int
structure SS where
  spans : List Spn
  steps : Nat
inductive WT where
  | one (r : RE)
  | cat (ks : List RE)
  | rep (lo : Nat) (hi : Int) (k : RE) (times : Nat)
def cutS (s : List UInt8) (hd tl : List RE) (i j st : Nat) : Option (Nat × Nat) :=
  if st ≤ 576460752303423488 ∧ costL hd + 1 ≤ 131072 ∧ costL tl + 1 ≤ 131072 ∧ i ≤ j ∧ j ≤ s.length then
    match splL s hd tl i j st with
    | [] => none
    | p :: _ => some (p, (splS s hd tl i j st).steps)
  else none
def walkM (s : List UInt8) : Nat → WT → Nat → Nat → SS → Option SS
  | 0, _, _, _, _ => none
  | f + 1, .one (.group n k), i, j, z => if n < z.spans.length then walkM s f (.one k) i j { z with spans := z.spans.set n ((i : Int), (j : Int)) } else none
  | f + 1, .one (.cat ks), i, j, z => walkM s f (.cat ks) i j z
  | f + 1, .one (.rep lo hi k), i, j, z => walkM s f (.rep lo hi k 0) i j z
  | _ + 1, .one _, _, _, z => some z
  | _ + 1, .cat [], _, _, z => some z
  | f + 1, .cat [k], i, j, z => walkM s f (.one k) i j z
  | f + 1, .cat (k :: k' :: ks), i, j, z =>
    match cutS s [k] (k' :: ks) i j z.steps with
    | none => none
    | some (e, st) =>
      match walkM s f (.one k) i e { z with steps := st } with
      | none => none
      | some z' => walkM s f (.cat (k' :: ks)) e j z'
  | f + 1, .rep lo hi k t, i, j, z =>
    if i = j then (if t < leastM lo k then walkM s f (.one k) j j z else some z)
    else if 1000000 < t then none
    else
      match cutS s [k] [leftM lo hi k (t + 1)] i j z.steps with
      | none => none
      | some (e, st) =>
        match walkM s f (.one k) i e { z with steps := st } with
        | none => none
        | some z' => walkM s f (.rep lo hi k (t + 1)) e j z'
def lastT (m : List Bool) (i n : Nat) : Option Nat := (dnL i n).find? fun p => m.getD p false
def findM (s : List UInt8) (A : AM × Nat) : Nat → Nat → Nat → Option (Option (Nat × Nat) × Nat)
  | 0, _, st => some (none, st)
  | n + 1, i, st =>
    if st ≤ 576460752303423488 then
      match lastT (endsM A s i st).marks i (s.length + 1 - i) with
      | some j => some (some (i, j), (endsM A s i st).steps)
      | none => findM s A n (i + 1) (endsM A s i st).steps
    else none
structure MR where
  spans : List Spn
  ok : Bool
  steps : Nat
  e : Int
def setGo (F : Nat) (s : List UInt8) (r : RE) (grp : Nat) (i : Nat) : Option MR :=
  if costL [r] + 1 ≤ 131072 then
    match findM s (makeM [r]) (s.length + 1 - i) i 0 with
    | none => none
    | some (none, st) => some ⟨[], false, st, 0⟩
    | some (some (a, b), st) =>
      match walkM s F (.one r) a b ⟨(List.replicate (grp + 1) (-1, -1)).set 0 ((a : Int), (b : Int)), st⟩ with
      | none => none
      | some z => some ⟨z.spans, true, z.steps, 0⟩
  else none
def setM (F : Nat) (t s : List UInt8) (a : Int) : Option MR :=
  if (parseM t).e ≠ 0 then some ⟨[], false, 0, (parseM t).e⟩
  else if (measM (parseM t).tree).back = true then some ⟨[], false, 0, 11⟩
  else if 1024 < s.length then some ⟨[], false, 0, 15⟩
  else if a < 0 ∨ (s.length : Int) < a then some ⟨[], false, 0, 1⟩
  else if (measM (parseM t).tree).grp < 0 ∨ 9 < (measM (parseM t).tree).grp then none
  else setGo F s (parseM t).tree (measM (parseM t).tree).grp.toNat a.toNat
end Go.Proofs.YthcbjbkheodejaaGreat
namespace Go.Proofs.YthcbjbkheodejaaGreat
open Go Go.RowKit Sl
set_option maxRecDepth 100000
set_option maxHeartbeats 8000000
attribute [local irreducible] ES EL PX wps
def spC (p : Spn) : List Value := [Iv p.1, Iv p.2]
def spsC (l : List Spn) : List Value := l.flatMap spC
theorem spsC_len : ∀ l : List Spn, (spsC l).length = l.length * 2
  | [] => rfl
  | p :: l => by
    have := spsC_len l
    simp only [spsC, List.flatMap_cons, List.length_append, List.length_cons] at this ⊢
    rw [this]; simp only [spC, List.length_cons, List.length_nil]; omega
theorem spsC_app (l l' : List Spn) : spsC (l ++ l') = spsC l ++ spsC l' := by simp [spsC]
theorem spsC_set (l : List Spn) (n : Nat) (hn : n < l.length) (p : Spn) : putAt (spsC l) (0 + n * 2) (spC p) = spsC (l.set n p) := by
  have e : l = l.take n ++ l[n] :: l.drop (n + 1) := by rw [List.getElem_cons_drop, List.take_append_drop]
  have e2 : l.set n p = l.take n ++ p :: l.drop (n + 1) := by
    rw [List.set_eq_take_append_cons_drop, if_pos hn]
  have hl : (spsC (l.take n)).length = n * 2 := by rw [spsC_len, List.length_take, Nat.min_eq_left (by omega)]
  have e3 : spsC l = spsC (l.take n) ++ (spC l[n] ++ spsC (l.drop (n + 1))) := by
    conv => lhs; rw [e]
    rw [spsC_app]; rfl
  rw [e2, e3, Nat.zero_add]
  unfold putAt
  rw [← hl, List.take_left, List.drop_append, List.drop_of_length_le (by simp [spC]), List.nil_append]
  rw [spsC_app]
  have e4 : (spsC (l.take n)).length + (spC p).length - (spsC (l.take n)).length = (spC l[n]).length := by simp [spC]
  rw [e4, List.drop_left]
  show _ = spsC (l.take n) ++ (spC p ++ spsC (l.drop (n + 1)))
  rw [List.append_assoc]
abbrev PRow (sp : Option Addr) (cap : Nat) (l : List Spn) : HA := HA.row (.slice sp l.length cap) 29 2 l.length (spsC l)
abbrev SH (gs : Nat) (s : List UInt8) (sp : Option Addr) (cap : Nat) (z : SS) : List HA := [WB gs s z.steps [.slice sp z.spans.length cap] 73, PRow sp cap z.spans]
theorem kind_4 {r : RE} (h : r.kind = 4) : ∃ n k, r = .group n k := by cases r <;> first | (simp [RE.kind] at h; done) | exact ⟨_, _, rfl⟩
theorem kind_0 {r : RE} (h : r.kind = 0) : ∃ ks, r = .cat ks := by cases r <;> first | (simp [RE.kind] at h; done) | exact ⟨_, rfl⟩
theorem splits_c1 (gs : Nat) (s : List UInt8) (hs : s.length ≤ 1024) (st0 : Nat) (rest : List Value) (ty : TypeId) (hd tl : List RE) (hdf : ∀ k ∈ hd, k.fine) (tlf : ∀ k ∈ tl, k.fine) (hdl : hd.length ≤ 1024) (tll : tl.length ≤ 1024)
    (n1 n2 : Nat) (hn1 : n1 = hd.length) (hn2 : n2 = tl.length) (had tad : Option Addr) (hcap tcap : Nat) (i j e st : Nat) (hc : cutS s hd tl i j st0 = some (e, st)) (w0 : World) (B : Nat) (T : HA) (hh : RowRd w0 B T had hd) (ht : RowRd w0 B T tad tl) :
    ∃ l, e ≤ s.length ∧ MutAt Tryz.prog 67 #[Pv gs 0, .slice had n1 hcap, .slice tad n2 tcap, Iv (i : Nat), Iv (j : Nat)] [WB gs s st0 rest ty, T] (fun z : Nat × Nat => .slice (some ⟨z.1, 0, none⟩) (l + 1) z.2)
      (fun z => [HA.row (.slice (some ⟨z.1, 0, none⟩) (l + 1) z.2) 3 1 (l + 1) (Iv (e : Nat) :: (splL s hd tl i j st0).tail.map fun z : Nat => Iv (z : Nat)), WB gs s st rest ty, T]) w0 B := by
  subst hn1 hn2
  unfold cutS at hc
  split at hc
  · rename_i hcond
    obtain ⟨c1, c2, c3, c4, c5⟩ := hcond
    have hsp := splits_c gs s hs st0 c1 rest ty hd tl hdf tlf hdl tll c2 c3 had tad hcap tcap i j c4 c5 w0 B T hh ht
    cases hL : splL s hd tl i j st0 with
    | nil => rw [hL] at hc; cases hc
    | cons p l =>
      rw [hL] at hc hsp
      simp only [Option.some.injEq, Prod.mk.injEq] at hc
      obtain ⟨rfl, rfl⟩ := hc
      refine ⟨l.length, ?_, fun R w h => (hsp R w h).mono fun en w' ⟨x, he, hs'⟩ => ?_⟩
      · have hm : p ∈ splL s hd tl i j st0 := by rw [hL]; simp
        have hm2 : p ∈ dnL i (j + 1 - i) := (List.mem_filter.1 hm).1
        have : ∀ n, p ∈ dnL i n → p < i + n := fun n => by
          induction n with
          | zero => intro h; cases h
          | succ n ih =>
            intro h
            rcases List.mem_cons.1 h with h | h
            · omega
            · have := ih h; omega
        have := this _ hm2
        omega
      · obtain ⟨xa, xc⟩ := x
        obtain ⟨g, rfl⟩ := (row_form (hs'.all (IR xa xc (p :: l)) (by simp))).2.2.2.2 (by simp)
        exact ⟨(g, xc), he, hs'⟩
  · cases hc
theorem MutAt.noEmp {X : Type} {P : Program} {f : FuncId} {argv : Array Value} {A : HA} {val : X → Value} {HX : X → List HA} {w0 : World} {B : Nat} (h : MutAt P f argv [A, HA.emp] val (fun x => HX x ++ [HA.emp]) w0 B) : MutAt P f argv [A] val HX w0 B := fun R w hs =>
  (h R w (Sat.perm (H := HA.emp :: A :: R) (Sat.emp hs) (.swap ..))).mono fun en w' ⟨x, he, hs'⟩ => ⟨x, he, by
    have k1 : Sat w0 B (HX x ++ (HA.emp :: R)) w' := by
      have := hs'
      rw [List.append_assoc] at this
      exact this
    exact Sat.dropMid k1⟩
theorem kids_drop {w0 : World} {B : Nat} {ks : List RE} {kg ko : Nat} (h : KidsRd w0 B ks (some ⟨kg, ko, none⟩)) (i : Nat) (l : List RE) (hl : ∀ j k, l[j]? = some k → ks[i + j]? = some k) (T : HA) : RowRd w0 B T (some ⟨kg, ko + i * 9, none⟩) l := fun w H hs j k hj => by
  obtain ⟨g, o, e, hn⟩ := h (i + j) k (hl j k hj)
  cases e
  refine ⟨kg, ko + i * 9, rfl, ?_⟩
  have := NodeRd.sat hn hs
  rw [Nat.add_mul, ← Nat.add_assoc] at this
  exact this
theorem left_fine {lo : Nat} {hi : Int} {k : RE} (h : (RE.rep lo hi k).fine) (t : Nat) : (leftM lo hi k t).fine := by
  obtain ⟨h1, h2, h3, h4, h5⟩ := h
  have hl := least_le lo k
  unfold leftM leftLo
  by_cases hp : 0 ≤ hi
  · have := h4 hp
    rw [if_pos hp]
    exact ⟨by omega, by omega, by omega, fun _ => by omega, h5⟩
  · rw [if_neg hp]
    exact ⟨by omega, by omega, by omega, fun h => by omega, h5⟩
theorem rowRd_one {w0 : World} {B b : Nat} {r : RE} {ad : Option Addr} {cap : Nat} {cs0 : List Value} (h2 : Forest (· < B) w0 r.kids cs0) (h3 : Reads (· < B) w0 ad cs0) (h4 : r.kids.length ≤ cap) :
    RowRd w0 B (HA.row (.slice (some ⟨b, 0, none⟩) 1 1) 46 9 1 (reCells r (.slice ad r.kids.length cap))) (some ⟨b, 0, none⟩) [r] := fun w H hs i k' hi => by
  have hi0 : i = 0 := by
    rcases i with _ | i
    · rfl
    · simp at hi
  subst hi0
  simp only [List.getElem?_cons_zero, Option.some.injEq] at hi
  subst hi
  refine ⟨b, 0, rfl, ?_⟩
  have hrow : w.ownsRow 0 46 9 (.slice (some ⟨b, 0, none⟩) 1 1) 1 (reCells r (.slice ad r.kids.length cap)) := hs.head
  have hlt : b < w.heap.size := (hs.lo b (by rw [fps_cons]; simp [HA.row, Value.ownBlock])).2
  have hB : ∀ g, g < B → w.heap[g]? = w0.heap[g]? := fun g hg => hs.below.block g hg
  refine ⟨ad, cap, cs0, fun _ => ⟨b, 0, rfl, hlt, ?_⟩, ?_, ?_, h4⟩
  · exact row_reads hrow
  · exact (h2.loc (fun g hg => hB g hg)).mono (fun g hg => Nat.lt_of_lt_of_le hg hs.base)
  · exact (h3.loc (fun g hg => hB g hg)).mono (fun g hg => Nat.lt_of_lt_of_le hg hs.base)
theorem rowRd_left {w0 : World} {B b : Nat} {lo : Nat} {hi : Int} {k : RE} {ad : Option Addr} {cap t : Nat} {cs0 : List Value} (h2 : Forest (· < B) w0 [k] cs0) (h3 : Reads (· < B) w0 ad cs0) (h4 : 1 ≤ cap) :
    RowRd w0 B (HA.row (.slice (some ⟨b, 0, none⟩) 1 1) 46 9 1 (reCells (leftM lo hi k t) (.slice ad 1 cap))) (some ⟨b, 0, none⟩) [leftM lo hi k t] := rowRd_one (r := leftM lo hi k t) h2 h3 h4
section walks
variable (w0 : World) (B gs : Nat) (s : List UInt8) (sp : Option Addr) (cap : Nat)
abbrev WkA (f : Nat) : Prop := ∀ r : RE, r.fine → ∀ g off, NodeRd w0 B g off r → ∀ (i j : Nat) (z z' : SS), i ≤ s.length → j ≤ s.length → walkM s f (.one r) i j z = some z' →
  MutAt Tryz.prog 24 #[Pv gs 0, Pv g off, Iv (i : Nat), Iv (j : Nat)] (SH gs s sp cap z) (fun _ : Unit => .tuple #[]) (fun _ => SH gs s sp cap z') w0 B
abbrev WkB (f : Nat) : Prop := ∀ ks : List RE, (∀ k ∈ ks, k.fine) → ks.length ≤ 1024 → ∀ (ad : Option Addr) (kcap : Nat), KidsRd w0 B ks ad → ks.length ≤ kcap → ∀ (i j : Nat) (z z' : SS), i ≤ s.length → j ≤ s.length → walkM s f (.cat ks) i j z = some z' →
  MutAt Tryz.prog 43 #[Pv gs 0, .slice ad ks.length kcap, Iv (i : Nat), Iv (j : Nat)] (SH gs s sp cap z) (fun _ : Unit => .tuple #[]) (fun _ => SH gs s sp cap z') w0 B
abbrev WkC (f : Nat) : Prop := ∀ (lo : Nat) (hi : Int) (k : RE), (RE.rep lo hi k).fine → ∀ g off, NodeRd w0 B g off (.rep lo hi k) → ∀ (i j : Nat) (z z' : SS), i ≤ s.length → j ≤ s.length → walkM s f (.rep lo hi k 0) i j z = some z' →
  MutAt Tryz.prog 44 #[Pv gs 0, Pv g off, Iv (i : Nat), Iv (j : Nat)] (SH gs s sp cap z) (fun _ : Unit => .tuple #[]) (fun _ => SH gs s sp cap z') w0 B
variable {w0 B gs s sp cap}
theorem setWalk_A {N : Nat} (hA : ∀ f, f < N → WkA w0 B gs s sp cap f) (hB : ∀ f, f < N → WkB w0 B gs s sp cap f) (hC : ∀ f, f < N → WkC w0 B gs s sp cap f) : WkA w0 B gs s sp cap N := by
  intro r hf g off hn i j z z' hi hj hz R w h
  replace h : Sat w0 B (WB gs s z.steps [.slice sp z.spans.length cap] 73 :: PRow sp cap z.spans :: R) w := h
  obtain ⟨ad, kcap, hrd, hkids, hkc⟩ := hn.kids2
  have hrd := hrd.rd
  have hkl := fine_len hf
  obtain ⟨n, rfl⟩ : ∃ n, N = n + 1 := by
    cases N with
    | zero => rw [walkM] at hz; cases hz
    | succ n => exact ⟨n, rfl⟩
  refine calls_of_ES TB Tryz.func24 rfl _ Tryz.ntmps24 rfl h ?_; refine .go ?_; (repeat constructor); refine .mv ?_; refine .nc ?_; refine .fa ?_; refine EL.loadOld rfl rfl rfl rfl rfl hrd rfl ?_
  repeat (first | apply EL.nil | apply ES.seq | apply ES.skip)
  refine .go ?_; (repeat constructor); refine .ei ?_; refine .as_ ?_; refine .go ?_; repeat constructor
  refine ES.condD rfl (fun h4 => ?_) (fun h4 => ?_)
  · obtain ⟨gn, k, rfl⟩ := kind_4 (show r.kind = 4 by omega)
    rw [walkM] at hz
    split at hz
    · rename_i hlt
      obtain ⟨g', o', rfl, hkn⟩ := hkids 0 k rfl
      have hrec := hA n (by omega) k hf.2 g' (o' + 0 * 9) hkn i j _ _ hi hj hz
      have hsl := spsC_len z.spans
      obtain ⟨spg, rfl⟩ := (row_form (h.all (PRow sp cap z.spans) (by simp))).2.2.2.2 (by omega)
      refine .g0 ?_; repeat constructor
      refine ES.draw (X := Unit) (fun _ => [(0, Pv gs 0), (1, Pv g off), (2, Iv (i : Nat)), (3, Iv (j : Nat))]) (fun _ => WB gs s z.steps [.slice (some ⟨spg, 0, none⟩) z.spans.length cap] 73 :: HA.row (.slice (some ⟨spg, 0, none⟩) z.spans.length cap) 29 2 z.spans.length (spsC (z.spans.set gn ((i : Int), (j : Int)))) :: R)
        (WB gs s z.steps [.slice (some ⟨spg, 0, none⟩) z.spans.length cap] 73 :: []) mixed (.i (by repeat constructor)) ?_ (fun _ => ?_)
      · refine .tk 0 rfl (RV.move rfl) ?_; refine .tk 1 rfl (RV.nilCheck rfl) ?_; refine .tk 2 rfl (RV.fieldAddr rfl rfl rfl rfl rfl rfl) ?_; refine .tk 3 rfl (RV.loadB rfl rfl rfl (by repeat constructor) rfl) ?_; refine .tk 4 rfl (RV.move rfl) ?_; refine .tk 5 rfl (RV.nilCheck rfl) ?_; refine .tk 6 rfl (RV.fieldAddr rfl rfl rfl rfl rfl rfl) ?_; refine .tk 7 rfl (RV.loadOld rfl rfl rfl hrd rfl) ?_; refine .tk 8 rfl (RV.move rfl) ?_; refine .tk 9 rfl (RV.move rfl) ?_; refine .tk 10 rfl (RV.buildS #[Iv (i : Nat), Iv (j : Nat)] rfl rfl rfl rfl (by kernel_rfl)) ?_; refine .tk 11 rfl (RV.indexAddrL (i := gn) rfl rfl rfl rfl rfl hlt) ?_; refine ED.last 12 rfl (by decide +kernel) (by decide +kernel) (by decide +kernel) ?_
        (refine EL.storeRA (vs := spC ((i : Int), (j : Int))) rfl rfl rfl rfl rfl (by repeat constructor) (by rw [hsl]; show 0 + gn * 2 + 2 ≤ _; omega) (all1 rfl) ?_; refine EL.rowEq (v := .slice (some ⟨spg, 0, none⟩) z.spans.length cap) (by repeat constructor) (spsC_set z.spans gn hlt ((i : Int), (j : Int))) ?_)
        refine EL.endQ ?_
        exact .cy ()
      refine ES.imp (H' := SH gs s (some ⟨spg, 0, none⟩) cap { z with spans := z.spans.set gn ((i : Int), (j : Int)) } ++ R) (fun w hs => ?_) ?_
      · unfold SH PRow
        dsimp only
        rw [List.length_set]
        exact hs.ent (.i (by repeat constructor))
      refine .go ?_; (repeat constructor); refine .mv ?_; refine .mv ?_; refine .nc ?_; refine .fa ?_; refine EL.loadOld rfl rfl rfl rfl rfl hrd rfl ?_; refine EL.indexAddrL (i := 0) rfl rfl rfl rfl rfl rfl rfl (by simp [RE.kids]) ?_; refine .mv ?_; refine .mv ?_; (refine EL.callMw rfl rfl rfl ent24 rfl hrec (by repeat constructor) ?_; intro x); refine .go ?_; repeat constructor
      exact PX.end rfl Tryz.results24 .nil (fun w hs => ⟨(), rfl, hs.ent (.i (by repeat constructor))⟩)
    · cases hz
  refine .go ?_; (repeat constructor); refine .ei ?_; refine .as_ ?_; refine .go ?_; repeat constructor
  refine ES.condD rfl (fun h0 => ?_) (fun h0 => ?_)
  · obtain ⟨ks, rfl⟩ := kind_0 (show r.kind = 0 by omega)
    rw [walkM] at hz
    have hrec := hB n (by omega) ks ((fineL_iff _).1 hf.2) hf.1 ad kcap (fun i k hi => hkids i k hi) hkc i j _ _ hi hj hz
    refine .go ?_; (repeat constructor); refine .mv ?_; refine .mv ?_; refine .nc ?_; refine .fa ?_; refine EL.loadOld rfl rfl rfl rfl rfl hrd rfl ?_; refine .mv ?_; refine .mv ?_; (refine EL.callMw rfl rfl rfl ent43 rfl hrec (by repeat constructor) ?_; intro x); refine .go ?_; repeat constructor
    exact PX.end rfl Tryz.results24 .nil (fun w hs => ⟨(), rfl, hs.ent (.i (by repeat constructor))⟩)
  refine .go ?_; (repeat constructor); refine .ei ?_; refine .as_ ?_; refine .go ?_; repeat constructor
  refine ES.condD rfl (fun h5 => ?_) (fun h5 => ?_)
  · obtain ⟨lo, hi', k, rfl⟩ := kind_5 (show r.kind = 5 by omega)
    rw [walkM] at hz
    have hrec := hC n (by omega) lo hi' k hf g off hn i j _ _ hi hj hz
    refine .go ?_; (repeat constructor); refine .mv ?_; refine .mv ?_; refine .mv ?_; refine .mv ?_; (refine EL.callMw rfl rfl rfl ent44 rfl hrec (by repeat constructor) ?_; intro x); refine .go ?_; repeat constructor
    exact PX.end rfl Tryz.results24 .nil (fun w hs => ⟨(), rfl, hs.ent (.i (by repeat constructor))⟩)
  · have hz2 : z = z' := by
      cases r <;> first | (simp [RE.kind] at h4 h0 h5; done) | (simp only [walkM, Option.some.injEq] at hz; exact hz)
    subst hz2
    refine .go ?_; repeat constructor
    exact PX.end rfl Tryz.results24 .nil (fun w hs => ⟨(), rfl, hs.ent (.i (by repeat constructor))⟩)
structure WSt8 where
  k : Nat
  f : Nat
  i : Nat
  z : SS
theorem setWalk_B {N : Nat} (hs : s.length ≤ 1024) (hA : ∀ f, f < N → WkA w0 B gs s sp cap f) : WkB w0 B gs s sp cap N := by
  intro ks hf hkl ad kcap hkids hkc i j z z' hi hj hz R w h
  replace h : Sat w0 B (WB gs s z.steps [.slice sp z.spans.length cap] 73 :: PRow sp cap z.spans :: R) w := h
  refine calls_of_ES TB Tryz.func43 rfl _ Tryz.ntmps43 rfl h ?_; refine .go ?_; (repeat constructor); refine .mv ?_; refine .lL ?_; refine .mv ?_; refine .go ?_; repeat constructor
  refine ES.loop (σ := WSt8) (fun y => y.k ≤ ks.length ∧ y.f ≤ N ∧ y.i ≤ s.length ∧ ((y.k < ks.length ∧ walkM s y.f (.cat (ks.drop y.k)) y.i j y.z = some z') ∨ (y.k = ks.length ∧ y.z = z')))
    (fun y => [(0, Pv gs 0), (1, .slice ad ks.length kcap), (2, Iv (y.i : Nat)), (3, Iv (j : Nat)), (11, Iv (ks.length : Nat)), (12, Iv (y.k : Nat))])
    (fun y => WB gs s y.z.steps [.slice sp y.z.spans.length cap] 73 :: PRow sp cap y.z.spans :: R) (fun y => ks.length - y.k) ⟨0, N, i, z⟩
    ⟨Nat.zero_le _, Nat.le_refl _, hi, by
      rcases Nat.eq_zero_or_pos ks.length with h0 | h0
      · right
        have hnil := List.eq_nil_of_length_eq_zero h0
        subst hnil
        refine ⟨rfl, ?_⟩
        cases N with
        | zero => rw [walkM] at hz; cases hz
        | succ n => rw [walkM] at hz; exact Option.some.inj hz
      · left; exact ⟨h0, by rw [List.drop_zero]; exact hz⟩⟩ ⟨rfl, rfl, rfl, rfl, rfl, rfl, trivial⟩ (.i (by repeat constructor)) ?_
  rintro ⟨k, f, ic, y⟩ ⟨yk, yf, yi, hy⟩
  dsimp only at yk yf yi hy ⊢
  refine .go ?_; (repeat constructor); refine .ls ?_; refine .go ?_; repeat constructor
  refine ES.condD rfl (fun hlt => ?_) (fun hge => ?_)
  rotate_left
  · rcases hy with ⟨h1, _⟩ | ⟨_, rfl⟩
    · omega
    refine .go ?_; repeat constructor
    exact PX.end rfl Tryz.results43 .nil (fun w hs => ⟨(), rfl, hs.ent (.i (by repeat constructor))⟩)
  have hlt' : k < ks.length := by omega
  obtain ⟨x, hkx⟩ : ∃ x, ks[k]? = some x := ⟨_, List.getElem?_eq_getElem hlt'⟩
  obtain ⟨kg, ko, rfl, hkn⟩ := hkids k x hkx
  have hxf := hf x (List.mem_of_getElem? hkx)
  have hrun : walkM s f (.cat (ks.drop k)) ic j y = some z' := by
    rcases hy with ⟨_, h1⟩ | ⟨h1, _⟩
    · exact h1
    · omega
  rw [List.drop_eq_getElem_cons hlt', show ks[k] = x from (List.getElem?_eq_some_iff.1 hkx).2] at hrun
  obtain ⟨n, rfl⟩ : ∃ n, f = n + 1 := by
    cases f with
    | zero => rw [walkM] at hrun; cases hrun
    | succ n => exact ⟨n, rfl⟩
  refine .go ?_; (repeat constructor); refine .mv ?_; refine .as_ ?_; refine .go ?_; (repeat constructor); refine .mv ?_; refine .as_ ?_; refine .go ?_; (repeat constructor); refine .mv ?_; refine .a1 ?_; refine .mv ?_; refine .lL ?_; refine .ls ?_; refine .go ?_; repeat constructor
  refine ES.condD rfl (fun hmore => ?_) (fun hlast => ?_)
  · have hm : k + 1 < ks.length := by omega
    obtain ⟨x2, hkx2⟩ : ∃ x2, ks[k + 1]? = some x2 := ⟨_, List.getElem?_eq_getElem hm⟩
    obtain ⟨tl, htl⟩ : ∃ tl, tl = ks.drop (k + 1) := ⟨_, rfl⟩
    have htl2 : tl = x2 :: ks.drop (k + 2) := by rw [htl, List.drop_eq_getElem_cons hm, show ks[k + 1] = x2 from (List.getElem?_eq_some_iff.1 hkx2).2]
    rw [← htl, htl2, walkM] at hrun
    cases hc : cutS s [x] (x2 :: ks.drop (k + 2)) ic j y.steps with
    | none => rw [hc] at hrun; cases hrun
    | some es =>
      obtain ⟨e, st⟩ := es
      rw [hc] at hrun
      simp only at hrun
      cases hw : walkM s n (.one x) ic e { y with steps := st } with
      | none => rw [hw] at hrun; cases hrun
      | some y2 =>
        rw [hw] at hrun
        simp only at hrun
        rw [← htl2] at hc hrun
        have hll : ks.length - (k + 1) = tl.length := by rw [htl, List.length_drop]
        have hin : ∀ a, a ∈ tl → a ∈ ks := fun a ha => by rw [htl] at ha; exact List.mem_of_mem_drop ha
        obtain ⟨l, hle, hsp⟩ := splits_c1 gs s hs y.steps [.slice sp y.spans.length cap] 73 [x] tl (fun a ha => by rw [List.mem_singleton] at ha; subst ha; exact hxf) (fun a ha => hf a (hin a ha)) (by simp) (by omega) (k + 1 - k) (ks.length - (k + 1)) (by simp) hll
          (some ⟨kg, ko + k * 9, none⟩) (some ⟨kg, ko + (k + 1) * 9, none⟩) (kcap - k) (kcap - (k + 1)) ic j e st hc w0 B HA.emp
          (kids_drop hkids k [x] (fun a b hab => by
            rcases a with _ | a
            · simp only [List.getElem?_cons_zero, Option.some.injEq] at hab; subst hab; exact hkx
            · simp at hab) HA.emp)
          (kids_drop hkids (k + 1) tl (fun a b hab => by rw [htl, List.getElem?_drop] at hab; exact hab) HA.emp)
        have hsp2 := MutAt.noEmp (HX := fun z : Nat × Nat => [HA.row (.slice (some ⟨z.1, 0, none⟩) (l + 1) z.2) 3 1 (l + 1) (Iv (e : Nat) :: (splL s [x] tl ic j y.steps).tail.map fun z : Nat => Iv (z : Nat)), WB gs s st [.slice sp y.spans.length cap] 73]) hsp
        refine .g0 ?_; repeat constructor
        refine ES.draw (X := Unit) (fun _ => [(0, Pv gs 0), (1, .slice (some ⟨kg, ko, none⟩) ks.length kcap), (2, Iv (ic : Nat)), (3, Iv (j : Nat)), (8, Iv (k : Nat)), (9, Iv (e : Nat)), (11, Iv (ks.length : Nat)), (12, Iv (k : Nat))])
          (fun _ => WB gs s st [.slice sp y.spans.length cap] 73 :: PRow sp cap y.spans :: R) [] mixed (.i (by repeat constructor)) ?_ (fun _ => ?_)
        · refine .tk 0 rfl (RV.move rfl) ?_; refine .tk 1 rfl (RV.nilCheck rfl) ?_; refine .tk 2 rfl (RV.fieldAddr rfl rfl rfl rfl rfl rfl) ?_; refine .tk 3 rfl (RV.move rfl) ?_; refine .tk 4 rfl (RV.move rfl) ?_; refine .tk 5 rfl (RV.move rfl) ?_; refine .tk 6 rfl (RV.add1 rfl rfl (by omega)) ?_; refine .tk 7 rfl (RV.sliceLHk (lo := k) (hi := k + 1) rfl rfl rfl rfl rfl rfl (by omega) (by omega) (by omega)) ?_; refine .tk 8 rfl (RV.move rfl) ?_; refine .tk 9 rfl (RV.move rfl) ?_; refine .tk 10 rfl (RV.add1 rfl rfl (by omega)) ?_; refine .tk 11 rfl (RV.sliceLk (lo := k + 1) rfl rfl rfl rfl rfl (by omega) (by omega) (by omega)) ?_; refine .tk 12 rfl (RV.move rfl) ?_; refine .tk 13 rfl (RV.move rfl) ?_; refine .ld 14 ?_; (refine EL.callMw rfl rfl rfl ent67 rfl hsp2 (by repeat constructor) ?_; intro x); refine .nx ?_; refine .tk 15 rfl (RV.indexAddrL1 (i := 0) rfl rfl rfl rfl rfl rfl (by omega)) ?_; refine .ld 16 ?_
          (refine EL.loadR rfl rfl rfl rfl rfl (by repeat constructor) rfl ?_)
          refine .nx ?_; refine .tk 17 rfl (RV.assign rfl) ?_; refine .dn ?_
          exact .cy ()
        have hrec := hA n (by omega) x hxf kg (ko + k * 9) hkn ic e _ _ yi hle hw
        refine .go ?_; (repeat constructor); refine .mv ?_; refine .mv ?_; refine .mv ?_; refine EL.indexAddrL (i := k) rfl rfl rfl rfl rfl rfl rfl hlt' ?_; refine .mv ?_; refine .mv ?_; (refine EL.callMw rfl rfl rfl ent24 rfl hrec (by repeat constructor) ?_; intro x); refine .go ?_; (repeat constructor); refine .go ?_; (repeat constructor); refine .mv ?_; refine .as_ ?_; refine .go ?_; (repeat constructor); refine .a1 ?_; refine .mv ?_; refine .go ?_; repeat constructor
        exact .ly ⟨k + 1, n, e, y2⟩ ⟨hlt', by dsimp only; omega, hle, .inl ⟨hm, by dsimp only; rw [← htl]; exact hrun⟩⟩ (by simp only; omega)
  · have hl : k + 1 = ks.length := by omega
    have hnil : ks.drop (k + 1) = [] := List.drop_of_length_le (by omega)
    rw [hnil, walkM] at hrun
    have hrec := hA n (by omega) x hxf kg (ko + k * 9) hkn ic j _ _ yi hj hrun
    refine .go ?_; (repeat constructor); refine .go ?_; (repeat constructor); refine .mv ?_; refine .mv ?_; refine .mv ?_; refine EL.indexAddrL (i := k) rfl rfl rfl rfl rfl rfl rfl hlt' ?_; refine .mv ?_; refine .mv ?_; (refine EL.callMw rfl rfl rfl ent24 rfl hrec (by repeat constructor) ?_; intro x); refine .go ?_; (repeat constructor); refine .go ?_; (repeat constructor); refine .mv ?_; refine .as_ ?_; refine .go ?_; (repeat constructor); refine .a1 ?_; refine .mv ?_; refine .go ?_; repeat constructor
    exact .ly ⟨k + 1, n, j, z'⟩ ⟨hlt', by dsimp only; omega, hj, .inr ⟨hl, rfl⟩⟩ (by simp only; omega)
theorem setWalk_C {N : Nat} (hs : s.length ≤ 1024) (hA : ∀ f, f < N → WkA w0 B gs s sp cap f) : WkC w0 B gs s sp cap N := by
  intro lo hi k hf g off hn i j z z' hi' hj hz R w h
  replace h : Sat w0 B (WB gs s z.steps [.slice sp z.spans.length cap] 73 :: PRow sp cap z.spans :: R) w := h
  have hkf := hf.2.2.2.2
  have hn' := hn
  obtain ⟨ad, kcap, cs0, q1, q2, q3, q4⟩ := hn'
  have hrd := q1.rd
  obtain ⟨g', o', rfl, _⟩ := q3 (fun e => by have := q2.len; rw [e] at this; simp [RE.kids] at this)
  have hkn : NodeRd w0 B g' (o' + 0 * 9) k := Node.of_row q2 q3 (i := 0) rfl
  have hkids : KidsRd w0 B [k] (some ⟨g', o', none⟩) := fun a b hab => by
    rcases a with _ | a
    · simp only [List.getElem?_cons_zero, Option.some.injEq] at hab; subst hab; exact ⟨g', o', rfl, hkn⟩
    · simp at hab
  have hle := least_le lo k
  have hlo := hf.1
  refine calls_of_ES TB Tryz.func44 rfl _ Tryz.ntmps44 rfl h ?_; refine .go ?_; (repeat constructor); refine .as_ ?_; refine .go ?_; repeat constructor
  refine ES.loop (σ := WSt8) (fun y => y.f ≤ N ∧ y.i ≤ s.length ∧ walkM s y.f (.rep lo hi k y.k) y.i j y.z = some z')
    (fun y => [(0, Pv gs 0), (1, Pv g off), (2, Iv (y.i : Nat)), (3, Iv (j : Nat)), (8, Iv (y.k : Nat))])
    (fun y => WB gs s y.z.steps [.slice sp y.z.spans.length cap] 73 :: PRow sp cap y.z.spans :: R) (fun y => y.f) ⟨0, N, i, z⟩
    ⟨Nat.le_refl _, hi', hz⟩ ⟨rfl, rfl, rfl, rfl, rfl, trivial⟩ (.i (by repeat constructor)) ?_
  rintro ⟨t, f, ic, y⟩ ⟨yf, yi, hrun⟩
  dsimp only at yf yi hrun ⊢
  obtain ⟨n, rfl⟩ : ∃ n, f = n + 1 := by
    cases f with
    | zero => rw [walkM] at hrun; cases hrun
    | succ n => exact ⟨n, rfl⟩
  rw [walkM] at hrun
  refine .go ?_; (repeat constructor); refine .mv ?_; refine .mv ?_; refine .ei ?_; refine .go ?_; repeat constructor
  refine ES.condD rfl (fun heq => ?_) (fun hne => ?_)
  · have heq' : ic = j := by omega
    rw [if_pos heq'] at hrun
    refine .go ?_; (repeat constructor); refine .mv ?_; refine .mv ?_; refine EL.callPw rfl rfl rfl ent68 rfl (fun w hs => least_c lo hi k hf g off w (NodeRd.sat hn hs)) ?_; refine .ls ?_; refine .go ?_; repeat constructor
    refine ES.condD rfl (fun hless => ?_) (fun hmore => ?_)
    · rw [if_pos (by omega)] at hrun
      have hrec := hA n (by omega) k hkf g' (o' + 0 * 9) hkn j j _ _ hj hj hrun
      refine .go ?_; (repeat constructor); refine .mv ?_; refine .mv ?_; refine .nc ?_; refine .fa ?_; refine EL.loadOld rfl rfl rfl rfl rfl hrd rfl ?_; refine EL.indexAddrL (i := 0) rfl rfl rfl rfl rfl rfl rfl (by simp [RE.kids]) ?_; refine .mv ?_; refine .mv ?_; (refine EL.callMw rfl rfl rfl ent24 rfl hrec (by repeat constructor) ?_; intro x); refine .go ?_; repeat constructor
      exact PX.ret rfl Tryz.results44 .nil (fun w hs => ⟨(), rfl, hs.ent (.i (by repeat constructor))⟩)
    · rw [if_neg (by omega)] at hrun
      cases hrun
      refine .go ?_; repeat constructor
      exact PX.ret rfl Tryz.results44 .nil (fun w hs => ⟨(), rfl, hs.ent (.i (by repeat constructor))⟩)
  have hne' : ¬ ic = j := by omega
  rw [if_neg hne'] at hrun
  split at hrun
  · cases hrun
  rename_i hbig
  cases hc : cutS s [k] [leftM lo hi k (t + 1)] ic j y.steps with
  | none => rw [hc] at hrun; cases hrun
  | some es =>
    obtain ⟨e, st⟩ := es
    rw [hc] at hrun
    simp only at hrun
    cases hw : walkM s n (.one k) ic e { y with steps := st } with
    | none => rw [hw] at hrun; cases hrun
    | some y2 =>
      rw [hw] at hrun
      simp only at hrun
      have hsp := fun b => splits_c1 gs s hs y.steps [.slice sp y.spans.length cap] 73 [k] [leftM lo hi k (t + 1)] (fun a ha => by rw [List.mem_singleton] at ha; subst ha; exact hkf) (fun a ha => by rw [List.mem_singleton] at ha; subst ha; exact left_fine hf _) (by simp) (by simp) 1 1 rfl rfl
        (some ⟨g', o', none⟩) (some ⟨b, 0, none⟩) kcap 1 ic j e st hc w0 B (HA.row (.slice (some ⟨b, 0, none⟩) 1 1) 46 9 1 (reCells (leftM lo hi k (t + 1)) (.slice (some ⟨g', o', none⟩) 1 kcap)))
        (fun w' H' hs' a b hab => by
          obtain ⟨q, o, e1, e2⟩ := hkids a b hab
          exact ⟨q, o, e1, NodeRd.sat e2 hs'⟩)
        (rowRd_left q2 q3 q4)
      obtain ⟨l0, hle0, hsp0⟩ := hsp 0
      have hsp1 : ∃ l : Nat → Nat, ∀ b, MutAt Tryz.prog 67 #[Pv gs 0, .slice (some ⟨g', o', none⟩) 1 kcap, .slice (some ⟨b, 0, none⟩) 1 1, Iv (ic : Nat), Iv (j : Nat)] [WB gs s y.steps [.slice sp y.spans.length cap] 73, HA.row (.slice (some ⟨b, 0, none⟩) 1 1) 46 9 1 (reCells (leftM lo hi k (t + 1)) (.slice (some ⟨g', o', none⟩) 1 kcap))] (fun z : Nat × Nat => .slice (some ⟨z.1, 0, none⟩) (l b + 1) z.2)
          (fun z => [HA.row (.slice (some ⟨z.1, 0, none⟩) (l b + 1) z.2) 3 1 (l b + 1) (Iv (e : Nat) :: (splL s [k] [leftM lo hi k (t + 1)] ic j y.steps).tail.map fun z : Nat => Iv (z : Nat)), WB gs s st [.slice sp y.spans.length cap] 73, HA.row (.slice (some ⟨b, 0, none⟩) 1 1) 46 9 1 (reCells (leftM lo hi k (t + 1)) (.slice (some ⟨g', o', none⟩) 1 kcap))]) w0 B :=
        ⟨fun b => (hsp b).choose, fun b => (hsp b).choose_spec.2⟩
      obtain ⟨l, hsp1⟩ := hsp1
      refine .g0 ?_; repeat constructor
      refine ES.draw (X := Unit) (fun _ => [(0, Pv gs 0), (1, Pv g off), (2, Iv (ic : Nat)), (3, Iv (j : Nat)), (8, Iv (t : Nat)), (9, Iv (e : Nat))])
        (fun _ => WB gs s st [.slice sp y.spans.length cap] 73 :: PRow sp cap y.spans :: R) [] mixed (.i (by repeat constructor)) ?_ (fun _ => ?_)
      · refine .tk 0 rfl (RV.move rfl) ?_; refine .tk 1 rfl (RV.nilCheck rfl) ?_; refine .tk 2 rfl (RV.fieldAddr rfl rfl rfl rfl rfl rfl) ?_; refine .tk 3 rfl (RV.move rfl) ?_; refine .tk 4 rfl (RV.nilCheck rfl) ?_; refine .tk 5 rfl (RV.fieldAddr rfl rfl rfl rfl rfl rfl) ?_; refine .tk 6 rfl (RV.loadOld rfl rfl rfl hrd rfl) ?_; refine .tk 7 rfl (RV.move rfl) ?_; refine .tk 8 rfl (RV.move rfl) ?_; refine .tk 9 rfl (RV.add1 rfl rfl (by omega)) ?_; refine .tk 12 rfl (RV.move rfl) ?_; refine .tk 13 rfl (RV.move rfl) ?_; refine .ld 10 ?_
        (refine EL.callPw rfl rfl rfl ent69 rfl (fun w hs => left_c lo hi k hf (t + 1) (by omega) g off (some ⟨g', o', none⟩) kcap w (NodeRd.sat hn hs) (Rd.sat hrd hs)) ?_)
        refine .nx ?_; refine .ld 11 ?_; (refine .b1 ?_; intro b39); refine .nx ?_; refine .ld 14 ?_; (refine EL.callMw rfl rfl rfl ent67 rfl (hsp1 b39) (by repeat constructor) ?_; intro x); refine .nx ?_; refine .tk 15 rfl (RV.indexAddrL1 (i := 0) rfl rfl rfl rfl rfl rfl (by omega)) ?_; refine .ld 16 ?_
        (refine EL.loadR rfl rfl rfl rfl rfl (by repeat constructor) rfl ?_)
        refine .nx ?_; refine .tk 17 rfl (RV.assign rfl) ?_; refine .dn ?_
        exact .cy ()
      have hrec := hA n (by omega) k hkf g' (o' + 0 * 9) hkn ic e _ _ yi hle0 hw
      refine .go ?_; (repeat constructor); refine .mv ?_; refine .mv ?_; refine .nc ?_; refine .fa ?_; refine EL.loadOld rfl rfl rfl rfl rfl hrd rfl ?_; refine EL.indexAddrL (i := 0) rfl rfl rfl rfl rfl rfl rfl (by simp [RE.kids]) ?_; refine .mv ?_; refine .mv ?_; (refine EL.callMw rfl rfl rfl ent24 rfl hrec (by repeat constructor) ?_; intro x); refine .go ?_; (repeat constructor); refine .go ?_; (repeat constructor); refine .mv ?_; refine .as_ ?_; refine .go ?_; (repeat constructor); refine .mv ?_; refine .a1 ?_; refine .as_ ?_; refine .go ?_; repeat constructor
      exact .ly ⟨t + 1, n, e, y2⟩ ⟨by dsimp only; omega, hle0, hrun⟩ (by simp only; omega)
theorem setWalk_all (hs : s.length ≤ 1024) : ∀ N : Nat, ∀ f, f < N → WkA w0 B gs s sp cap f ∧ WkB w0 B gs s sp cap f ∧ WkC w0 B gs s sp cap f
  | 0, f, h => absurd h (by omega)
  | N + 1, f, h => by
    have ih := setWalk_all hs N
    have hA : ∀ f', f' < f → WkA w0 B gs s sp cap f' := fun f' hf' => (ih f' (by omega)).1
    exact ⟨setWalk_A hA (fun f' hf' => (ih f' (by omega)).2.1) (fun f' hf' => (ih f' (by omega)).2.2), setWalk_B hs hA, setWalk_C hs hA⟩
theorem setWalk_c (hs : s.length ≤ 1024) (f : Nat) : WkA w0 B gs s sp cap f := (setWalk_all hs (f + 1) f (by omega)).1
end walks
end Go.Proofs.YthcbjbkheodejaaGreat
namespace Go.Proofs.YthcbjbkheodejaaGreat
open Go Go.RowKit Sl
set_option maxRecDepth 100000
set_option maxHeartbeats 8000000
attribute [local irreducible] ES EL PX wps
def spanO (o : Option (Nat × Nat)) : Spn := match o with
  | some (a, b) => ((a : Int), (b : Int))
  | none => (0, 0)
structure FSt where
  n : Nat
  i : Nat
  st : Nat
theorem setFind_c (gs : Nat) (s : List UInt8) (hs : s.length ≤ 1024) (ga : Nat) (A : AM × Nat) (x : AX A.1) (hr : A.1.Room 0) (he : A.2 < A.1.out.length) (i0 : Nat) (hi0 : i0 ≤ s.length) (st0 : Nat) (rest : List Value) (o : Option (Nat × Nat)) (st : Nat) (hfm : findM s A (s.length + 1 - i0) i0 st0 = some (o, st)) :
    Mut Tryz.prog 22 #[Pv gs 0, Pv ga 0, Iv (i0 : Nat)] [WB gs s st0 rest 73, AP ga x.1 A.2] (fun _ : Unit => .tuple #[.agg (spC (spanO o)).toArray, .bool o.isSome]) (fun _ => [WB gs s st rest 73]) := by
  intro w0 B R w h
  replace h : Sat w0 B (WB gs s st0 rest 73 :: AP ga x.1 A.2 :: R) w := h
  refine calls_of_ES TB Tryz.func22 rfl _ Tryz.ntmps22 rfl h ?_; refine .gr ?_; (repeat constructor); (refine .al ?_; intro g6); refine .as_ ?_; refine .gr ?_; (repeat constructor); refine .gr ?_; (repeat constructor); refine .mv ?_; refine .as_ ?_; refine .gr ?_; repeat constructor
  refine ES.loop (σ := FSt) (fun y => y.n + y.i = s.length + 1 ∧ findM s A y.n y.i y.st = some (o, st)) (fun y => [(0, Pv gs 0), (1, Pv ga 0), (6, Pv g6 0), (8, Iv (y.i : Nat))])
    (fun y => WB gs s y.st rest 73 :: AP ga x.1 A.2 :: HA.blk g6 (.cells #[Iv 0, Iv 0] 29) :: R) (fun y => y.n) ⟨s.length + 1 - i0, i0, st0⟩ ⟨by dsimp only; omega, hfm⟩ ⟨rfl, rfl, rfl, rfl, trivial⟩ (.i (by repeat constructor)) ?_
  rintro ⟨n, i, sc⟩ ⟨hn, hgo⟩
  dsimp only at hn hgo ⊢
  refine .gr ?_; (repeat constructor); refine .mv ?_; refine .mv ?_; refine .nc ?_; refine .fa ?_; refine .fa ?_; refine .lb ?_; refine .lS ?_; refine .lq ?_; refine .gr ?_; repeat constructor
  refine ES.condD rfl (fun hle => ?_) (fun hgt => ?_)
  rotate_left
  · obtain rfl : n = 0 := by omega
    rw [findM] at hgo
    simp only [Option.some.injEq, Prod.mk.injEq] at hgo
    obtain ⟨rfl, rfl⟩ := hgo
    refine .gr ?_; (repeat constructor); refine EL.buildZ rfl rfl rfl rfl rfl ?_; refine .sa ?_; refine .as_ ?_; refine .gr ?_; repeat constructor
    exact PX.ret rfl Tryz.results22 (.cons (.blkA rfl rfl rfl (by repeat constructor) rfl) (.cons (.tmp rfl) .nil)) (fun w hs => ⟨(), rfl, hs.ent (.i (by repeat constructor))⟩)
  obtain ⟨n, rfl⟩ : ∃ n', n = n' + 1 := ⟨n - 1, by omega⟩
  rw [findM] at hgo
  split at hgo
  rotate_left
  · cases hgo
  rename_i hsb
  have hi : i ≤ s.length := by omega
  have hec := ends_c gs s hs sc (by omega) rest 73 ga A x hr he i hi
  have hml : (endsM A s i sc).marks.length = s.length + 1 := flood_len hr.eo s (by show 0 < _; omega) hi _ _ _
  generalize endsM A s i sc = FE at hgo hec hml
  refine .gr ?_; (repeat constructor); refine .mv ?_; refine .nc ?_; refine .fa ?_; refine .mv ?_; refine .mv ?_; (refine EL.callM rfl rfl rfl ent40 rfl hec (by repeat constructor) ?_; intro ge); refine .as_ ?_; refine .gr ?_; (repeat constructor); refine .mv ?_; refine .nc ?_; refine .fa ?_; refine .fa ?_; refine .lb ?_; refine .lS ?_; refine .as_ ?_; refine .gr ?_; repeat constructor
  refine ES.loop (σ := Nat) (fun m => m ≤ s.length + 1 - i ∧ lastT FE.marks i m = lastT FE.marks i (s.length + 1 - i)) (fun m => [(0, Pv gs 0), (1, Pv ga 0), (6, Pv g6 0), (8, Iv (i : Nat)), (9, .slice (some ⟨ge, 0, none⟩) (s.length + 1) (s.length + 1)), (10, Iv ((i : Int) + (m : Int) - 1))])
    (fun m => WB gs s FE.steps rest 73 :: BR ge (s.length + 1) FE.marks :: AP ga x.1 A.2 :: HA.blk g6 (.cells #[Iv 0, Iv 0] 29) :: R) (fun m => m) (s.length + 1 - i) ⟨Nat.le_refl _, rfl⟩ ⟨rfl, rfl, rfl, rfl, rfl, getA rfl (congrArg Iv (by omega)), trivial⟩ (.i (by repeat constructor)) ?_
  rintro m ⟨hm, hlt⟩
  refine .gr ?_; (repeat constructor); refine .mv ?_; refine .mv ?_; refine .ls ?_; refine .gr ?_; repeat constructor
  refine ES.condD rfl (fun hz => ?_) (fun hnz => ?_)
  · obtain rfl : m = 0 := by omega
    have hnone : lastT FE.marks i (s.length + 1 - i) = none := by rw [← hlt]; rfl
    rw [hnone] at hgo
    refine .gr ?_; (repeat constructor); refine .gr ?_; (repeat constructor); refine .mv ?_; refine .a1 ?_; refine .as_ ?_; refine .gr ?_; repeat constructor
    exact .ly ⟨n, i + 1, FE.steps⟩ ⟨by dsimp only; omega, hgo⟩ (by simp only; omega)
  obtain ⟨m, rfl⟩ : ∃ m', m = m' + 1 := ⟨m - 1, by omega⟩
  have e : (i : Int) + ((m + 1 : Nat) : Int) - 1 = ((i + m : Nat) : Int) := by omega
  rw [e]
  have hl1 : lastT FE.marks i (m + 1) = if FE.marks.getD (i + m) false = true then some (i + m) else lastT FE.marks i m := by
    unfold lastT
    rw [dnL, List.find?_cons]
    cases FE.marks.getD (i + m) false <;> rfl
  refine .gr ?_; (repeat constructor); refine .mv ?_; refine .mv ?_; refine .i1 ?_
  refine EL.ofRV (RV.loadRm (l := FE.marks) Value.bool false rfl rfl rfl (by repeat constructor) (by rw [hml]; omega)) rfl rfl rfl (by intro c h; cases h) ?_
  refine .gr ?_; repeat constructor
  refine ES.cond rfl (fun hf => ?_) (fun hf => ?_)
  · rw [← hlt, hl1, if_pos hf] at hgo
    simp only [Option.some.injEq, Prod.mk.injEq] at hgo
    obtain ⟨rfl, rfl⟩ := hgo
    refine .gr ?_; (repeat constructor); refine .mv ?_; refine .mv ?_
    (apply EL.build2; exact rfl; exact rfl; exact rfl; exact rfl; exact rfl; exact rfl; exact rfl; exact rfl; exact rfl; exact rfl)
    refine .sa ?_; refine .as_ ?_; refine .gr ?_; repeat constructor
    exact PX.ret rfl Tryz.results22 (.cons (.blkA rfl rfl rfl (by repeat constructor) rfl) (.cons (.tmp rfl) .nil)) (fun w hs => ⟨(), rfl, hs.ent (.i (by repeat constructor))⟩)
  · rw [if_neg (by rw [hf]; simp)] at hl1
    refine .gr ?_; (repeat constructor); refine .gr ?_; (repeat constructor); refine .mv ?_; refine EL.sub_ ((i : Int) + (m : Int) - 1) rfl rfl rfl rfl ((wrap_i64 _ (by omega) (by omega)).trans (by omega)) ?_; refine .as_ ?_; refine .gr ?_; repeat constructor
    exact .ly m ⟨by omega, by rw [← hl1]; exact hlt⟩ (by omega)
theorem rd_blk {w0 w : World} {B g e : Nat} {H : List HA} {cs : List Value} (hs : Sat w0 B H w) (hm : Mem H (HA.blk g (.cells cs.toArray e))) : Rd w w.heap.size (some ⟨g, 0, none⟩) cs := fun _ => by
  have hb : w.heap[g]? = some (.cells cs.toArray e (0, 0)) := hs.all _ hm.mem
  exact ⟨g, 0, rfl, (Array.getElem?_eq_some_iff.1 hb).1, fun j v hj => by rw [blk_cell hb, Nat.zero_add]; simpa using hj⟩
theorem mem_dnL {p i : Nat} : ∀ n, p ∈ dnL i n ↔ i ≤ p ∧ p < i + n
  | 0 => by simp only [dnL, List.not_mem_nil, false_iff]; omega
  | n + 1 => by
    rw [dnL, List.mem_cons, mem_dnL n]
    omega
theorem lastT_bounds {m : List Bool} {i n p : Nat} (h : lastT m i n = some p) : i ≤ p ∧ p < i + n := (mem_dnL n).1 (List.mem_of_find?_eq_some h)
theorem find_bounds {s : List UInt8} {A : AM × Nat} : ∀ (n i st : Nat) {a b st' : Nat}, findM s A n i st = some (some (a, b), st') → n + i = s.length + 1 → i ≤ a ∧ a ≤ b ∧ b ≤ s.length
  | 0, i, st, a, b, st', h, hn => by rw [findM] at h; simp at h
  | n + 1, i, st, a, b, st', h, hn => by
    rw [findM] at h
    split at h
    · split at h
      · rename_i j hj
        simp only [Option.some.injEq, Prod.mk.injEq] at h
        obtain ⟨⟨rfl, rfl⟩, _⟩ := h
        have := lastT_bounds hj
        omega
      · have := find_bounds n (i + 1) _ h (by omega)
        omega
    · cases h
structure SpSt where
  i : Nat
  ad : Option Addr
  cap : Nat
theorem setMatch_c (F : Nat) (t s : List UInt8) (a : Int) (m : MR) (hm : setM F t s a = some m) (ht : t.length ≤ 4611686018427387904) (w : World) (hG : GR w w.heap.size) :
    Pure Tryz.prog 7 #[Sv t, Sv s, Iv a] (fun x : Option Addr × Nat => .tuple #[.slice x.1 m.spans.length x.2, .bool m.ok, Iv (m.steps : Nat), Iv m.e]) (fun x => [PRow x.1 x.2 m.spans]) w := by
  have hpf := parse_fine t
  have hpc := fun w hG => parse_c t ht w hG
  have hof : ofM t = if (parseM t).e ≠ 0 then (Me.zero, (parseM t).e, (parseM t).at_) else (measM (parseM t).tree, 0, 0) := rfl
  have hmc := fun w hG => measOf_c t ht w hG
  unfold setM at hm
  generalize ofM t = om at hof hmc
  generalize parseM t = p at hm hpf hpc hof
  obtain ⟨tree, pe, pat⟩ := p
  dsimp only at hm hpf hpc hof
  have hnil : ∀ {w0 w' : World} {B : Nat} {R : List HA}, Sat w0 B R w' → Sat w0 B [PRow none 0 []] w' := fun {w0 w' B R} h => (h.nilRow 29 2).ent (.i (by repeat constructor))
  refine calls_of_ES TB Tryz.func7 rfl _ Tryz.ntmps7 rfl (Sat.start w) ?_; refine .go ?_; (repeat constructor); refine .as_ ?_; refine .as_ ?_; refine .as_ ?_; refine .as_ ?_; refine .go ?_; (repeat constructor); refine .mv ?_; (refine EL.callXw rfl rfl rfl ent20 rfl (fun w hs => hpc w (GR.sat hG hs)) ?_; intro px); refine .mv ?_; refine .ex ?_; refine .ex ?_; (refine .al ?_; intro g10); (refine .al ?_; intro g11); refine .sa ?_; refine .sa ?_; refine .go ?_; (repeat constructor); refine .go ?_; (repeat constructor); refine .fa ?_; refine .lb ?_; refine .ni ?_; refine .go ?_; repeat constructor
  refine ES.condN rfl (fun hne => ?_) (fun he => ?_)
  · rw [if_pos hne] at hm
    cases hm
    refine .g0 ?_; repeat constructor
    refine ES.draw (X := Unit) (fun _ => [(6, .slice none 0 0), (7, .bool false), (8, Iv 0), (9, Iv pe)]) (fun _ => []) (HA.blk g11 (.cells #[Iv pe, Iv (pat : Nat)] 33) :: []) mixed (.i (by repeat constructor)) ?_ (fun _ => ?_)
    · refine .tk 0 rfl (RV.fieldAddr rfl rfl rfl rfl rfl rfl) ?_; refine .tk 1 rfl (RV.loadB rfl rfl rfl (by repeat constructor) rfl) ?_; refine .tk 2 rfl (RV.assign rfl) ?_; refine .tk 3 rfl (RV.assign rfl) ?_; refine .tk 4 rfl (RV.assign rfl) ?_; refine .tk 5 rfl (RV.assign rfl) ?_; refine .dn ?_
      exact .cy ()
    refine .go ?_; repeat constructor
    exact PX.ret rfl Tryz.results7 (.cons (.tmp rfl) (.cons (.tmp rfl) (.cons (.tmp rfl) (.cons (.tmp rfl) .nil)))) (fun w hs => ⟨(none, 0), rfl, hnil hs⟩)
  have he' : pe = 0 := he
  rw [if_neg (fun h => h he')] at hm hof
  subst hof
  refine .go ?_; (repeat constructor); refine .mv ?_; refine EL.callPw rfl rfl rfl ent21 rfl (fun w hs => hmc w (GR.sat hG hs)) ?_; refine .mv ?_; refine .ex ?_; refine .ex ?_; (refine .al ?_; intro g12); (refine .al ?_; intro g13); refine .sa ?_; refine .sa ?_; refine .go ?_; (repeat constructor); refine .go ?_; (repeat constructor); refine .fa ?_; refine .lb ?_; refine .as_ ?_; refine .go ?_; repeat constructor
  refine ES.cond rfl (fun hb => ?_) (fun hb => ?_)
  · rw [if_pos hb] at hm
    cases hm
    refine .go ?_; (repeat constructor); refine .as_ ?_; refine .as_ ?_; refine .as_ ?_; refine .as_ ?_; refine .go ?_; repeat constructor
    exact PX.ret rfl Tryz.results7 (.cons (.tmp rfl) (.cons (.tmp rfl) (.cons (.tmp rfl) (.cons (.tmp rfl) .nil)))) (fun w hs => ⟨(none, 0), rfl, hnil hs⟩)
  have hb' : (measM tree).back = false := hb
  rw [if_neg (by rw [hb']; simp)] at hm
  refine .go ?_; (repeat constructor); refine .mv ?_; refine .lS ?_; refine .gt_ ?_; refine .as_ ?_; refine .go ?_; repeat constructor
  refine ES.condD rfl (fun hl => ?_) (fun hl => ?_)
  · rw [if_pos (by omega)] at hm
    cases hm
    refine .go ?_; (repeat constructor); refine .as_ ?_; refine .as_ ?_; refine .as_ ?_; refine .as_ ?_; refine .go ?_; repeat constructor
    exact PX.ret rfl Tryz.results7 (.cons (.tmp rfl) (.cons (.tmp rfl) (.cons (.tmp rfl) (.cons (.tmp rfl) .nil)))) (fun w hs => ⟨(none, 0), rfl, hnil hs⟩)
  rw [if_neg (by omega)] at hm
  have hs2 : s.length ≤ 1024 := by omega
  refine .go ?_; repeat constructor
  refine EL.cutX (X := Unit) (fun _ => [(0, Sv t), (1, Sv s), (2, Iv a), (10, Pv g10 0), (12, Pv g12 0), (39, .bool (decide (a < 0 ∨ (s.length : Int) < a)))])
    (fun _ => HA.blk g10 (.cells (reCells tree (.slice px.ad tree.kids.length px.cap)).toArray 46) :: HA.forest px.fp [tree] (reCells tree (.slice px.ad tree.kids.length px.cap)) :: HA.blk g12 (.cells (measM tree).cells.toArray 66) :: []) ?_ (fun _ => ?_)
  · refine .go ?_; (repeat constructor); refine .mv ?_; refine .ls ?_; refine .mv ?_
    first | refine EL.splitD (d := 42) rfl (fun hp42 => ?_) (fun hp42 => ?_) | refine EL.splitN (d := 42) rfl (fun hp42 => ?_) (fun hp42 => ?_) | refine EL.splitB (d := 42) rfl (fun hp42 => ?_) (fun hp42 => ?_)
    · refine .ps ?_; refine .ps ?_; refine .ps ?_; refine .ps ?_; refine .pt ?_; refine .as_ ?_
      exact .dx () ⟨rfl, rfl, rfl, rfl, rfl, getA rfl (congrArg Value.bool (by rw [Bool.eq_iff_iff]; simp only [decide_eq_true_eq, true_iff]; omega)), trivial⟩
    · refine .mv ?_; refine .mv ?_; refine .lS ?_; refine .gt_ ?_; refine .pf ?_; refine .as_ ?_
      exact .dx () ⟨rfl, rfl, rfl, rfl, rfl, getA rfl (congrArg Value.bool (by rw [Bool.eq_iff_iff]; simp only [decide_eq_true_eq, true_iff]; omega)), trivial⟩
  refine ES.condD rfl (fun hr => ?_) (fun hr => ?_)
  · rw [if_pos hr] at hm
    cases hm
    refine .go ?_; (repeat constructor); refine .as_ ?_; refine .as_ ?_; refine .as_ ?_; refine .as_ ?_; refine .go ?_; repeat constructor
    exact PX.ret rfl Tryz.results7 (.cons (.tmp rfl) (.cons (.tmp rfl) (.cons (.tmp rfl) (.cons (.tmp rfl) .nil)))) (fun w hs => ⟨(none, 0), rfl, hnil hs⟩)
  rw [if_neg hr] at hm
  split at hm
  · cases hm
  rename_i hgr
  obtain ⟨G, hGr⟩ : ∃ G : Nat, (measM tree).grp = (G : Int) := ⟨(measM tree).grp.toNat, by omega⟩
  have hG9 : G ≤ 9 := by omega
  rw [hGr, Int.toNat_natCast] at hm
  obtain ⟨i, rfl⟩ : ∃ i : Nat, a = (i : Int) := ⟨a.toNat, by omega⟩
  have hi : i ≤ s.length := by omega
  rw [Int.toNat_natCast] at hm
  unfold setGo at hm
  split at hm
  rotate_left
  · cases hm
  rename_i hcost
  refine .g0 ?_; repeat constructor
  refine ES.rebase (fun w1 hw1 => ?_)
  have hn := node_of hw1 (by repeat constructor) (by repeat constructor)
  have hrd12 := rd_blk hw1 (g := g12) (cs := (measM tree).cells) (e := 66) (by repeat constructor)
  have hn' := hn
  obtain ⟨ad, kcap, cs0, q1, q2, q3, q4⟩ := hn'
  have hrd10 := q1.rd
  obtain ⟨hr1, he1⟩ := make_room [tree] hcost
  refine .go ?_; (repeat constructor); refine .mv ?_; refine EL.buildS #[Sv s, Iv 0] rfl rfl rfl rfl rfl (by kernel_rfl) rfl ?_; refine EL.buildS #[Sv s, Iv 0, .slice none 0 0] rfl rfl rfl rfl rfl (by kernel_rfl) rfl ?_; (refine .bx ?_; intro g51); refine .as_ ?_; refine .go ?_; repeat constructor
  cases hfm : findM s (makeM [tree]) (s.length + 1 - i) i 0 with
  | none => rw [hfm] at hm; cases hm
  | some os =>
  obtain ⟨o, st⟩ := os
  rw [hfm] at hm
  have hfc := fun ga x => setFind_c g51 s hs2 ga (makeM [tree]) x hr1 he1 i hi 0 [.slice none 0 0] o st hfm
  refine .go ?_; (repeat constructor); refine .mv ?_
  refine EL.loadOldA (j := 0) (vs := reCells tree (.slice ad tree.kids.length kcap)) rfl rfl rfl rfl rfl (by simp [reCells]) rfl hrd10 (fun i u hi => by rw [Nat.zero_add]; exact hi) ?_
  (refine .b1 ?_; intro b55)
  (refine EL.callXw rfl rfl rfl ent23 rfl (fun w hs => make_c [tree] (fun k hk => by rw [List.mem_singleton] at hk; subst hk; exact hpf) (by simp) hcost (some ⟨b55, 0, none⟩) 1 w (rowRd_one q2 q3 q4 w _ (hs.ent (H' := HA.row (.slice (some ⟨b55, 0, none⟩) 1 1) 46 9 1 (reCells tree (.slice ad tree.kids.length kcap)) :: []) (.i (by repeat constructor))))) ?_; intro mk)
  refine .mv ?_; (refine EL.callM rfl rfl rfl ent22 rfl (hfc mk.1 mk.2) (by repeat constructor) ?_; intro u); refine .mv ?_; refine .ex ?_; refine .ex ?_; (refine .al ?_; intro g15); refine .sa ?_; refine .as_ ?_; refine .go ?_; (repeat constructor); refine .go ?_; (repeat constructor); refine .mv ?_; refine .nt ?_; refine .go ?_; repeat constructor
  cases o with
  | none =>
    simp only [Option.some.injEq] at hm
    subst hm
    refine ES.condT rfl ?_; refine .g0 ?_; repeat constructor
    refine ES.draw (X := Unit) (fun _ => [(6, .slice none 0 0), (7, .bool false), (8, Iv (st : Nat)), (9, Iv 0)]) (fun _ => []) (WB g51 s st [.slice none 0 0] 73 :: []) mixed (.i (by repeat constructor)) ?_ (fun _ => ?_)
    · refine .tk 0 rfl (RV.move rfl) ?_; refine .tk 1 rfl (RV.nilCheck rfl) ?_; refine .tk 2 rfl (RV.fieldAddr rfl rfl rfl rfl rfl rfl) ?_; refine .tk 3 rfl (RV.fieldAddr rfl rfl rfl rfl rfl rfl) ?_; refine .tk 4 rfl (RV.loadB rfl rfl rfl (by repeat constructor) rfl) ?_; refine .tk 5 rfl (RV.assign rfl) ?_; refine .tk 6 rfl (RV.assign rfl) ?_; refine .tk 7 rfl (RV.assign rfl) ?_; refine .tk 8 rfl (RV.assign rfl) ?_; refine .dn ?_
      exact .cy ()
    refine .go ?_; repeat constructor
    exact PX.ret rfl Tryz.results7 (.cons (.tmp rfl) (.cons (.tmp rfl) (.cons (.tmp rfl) (.cons (.tmp rfl) .nil)))) (fun w hs => ⟨(none, 0), rfl, hnil (hw1.join hs)⟩)
  | some ab =>
    obtain ⟨x, y⟩ := ab
    simp only at hm
    cases hwk : walkM s F (.one tree) x y ⟨(List.replicate (G + 1) (-1, -1)).set 0 ((x : Int), (y : Int)), st⟩ with
    | none => rw [hwk] at hm; cases hm
    | some zf =>
    rw [hwk] at hm
    simp only [Option.some.injEq] at hm
    subst hm
    refine ES.condF rfl ?_
    have hgc : (measM tree).cells[1]? = some (Iv (G : Nat)) := by rw [← hGr]; rfl
    refine .go ?_; (repeat constructor); refine .fa ?_; refine EL.loadOld (j := 1) rfl rfl rfl rfl rfl hrd12 hgc ?_; refine .a1 ?_; refine .mv ?_; refine .go ?_; (repeat constructor); refine ES.nilRow 29 2 ?_
    have hsR : ∀ n, spsC (List.replicate n (-1, -1) ++ [(-1, -1)]) = spsC (List.replicate (n + 1) (-1, -1)) := fun n => by rw [List.replicate_succ']
    refine ES.loop (σ := SpSt) (fun z => z.i ≤ G + 1) (fun z => [(10, Pv g10 0), (14, Pv g51 0), (15, Pv g15 0), (70, Iv ((G + 1 : Nat) : Int)), (71, Iv (z.i : Nat))])
      (fun z => WB g51 s st [.slice z.ad z.i z.cap] 73 :: HA.row (.slice z.ad z.i z.cap) 29 2 z.i (spsC (List.replicate z.i (-1, -1))) :: HA.blk g15 (.cells #[Iv (x : Nat), Iv (y : Nat)] 29) :: []) (fun z => G + 1 - z.i) ⟨0, none, 0⟩ (Nat.zero_le _) ⟨rfl, rfl, rfl, rfl, rfl, trivial⟩ (.i (by repeat constructor)) ?_
    rintro ⟨n, nad, ncap⟩ hn1
    dsimp only at hn1 ⊢
    refine .go ?_; (repeat constructor); refine .ls ?_; refine .go ?_; repeat constructor
    refine ES.condD rfl (fun hlt => ?_) (fun hge => ?_)
    · refine .go ?_; (repeat constructor); refine .mv ?_; refine .mv ?_; refine .nc ?_; refine .fa ?_; refine .lb ?_; refine EL.buildS #[Iv (-1), Iv (-1)] rfl rfl rfl rfl rfl (by kernel_rfl) rfl ?_; (refine .b1 ?_; intro b79)
      (refine EL.append1 rfl rfl rfl rfl rfl rfl rfl rfl rfl (by repeat constructor) (by repeat constructor) (by first | (intro u hu; simp [Value.cells] at hu; subst hu; rfl) | exact all1 rfl) (by rfl) (by unfold maxLen; omega) (by first | omega | (show 1 * _ ≤ _; omega) | (show 8 * _ ≤ _; omega) | (show 16 * _ ≤ _; omega) | (show 24 * _ ≤ _; omega) | (show _ * 1 ≤ _; omega) | (show _ * 8 ≤ _; omega) | (show _ * 16 ≤ _; omega) | (show _ * 24 ≤ _; omega) | exact Nat.le_trans (Nat.mul_le_mul_right _ (show _ ≤ 1073741824 by omega)) (by decide)) ?_; intro a80 c80)
      refine .nc ?_; refine .fa ?_; refine .sb ?_; refine .go ?_; (repeat constructor); refine .a1 ?_; refine .mv ?_; refine .go ?_; repeat constructor
      exact PX.loop ⟨n + 1, some ⟨a80, 0, none⟩, c80⟩ (by dsimp only; omega) (by simp only; omega) ⟨rfl, rfl, rfl, rfl, rfl, trivial⟩ (by dsimp only; rw [← hsR n, spsC_app]; exact (.i (by repeat constructor)))
    obtain rfl : n = G + 1 := by omega
    refine ES.rowForm (e := 29) (sz := 2) (n := G + 1) (cs := spsC (List.replicate (G + 1) (-1, -1))) (ad := nad) (len := G + 1) (cap := ncap) (by repeat constructor) (fun hf => ?_)
    obtain ⟨spg, rfl⟩ := hf.2.2.2.2 (by omega)
    have hput := spsC_set (List.replicate (G + 1) (-1, -1)) 0 (by simp) ((x : Int), (y : Int))
    have hsl := spsC_len (List.replicate (G + 1) (-1, -1))
    rw [List.length_replicate] at hsl
    generalize spsC (List.replicate (G + 1) (-1, -1)) = CS0 at hput hsl
    refine .g0 ?_; repeat constructor
    refine ES.draw (X := Unit) (fun _ => [(10, Pv g10 0), (14, Pv g51 0), (15, Pv g15 0)])
      (fun _ => SH g51 s (some ⟨spg, 0, none⟩) ncap ⟨(List.replicate (G + 1) (-1, -1)).set 0 ((x : Int), (y : Int)), st⟩ ++ (HA.blk g15 (.cells #[Iv (x : Nat), Iv (y : Nat)] 29) :: []))
      (WB g51 s st [.slice (some ⟨spg, 0, none⟩) (G + 1) ncap] 73 :: HA.blk g15 (.cells #[Iv (x : Nat), Iv (y : Nat)] 29) :: []) mixed (.i (by repeat constructor)) ?_ (fun _ => ?_)
    · refine .tk 0 rfl (RV.move rfl) ?_; refine .tk 1 rfl (RV.nilCheck rfl) ?_; refine .tk 2 rfl (RV.fieldAddr rfl rfl rfl rfl rfl rfl) ?_; refine .tk 3 rfl (RV.loadB rfl rfl rfl (by repeat constructor) rfl) ?_; refine .tk 4 rfl (RV.loadAggB rfl rfl rfl (by repeat constructor) rfl) ?_; refine .tk 5 rfl (RV.indexAddrL (i := 0) rfl rfl rfl rfl rfl (by omega)) ?_; refine ED.last 6 rfl (by decide +kernel) (by decide +kernel) (by decide +kernel) ?_
      (refine EL.storeRA (vs := spC ((x : Int), (y : Int))) rfl rfl rfl rfl rfl (by repeat constructor) (by rw [hsl]; show 0 + 0 * 2 + 2 ≤ _; omega) (all1 rfl) ?_; refine EL.rowEq (v := .slice (some ⟨spg, 0, none⟩) (G + 1) ncap) (by repeat constructor) hput ?_)
      refine EL.endQ ?_
      exact PX.cutX () ⟨rfl, rfl, rfl, trivial⟩ (by unfold SH PRow; dsimp only; rw [List.length_set, List.length_replicate]; exact (.i (by repeat constructor)))
    have hbd := find_bounds _ _ _ hfm (by omega)
    have hwc := setWalk_c (w0 := w1) (B := w1.heap.size) (gs := g51) (sp := some ⟨spg, 0, none⟩) (cap := ncap) hs2 F tree hpf g10 0 hn x y _ _ (by omega) (by omega) hwk
    refine .go ?_; (repeat constructor); refine .mv ?_; refine .fa ?_; refine .lb ?_; refine .fa ?_; refine .lb ?_; (refine EL.callMw rfl rfl rfl ent24 rfl hwc (by repeat constructor) ?_; intro u); refine .go ?_; (repeat constructor); refine ES.imp (H' := WB g51 s zf.steps [.slice (some ⟨spg, 0, none⟩) zf.spans.length ncap] 73 :: PRow (some ⟨spg, 0, none⟩) ncap zf.spans :: []) (fun w hs => hs.ent (.i (by repeat constructor))) ?_; refine .g0 ?_; repeat constructor
    refine ES.draw (X := Unit) (fun _ => [(6, .slice (some ⟨spg, 0, none⟩) zf.spans.length ncap), (7, .bool true), (8, Iv (zf.steps : Nat)), (9, Iv 0)]) (fun _ => PRow (some ⟨spg, 0, none⟩) ncap zf.spans :: []) (WB g51 s zf.steps [.slice (some ⟨spg, 0, none⟩) zf.spans.length ncap] 73 :: []) mixed (.i (by repeat constructor)) ?_ (fun _ => ?_)
    · refine .tk 0 rfl (RV.move rfl) ?_; refine .tk 1 rfl (RV.nilCheck rfl) ?_; refine .tk 2 rfl (RV.fieldAddr rfl rfl rfl rfl rfl rfl) ?_; refine .tk 3 rfl (RV.loadB rfl rfl rfl (by repeat constructor) rfl) ?_; refine .tk 4 rfl (RV.move rfl) ?_; refine .tk 5 rfl (RV.nilCheck rfl) ?_; refine .tk 6 rfl (RV.fieldAddr rfl rfl rfl rfl rfl rfl) ?_; refine .tk 7 rfl (RV.fieldAddr rfl rfl rfl rfl rfl rfl) ?_; refine .tk 8 rfl (RV.loadB rfl rfl rfl (by repeat constructor) rfl) ?_; refine .tk 9 rfl (RV.assign rfl) ?_; refine .tk 10 rfl (RV.assign rfl) ?_; refine .tk 11 rfl (RV.assign rfl) ?_; refine .tk 12 rfl (RV.assign rfl) ?_; refine .dn ?_
      exact .cy ()
    refine .go ?_; repeat constructor
    exact PX.ret rfl Tryz.results7 (.cons (.tmp rfl) (.cons (.tmp rfl) (.cons (.tmp rfl) (.cons (.tmp rfl) .nil)))) (fun w hs => ⟨(some ⟨spg, 0, none⟩, ncap), rfl, (hw1.join hs).ent (.i (by repeat constructor))⟩)
end Go.Proofs.YthcbjbkheodejaaGreat
namespace Go.Proofs.YthcbjbkheodejaaGreat
open Go Go.RowKit Sl
set_option maxRecDepth 100000
set_option maxHeartbeats 8000000
attribute [local irreducible] ES EL PX wps
def mfn (me : Me) : Nat := if me.back = true then 27 else 26
abbrev mbC (g : Nat) (t : List UInt8) (me : Me) (st : Int) : Array Value := #[Sv t, Iv me.pos, Iv me.grp, Iv me.least, Iv me.most, .bool me.back, .bool me.bol, .bool me.eol, Iv st, .func (.func (mfn me)) #[Pv g 0] #[]]
abbrev MB (g : Nat) (t : List UInt8) (me : Me) (st : Int) : HA := HA.blk g (.cells (mbC g t me st) 84)
abbrev meOf (t : List UInt8) : Me := measM (parseM t).tree
theorem newBad_c (t : List UInt8) (he : (parseM t).e ≠ 0) (ht : t.length ≤ 4611686018427387904) (w : World) (hG : GR w w.heap.size) :
    Pure Tryz.prog 9 #[Sv t] (fun _ : Unit => .tuple #[.pointer none, .agg #[Iv (parseM t).e, Iv ((parseM t).at_ : Nat)]]) (fun _ => []) w := by
  have hpc := fun w hG => parse_c t ht w hG
  generalize parseM t = p at he hpc
  obtain ⟨tree, pe, pat⟩ := p
  dsimp only at he hpc
  refine calls_of_ES TB Tryz.func9 rfl _ Tryz.ntmps9 rfl (Sat.start w) ?_; refine .go ?_; (repeat constructor); refine .as_ ?_; (refine .al ?_; intro g3); refine .go ?_; (repeat constructor); refine .mv ?_; (refine EL.callXw rfl rfl rfl ent20 rfl (fun w hs => hpc w (GR.sat hG hs)) ?_; intro px); refine .mv ?_; refine .ex ?_; refine .ex ?_; (refine .al ?_; intro g4); (refine .al ?_; intro g5); refine .sa ?_; refine .sa ?_; refine .go ?_; (repeat constructor); refine .go ?_; (repeat constructor); refine .fa ?_; refine .lb ?_; refine .ni ?_; refine .go ?_; repeat constructor
  refine ES.condN rfl (fun hne => ?_) (fun h0 => ?_)
  · refine .g0 ?_; repeat constructor
    refine ES.draw (X := Unit) (fun _ => [(2, .pointer none), (3, Pv g3 0)]) (fun _ => HA.blk g3 (.cells #[Iv pe, Iv (pat : Nat)] 33) :: []) (HA.blk g5 (.cells #[Iv pe, Iv (pat : Nat)] 33) :: []) mixed (.i (by repeat constructor)) ?_ (fun _ => ?_)
    · refine .tk 0 rfl (RV.loadAggB rfl rfl rfl (by repeat constructor) rfl) ?_; refine .tk 1 rfl (RV.assign rfl) ?_; refine ED.last 2 rfl (by decide +kernel) (by decide +kernel) (by decide +kernel) ?_; refine .sa ?_; refine EL.endQ ?_
      exact .cy ()
    refine .go ?_; repeat constructor
    exact PX.ret rfl Tryz.results9 (.cons (.tmp rfl) (.cons (.blkA rfl rfl rfl (by repeat constructor) rfl) .nil)) (fun w hs => ⟨(), rfl, hs.ent (.i (by repeat constructor))⟩)
  · exact absurd h0 he
theorem newOk_c (t : List UInt8) (he : (parseM t).e = 0) (ht : t.length ≤ 4611686018427387904) (w : World) (hG : GR w w.heap.size) :
    Pure Tryz.prog 9 #[Sv t] (fun g : Nat => .tuple #[Pv g 0, .agg #[Iv 0, Iv 0]]) (fun g => [MB g t (meOf t) 0]) w := by
  have hpc := fun w hG => parse_c t ht w hG
  have hof : ofM t = (measM (parseM t).tree, 0, 0) := by unfold ofM; rw [if_neg (fun h => h he)]
  have hmc := fun w hG => measOf_c t ht w hG
  rw [hof] at hmc
  unfold meOf
  generalize parseM t = p at he hpc hmc
  obtain ⟨tree, pe, pat⟩ := p
  dsimp only at he hpc hmc ⊢
  subst he
  generalize measM tree = me at hmc
  refine calls_of_ES TB Tryz.func9 rfl _ Tryz.ntmps9 rfl (Sat.start w) ?_; refine .go ?_; (repeat constructor); refine .as_ ?_; (refine .al ?_; intro g3); refine .go ?_; (repeat constructor); refine .mv ?_; (refine EL.callXw rfl rfl rfl ent20 rfl (fun w hs => hpc w (GR.sat hG hs)) ?_; intro px); refine .mv ?_; refine .ex ?_; refine .ex ?_; (refine .al ?_; intro g4); (refine .al ?_; intro g5); refine .sa ?_; refine .sa ?_; refine .go ?_; (repeat constructor); refine .go ?_; (repeat constructor); refine .fa ?_; refine .lb ?_; refine .ni ?_; refine .go ?_; (repeat constructor); refine ES.condF rfl ?_; refine .go ?_; (repeat constructor); refine .mv ?_; refine EL.buildS #[Sv t, Iv 0, Iv 0, Iv 0, Iv 0, .bool false, .bool false, .bool false, Iv 0, .nilFunc] rfl rfl rfl rfl rfl (by kernel_rfl) rfl ?_; (refine .bx ?_; intro g18); refine .as_ ?_; refine .go ?_; (repeat constructor); refine .go ?_; (repeat constructor); refine .mv ?_; refine .mv ?_; refine EL.callPw rfl rfl rfl ent21 rfl (fun w hs => hmc w (GR.sat hG hs)) ?_; refine .mv ?_; refine .ex ?_; refine .ex ?_; refine .nc ?_; refine .fa ?_
  (refine EL.storeBA (vs := me.cells) rfl rfl rfl rfl rfl (by repeat constructor) (Nat.le_of_ble_eq_true rfl) (all1 rfl) ?_; refine EL.blkEq (g := g18) (o' := .cells #[Sv t, Iv me.pos, Iv me.grp, Iv me.least, Iv me.most, .bool me.back, .bool me.bol, .bool me.eol, Iv 0, .nilFunc] 84) (by repeat constructor) rfl ?_)
  refine .go ?_; (repeat constructor); refine .go ?_; (repeat constructor); refine .mv ?_; refine .mv ?_; refine EL.makeBound rfl rfl rfl ?_; refine .nc ?_; refine .fa ?_; refine .sb ?_; refine .go ?_; (repeat constructor); refine .mv ?_; refine .nc ?_; refine .fa ?_; refine .fa ?_; refine .lb ?_; refine .go ?_; repeat constructor
  refine ES.cutC (X := Unit) (fun _ => [(3, Pv g3 0), (6, Pv g18 0)]) (fun _ => MB g18 t me 0 :: HA.blk g3 (.cells #[Iv 0, Iv 0] 33) :: []) ?_ (fun _ => ?_)
  · refine ES.cond rfl (fun hb => ?_) (fun hb => ?_)
    · have hb' : me.back = true := hb
      have hm : mfn me = 27 := if_pos hb'
      unfold MB mbC
      rw [hm]
      refine .go ?_; (repeat constructor); refine .mv ?_; refine .mv ?_; refine EL.makeBound rfl rfl rfl ?_; refine .nc ?_; refine .fa ?_; refine .sb ?_; refine .go ?_; repeat constructor
      exact .cy ()
    · have hb' : me.back = false := hb
      have hm : mfn me = 26 := if_neg (by rw [hb']; simp)
      unfold MB mbC
      rw [hm]
      refine .go ?_; repeat constructor
      exact .cy ()
  refine .go ?_; (repeat constructor); refine .mv ?_; refine EL.buildZ rfl rfl rfl rfl rfl ?_; refine .as_ ?_; refine .sa ?_; refine .go ?_; repeat constructor
  exact PX.ret rfl Tryz.results9 (.cons (.tmp rfl) (.cons (.blkA rfl rfl rfl (by repeat constructor) rfl) .nil)) (fun w hs => ⟨g18, rfl, hs.ent (.i (by repeat constructor))⟩)
abbrev mrV (m : MR) (x : Option Addr × Nat) : Value := .tuple #[.slice x.1 m.spans.length x.2, .bool m.ok, Iv m.e]
abbrev McCt (f g : Nat) (t : List UInt8) (me : Me) (s : List UInt8) (a : Int) (m : MR) (w0 : World) (B : Nat) : Prop := ∀ st : Int,
  MutAt Tryz.prog f #[Pv g 0, Sv s, Iv a] [MB g t me st] (mrV m) (fun x => [PRow x.1 x.2 m.spans, MB g t me (w64 (st + (m.steps : Nat)))]) w0 B
theorem bySets_c (F g : Nat) (t : List UInt8) (ht : t.length ≤ 4611686018427387904) (me : Me) (s : List UInt8) (a : Int) (m : MR) (hm : setM F t s a = some m) (w0 : World) (B : Nat) (hG : GR w0 B) : McCt 26 g t me s a m w0 B := by
  intro st R w h
  replace h : Sat w0 B (MB g t me st :: R) w := h
  have hsc := fun w hG => setMatch_c F t s a m hm ht w hG
  refine calls_of_ES TB Tryz.func26 rfl _ Tryz.ntmps26 rfl h ?_; refine .go ?_; (repeat constructor); refine .as_ ?_; refine .as_ ?_; refine .as_ ?_; refine .go ?_; (repeat constructor); refine .mv ?_; refine .nc ?_; refine .fa ?_; refine .lb ?_; refine .mv ?_; refine .mv ?_; (refine EL.callXw rfl rfl rfl ent7 rfl (fun w hs => hsc w (GR.sat hG hs)) ?_; intro x); refine .mv ?_; refine .ex ?_; refine .ex ?_; refine .ex ?_; refine .ex ?_; refine .as_ ?_; refine .as_ ?_; refine .as_ ?_; refine .as_ ?_; refine .go ?_; (repeat constructor); refine .go ?_; (repeat constructor); refine .mv ?_; refine .nc ?_; refine .fa ?_; refine .lb ?_; refine .mv ?_; refine EL.add (w64 (st + (m.steps : Nat))) rfl rfl rfl rfl rfl ?_; refine .nc ?_; refine .fa ?_; refine .sb ?_; refine .go ?_; (repeat constructor); refine .mv ?_; refine .mv ?_; refine .mv ?_; refine .as_ ?_; refine .as_ ?_; refine .as_ ?_; refine .go ?_; repeat constructor
  exact PX.ret rfl Tryz.results26 (.cons (.tmp rfl) (.cons (.tmp rfl) (.cons (.tmp rfl) .nil))) (fun w hs => ⟨x, rfl, hs.ent (.i (by repeat constructor))⟩)
theorem match_c (g : Nat) (t : List UInt8) (me : Me) (s : List UInt8) (a : Int) (m : MR) (w0 : World) (B : Nat) (he : Enters Tryz.prog (mfn me)) (hc : McCt (mfn me) g t me s a m w0 B) : McCt 31 g t me s a m w0 B := by
  intro st R w h
  replace h : Sat w0 B (MB g t me st :: R) w := h
  refine calls_of_ES TB Tryz.func31 rfl _ Tryz.ntmps31 rfl h ?_; refine .go ?_; (repeat constructor); refine .as_ ?_; refine .as_ ?_; refine .as_ ?_; refine .go ?_; (repeat constructor); refine .mv ?_; refine EL.eqlPn rfl rfl rfl rfl rfl rfl ?_; refine .mv ?_
  refine EL.rew (d := 11) (v' := .bool false) rfl (by first | rfl | (decide) | (simp)) ?_
  refine .mv ?_; refine .nc ?_; refine .fa ?_; refine .lb ?_; refine EL.eqlFt rfl rfl rfl rfl rfl rfl ?_; refine .pf ?_; refine .go ?_; (repeat constructor); refine ES.condF rfl ?_; refine .go ?_; (repeat constructor); refine .mv ?_; refine .nc ?_; refine .fa ?_; refine .lb ?_; refine .mv ?_; refine .mv ?_; (refine EL.callB (bs := [Pv g 0]) (vs := [Sv s, Iv a]) rfl rfl rfl he rfl (hc st) (by repeat constructor) ?_; intro x); refine .ex ?_; refine .ex ?_; refine .ex ?_; refine .as_ ?_; refine .as_ ?_; refine .as_ ?_; refine .go ?_; repeat constructor
  exact PX.ret rfl Tryz.results31 (.cons (.tmp rfl) (.cons (.tmp rfl) (.cons (.tmp rfl) .nil))) (fun w hs => ⟨x, rfl, hs.ent (.i (by repeat constructor))⟩)
theorem matchSets_c (F g : Nat) (t : List UInt8) (ht : t.length ≤ 4611686018427387904) (me : Me) (hb : me.back = false) (s : List UInt8) (a : Int) (m : MR) (hm : setM F t s a = some m) (w0 : World) (B : Nat) (hG : GR w0 B) : McCt 31 g t me s a m w0 B := by
  have e : mfn me = 26 := if_neg (by rw [hb]; simp)
  exact match_c g t me s a m w0 B (by rw [e]; exact ent26) (by rw [e]; exact bySets_c F g t ht me s a m hm w0 B hG)
end Go.Proofs.YthcbjbkheodejaaGreat
