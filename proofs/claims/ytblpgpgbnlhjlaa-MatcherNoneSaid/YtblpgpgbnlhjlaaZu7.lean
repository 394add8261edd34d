/- Texts of this claim, bundled. -/
import Derived.Test.YtblpgpgbnlhjlaaZu6
namespace Go.Proofs.Ytblpgpgbnlhjlaa
open Go Go.RowKit Sl
set_option maxRecDepth 100000
set_option maxHeartbeats 8000000
set_option linter.unusedVariables false
set_option linter.unusedSimpArgs false
attribute [local irreducible] ES EL PX wps
theorem spsC_cut : ∀ (z : List Spn) (n : Nat) (p : Spn), z[n]? = some p → ((spsC z).drop (0 + n * 2)).take (spC p).length = spC p
  | [], n, p, h => by simp at h
  | q :: z, 0, p, h => by
    simp only [List.getElem?_cons_zero, Option.some.injEq] at h
    subst h; rfl
  | q :: z, n + 1, p, h => by
    simp only [List.getElem?_cons_succ] at h
    have ih := spsC_cut z n p h
    have e : (spsC (q :: z)).drop (0 + (n + 1) * 2) = (spsC z).drop (0 + n * 2) := by
      rw [show 0 + (n + 1) * 2 = (0 + n * 2) + 2 by omega, show spsC (q :: z) = Iv q.1 :: Iv q.2 :: spsC z from rfl]
      rfl
    rw [e]; exact ih
section
variable {C : Cx} {E : Env} {H : List HA} {d ty t : Nat} {pos : String} {af : Array Edge} {gd : Option (Nat × Bool)} {x : Operand}
theorem RV.loadEnds {ti : TI} {gm g off q e : Nat} {es : List ME} {pool : List HA} {l : List Nat} (hx : E.ev x = some (Pv g (off + q * 1))) (ht : C.T.f t = some ti) (hu : ti.agg = false) (hm : Mem H (HA.memo gm 3 es)) (hp : Mem H (HA.pack pool))
    (hE : ∀ w : World, (∀ m ∈ es, w.ownsRow 0 3 1 m.val m.cells.length m.cells) → (∀ A ∈ pool, A.holds w) → ∀ q e, l[q]? = some e → w.cell? ⟨g, off + q, none⟩ = some (Iv (e : Nat))) (hq : l[q]? = some e) : RunV C E H ⟨some d, .load t x, ty, pos, af, gd⟩ (Iv (e : Nat)) :=
  RV.load hx ht hu (fun w hs => by
    have h1 : mapAt w gm (pairsOf es) ∧ ∀ m ∈ es, w.ownsRow 0 3 1 m.val m.cells.length m.cells := hs.all _ hm.mem
    have h2 : ∀ A ∈ pool, A.holds w := hs.all _ hp.mem
    rw [Nat.mul_one]
    exact hE w h1.2 h2 q e hq)
end
theorem ends_one (es : List ME) (pool : List HA) (b j : Nat) : EndsAt es (HA.row (.slice (some ⟨b, 0, none⟩) 1 1) 3 1 1 [Iv (j : Nat)] :: pool) (some ⟨b, 0, none⟩) [j] := fun _ => ⟨b, 0, rfl, fun w _ hp q e hq => by
  have h1 : w.ownsRow 0 3 1 (.slice (some ⟨b, 0, none⟩) 1 1) 1 [Iv (j : Nat)] := hp _ List.mem_cons_self
  rcases q with _ | q
  · simp only [List.getElem?_cons_zero, Option.some.injEq] at hq
    subst hq
    exact row_cell h1 0 _ rfl
  · simp at hq⟩
structure EnX (w0 : World) (B : Nat) (s : List UInt8) (es : List ME) (pool : List HA) (l : List Nat) (st : Nat) where
  es' : List ME
  st' : Nat
  pool' : List HA
  ad : Option Addr
  cap : Nat
  sub : ∀ m ∈ es, m ∈ es'
  psub : ∀ A ∈ pool, A ∈ pool'
  ok : MemB w0 B s es'
  le : st' ≤ st + 2 * floodC
  ends : EndsAt es' pool' ad l
  lcap : l.length ≤ cap
def EnX.none {w0 : World} {B : Nat} {s : List UInt8} {es : List ME} {pool : List HA} {st : Nat} (h : MemB w0 B s es) : EnX w0 B s es pool [] st := ⟨es, st, pool, Option.none, 0, fun _ h => h, fun _ h => h, h, by omega, EndsAt.nil _ _ _, Nat.le_refl _⟩
def EnX.one {w0 : World} {B : Nat} {s : List UInt8} {es : List ME} {pool : List HA} {st : Nat} (h : MemB w0 B s es) (b j : Nat) : EnX w0 B s es pool [j] st := ⟨es, st, HA.row (.slice (some ⟨b, 0, Option.none⟩) 1 1) 3 1 1 [Iv (j : Nat)] :: pool, some ⟨b, 0, Option.none⟩, 1, fun _ h => h, fun _ h => List.mem_cons_of_mem _ h, h, by omega, ends_one _ _ _ _, Nat.le_refl _⟩
theorem drop_last_get {l : List Nat} {q e : Nat} (h : l.dropLast[q]? = some e) : l[q]? = some e := by
  rw [List.dropLast_eq_take, List.getElem?_take] at h
  split at h
  · exact h
  · cases h
theorem dnL_len (i : Nat) : ∀ n, (dnL i n).length = n
  | 0 => rfl
  | n + 1 => by rw [dnL, List.length_cons, dnL_len i n]
theorem spl_len (s : List UInt8) (hd tl : List RE) (i j st : Nat) : (splL s hd tl i j st).length ≤ j + 1 - i := by
  unfold splL
  refine Nat.le_trans (List.length_filter_le _ _) ?_
  rw [dnL_len]
  omega
theorem ends10_c (gs gm : Nat) (s : List UInt8) (hs : s.length ≤ 1024) (st : Nat) (hst : st ≤ 576460752303423488) (sp : Option Addr) (cap : Nat) (z : List Spn) (es : List ME) (pool : List HA) (r : RE) (k i j : Nat) (w0 : World) (B gt gr off : Nat) (nx : Option Addr) (ht : TkB gt gr off k i j nx ∈ pool) (hn : NodeRd w0 B gr off r) (hf : r.fine) (hok : MemB w0 B s es)
    (l : List Nat) (ok : Bool) (he : endsB s ⟨r, k, i, j⟩ z = some (l, ok)) :
    MutAt Try.prog 94 #[Pv gs 0, Pv gt 0] [SB10 gs s st sp z.length cap gm, HA.memo gm 3 es, PRow sp cap z, HA.pack pool] (fun x : EnX w0 B s es pool l st => .tuple #[.slice x.ad l.length x.cap, .bool ok])
      (fun x => [SB10 gs s x.st' sp z.length cap gm, HA.memo gm 3 x.es', PRow sp cap z, HA.pack x.pool']) w0 B := by
  intro R w h
  replace h : Sat w0 B (SB10 gs s st sp z.length cap gm :: HA.memo gm 3 es :: PRow sp cap z :: HA.pack pool :: R) w := h
  have hr : i ≤ j ∧ j ≤ s.length := by
    by_cases hr : i ≤ j ∧ j ≤ s.length
    · exact hr
    · rw [endsB, if_neg hr] at he; cases he
  rw [endsB, if_pos hr] at he
  obtain ⟨hij, hj⟩ := hr
  have hn' := hn
  obtain ⟨ad, kcap, cs0, q1, q2, q3, q4⟩ := hn'
  have hrd := q1.rd
  have hkids : KidsRd w0 B r.kids ad := fun a b hab => by
    have hlt := (List.getElem?_eq_some_iff.1 hab).1
    obtain ⟨g', o', rfl, _⟩ := q3 (fun e => by have := q2.len; rw [e] at this; simp at this; omega)
    exact ⟨g', o', rfl, Node.of_row q2 q3 hab⟩
  have hkl := fine_len hf
  refine calls_of_ES TB Try.func94 rfl _ Try.ntmps94 rfl h ?_
  refine .go ?_; repeat constructor
  refine EL.assign rfl rfl rfl ?_
  refine EL.assign rfl rfl rfl ?_
  refine .go ?_; repeat constructor
  refine EL.move rfl rfl rfl ?_
  refine EL.nilCheck rfl rfl rfl ?_
  refine EL.fieldAddr rfl rfl rfl rfl rfl rfl rfl rfl ?_
  refine EL.loadPool rfl rfl rfl rfl rfl (by repeat constructor) ht rfl ?_
  refine EL.nilCheck rfl rfl rfl ?_
  refine EL.fieldAddr rfl rfl rfl rfl rfl rfl rfl rfl ?_
  refine EL.loadOld rfl rfl rfl rfl rfl hrd rfl ?_
  refine .go ?_; repeat constructor
  refine EL.eqlI rfl rfl rfl rfl ?_
  refine EL.assign rfl rfl rfl ?_
  refine .go ?_; repeat constructor
  refine ES.condD rfl (fun h6 => ?_) (fun h6 => ?_)
  · obtain ⟨n, rfl⟩ := kind_6 (show r.kind = 6 by omega)
    dsimp only at he
    cases hz : z[n]? with
    | none => rw [hz] at he; cases he
    | some p =>
    obtain ⟨a, b⟩ := p
    rw [hz] at he
    dsimp only at he
    have hnl : n < z.length := (List.getElem?_eq_some_iff.1 hz).1
    have hcut := spsC_cut z n (a, b) hz
    refine ES.know (P := ∃ g, sp = some ⟨g, 0, none⟩) (fun w hs => (row_form (hs.all (PRow sp cap z) (by simp))).2.2.2.2 (by omega)) ?_
    rintro ⟨spg, rfl⟩
    refine .g0 ?_; repeat constructor
    refine ES.draw (X := Nat) (fun g6 => [(0, Pv gs 0), (1, Pv gt 0), (6, Pv g6 0)]) (fun g6 => HA.blk g6 (.cells #[Iv a, Iv b] 33) :: SB10 gs s st (some ⟨spg, 0, none⟩) z.length cap gm :: HA.memo gm 3 es :: PRow (some ⟨spg, 0, none⟩) cap z :: HA.pack pool :: R)
      (SB10 gs s st (some ⟨spg, 0, none⟩) z.length cap gm :: PRow (some ⟨spg, 0, none⟩) cap z :: HA.pack pool :: []) mixed (.i (by repeat constructor)) ?_ (fun g6 => ?_)
    · refine ED.take 0 rfl (by decide +kernel) CutX.no_panic (by decide +kernel) rfl rfl rfl (RV.move rfl) ?_
      refine ED.take 1 rfl (by decide +kernel) CutX.no_panic (by decide +kernel) rfl rfl rfl (RV.nilCheck rfl) ?_
      refine ED.take 2 rfl (by decide +kernel) CutX.no_panic (by decide +kernel) rfl rfl rfl (RV.fieldAddr rfl rfl rfl rfl rfl rfl) ?_
      refine ED.take 3 rfl (by decide +kernel) CutX.no_panic (by decide +kernel) rfl rfl rfl (RV.loadB rfl rfl rfl (by repeat constructor) rfl) ?_
      refine ED.take 4 rfl (by decide +kernel) CutX.no_panic (by decide +kernel) rfl rfl rfl (RV.move rfl) ?_
      refine ED.take 5 rfl (by decide +kernel) CutX.no_panic (by decide +kernel) rfl rfl rfl (RV.nilCheck rfl) ?_
      refine ED.take 6 rfl (by decide +kernel) CutX.no_panic (by decide +kernel) rfl rfl rfl (RV.fieldAddr rfl rfl rfl rfl rfl rfl) ?_
      refine ED.take 7 rfl (by decide +kernel) CutX.no_panic (by decide +kernel) rfl rfl rfl (RV.loadPool rfl rfl rfl (by repeat constructor) ht rfl) ?_
      refine ED.take 8 rfl (by decide +kernel) CutX.no_panic (by decide +kernel) rfl rfl rfl (RV.nilCheck rfl) ?_
      refine ED.take 9 rfl (by decide +kernel) CutX.no_panic (by decide +kernel) rfl rfl rfl (RV.fieldAddr rfl rfl rfl rfl rfl rfl) ?_
      refine ED.take 10 rfl (by decide +kernel) CutX.no_panic (by decide +kernel) rfl rfl rfl (RV.loadOld rfl rfl rfl hrd rfl) ?_
      refine ED.take 11 rfl (by decide +kernel) CutX.no_panic (by decide +kernel) rfl rfl rfl (RV.indexAddrL (i := n) rfl rfl rfl rfl rfl hnl) ?_
      refine ED.take 12 rfl (by decide +kernel) CutX.no_panic (by decide +kernel) rfl rfl rfl (RV.loadRA (spC (a, b)) rfl rfl rfl rfl (by repeat constructor) hcut) ?_
      refine ED.loud 13 rfl (by decide +kernel) ?_
      (refine EL.alloc rfl rfl rfl ?_; intro g6)
      refine ED.next (.i (by repeat constructor)) ?_
      refine ED.last 14 rfl (by decide +kernel) (by decide +kernel) (by decide +kernel) ?_
      (apply EL.storeAll; exact rfl; exact rfl; exact rfl; exact rfl; exact rfl; (case p => repeat constructor); exact rfl; (case h1 => exact (by first | rfl | exact all1 rfl | (intro u hu; simp only [List.mem_cons, List.not_mem_nil, or_false] at hu; rcases hu with rfl | rfl | rfl | rfl <;> rfl) | (intro u hu; simp at hu; rcases hu with rfl | rfl | rfl | rfl <;> rfl) | (intro u hu; simp at hu; rcases hu with rfl | rfl | rfl <;> rfl) | (intro u hu; simp at hu; rcases hu with rfl | rfl <;> rfl) | (intro u hu; simp at hu; obtain ⟨_, _, rfl⟩ := hu; rfl))))
      refine EL.endQ ?_
      exact PX.cutX g6 ⟨rfl, rfl, rfl, trivial⟩ (.i (by repeat constructor))
    by_cases ha : a < 0
    · rw [if_pos ha] at he
      cases he
      refine .g0 ?_; repeat constructor
      refine ES.draw (X := Unit) (fun _ => [(4, .slice none 0 0), (5, .bool false)]) (fun _ => SB10 gs s st (some ⟨spg, 0, none⟩) z.length cap gm :: HA.memo gm 3 es :: PRow (some ⟨spg, 0, none⟩) cap z :: HA.pack pool :: R) (HA.blk g6 (.cells #[Iv a, Iv b] 33) :: []) mixed (.i (by repeat constructor)) ?_ (fun _ => ?_)
      · refine ED.take 0 rfl (by decide +kernel) CutX.no_panic (by decide +kernel) rfl rfl rfl (RV.fieldAddr rfl rfl rfl rfl rfl rfl) ?_
        refine ED.take 1 rfl (by decide +kernel) CutX.no_panic (by decide +kernel) rfl rfl rfl (RV.loadB rfl rfl rfl (by repeat constructor) rfl) ?_
        refine ED.take 2 rfl (by decide +kernel) CutX.no_panic (by decide +kernel) rfl rfl rfl (RV.geq rfl rfl) ?_
        refine ED.take 3 rfl (by decide +kernel) CutX.no_panic (by decide +kernel) rfl rfl rfl (RV.move rfl) ?_
        refine ED.rew (d := 34) (v' := .bool false) rfl ((by simpa using ha)) ?_
        refine ED.pass 4 rfl (by decide +kernel) CutX.no_panic (by decide +kernel) rfl rfl rfl ?_
        refine ED.pass 5 rfl (by decide +kernel) CutX.no_panic (by decide +kernel) rfl rfl rfl ?_
        refine ED.pass 6 rfl (by decide +kernel) CutX.no_panic (by decide +kernel) rfl rfl rfl ?_
        refine ED.pass 7 rfl (by decide +kernel) CutX.no_panic (by decide +kernel) rfl rfl rfl ?_
        refine ED.pass 8 rfl (by decide +kernel) CutX.no_panic (by decide +kernel) rfl rfl rfl ?_
        refine ED.pass 9 rfl (by decide +kernel) CutX.no_panic (by decide +kernel) rfl rfl rfl ?_
        refine ED.pass 10 rfl (by decide +kernel) CutX.no_panic (by decide +kernel) rfl rfl rfl ?_
        refine ED.pass 11 rfl (by decide +kernel) CutX.no_panic (by decide +kernel) rfl rfl rfl ?_
        refine ED.pass 12 rfl (by decide +kernel) CutX.no_panic (by decide +kernel) rfl rfl rfl ?_
        refine ED.pass 13 rfl (by decide +kernel) CutX.no_panic (by decide +kernel) rfl rfl rfl ?_
        refine ED.pass 14 rfl (by decide +kernel) CutX.no_panic (by decide +kernel) rfl rfl rfl ?_
        refine ED.pass 15 rfl (by decide +kernel) CutX.no_panic (by decide +kernel) rfl rfl rfl ?_
        refine ED.pass 16 rfl (by decide +kernel) CutX.no_panic (by decide +kernel) rfl rfl rfl ?_
        refine ED.pass 17 rfl (by decide +kernel) CutX.no_panic (by decide +kernel) rfl rfl rfl ?_
        refine ED.pass 18 rfl (by decide +kernel) CutX.no_panic (by decide +kernel) rfl rfl rfl ?_
        refine ED.pass 19 rfl (by decide +kernel) CutX.no_panic (by decide +kernel) rfl rfl rfl ?_
        refine ED.pass 20 rfl (by decide +kernel) CutX.no_panic (by decide +kernel) rfl rfl rfl ?_
        refine ED.pass 21 rfl (by decide +kernel) CutX.no_panic (by decide +kernel) rfl rfl rfl ?_
        refine ED.pass 22 rfl (by decide +kernel) CutX.no_panic (by decide +kernel) rfl rfl rfl ?_
        refine ED.pass 23 rfl (by decide +kernel) CutX.no_panic (by decide +kernel) rfl rfl rfl ?_
        refine ED.pass 24 rfl (by decide +kernel) CutX.no_panic (by decide +kernel) rfl rfl rfl ?_
        refine ED.pass 25 rfl (by decide +kernel) CutX.no_panic (by decide +kernel) rfl rfl rfl ?_
        refine ED.pass 26 rfl (by decide +kernel) CutX.no_panic (by decide +kernel) rfl rfl rfl ?_
        refine ED.pass 27 rfl (by decide +kernel) CutX.no_panic (by decide +kernel) rfl rfl rfl ?_
        refine ED.pass 28 rfl (by decide +kernel) CutX.no_panic (by decide +kernel) rfl rfl rfl ?_
        refine ED.take 29 rfl (by decide +kernel) CutX.no_panic (by decide +kernel) rfl rfl rfl (RV.pickF rfl rfl) ?_
        refine ED.take 30 rfl (by decide +kernel) CutX.no_panic (by decide +kernel) rfl rfl rfl (RV.assign rfl) ?_
        refine ED.take 31 rfl (by decide +kernel) CutX.no_panic (by decide +kernel) rfl rfl rfl (RV.assign rfl) ?_
        refine ED.done (by decide +kernel) ?_
        exact PX.cutX () ⟨rfl, rfl, trivial⟩ (.i (by repeat constructor))
      refine .go ?_; repeat constructor
      exact PX.ret rfl Try.results94 (.cons (.tmp rfl) (.cons (.tmp rfl) .nil)) (fun w hs => ⟨EnX.none hok, rfl, hs.ent (.i (by repeat constructor))⟩)
    · rw [if_neg ha] at he
      split at he
      rotate_left
      · cases he
      rename_i hab
      obtain ⟨a, rfl⟩ : ∃ a' : Nat, a = (a' : Int) := ⟨a.toNat, by omega⟩
      obtain ⟨b, rfl⟩ : ∃ b' : Nat, b = (b' : Int) := ⟨b.toNat, by omega⟩
      rw [Int.toNat_natCast, Int.toNat_natCast] at he
      cases he
      have hcmp : ((s.drop a).take (b - a) = (s.drop i).take (j - i)) ↔ ((s.take b).drop a = (s.take j).drop i) := by rw [List.drop_take, List.drop_take]
      refine .g0 ?_; repeat constructor
      refine ES.draw (X := Unit) (fun _ => [(4, .slice none 0 0), (5, .bool (decide ((s.take b).drop a = (s.take j).drop i)))]) (fun _ => SB10 gs s st (some ⟨spg, 0, none⟩) z.length cap gm :: HA.memo gm 3 es :: PRow (some ⟨spg, 0, none⟩) cap z :: HA.pack pool :: R) (HA.blk g6 (.cells #[Iv (a : Nat), Iv (b : Nat)] 33) :: SB10 gs s st (some ⟨spg, 0, none⟩) z.length cap gm :: HA.pack pool :: []) mixed (.i (by repeat constructor)) ?_ (fun _ => ?_)
      · refine ED.take 0 rfl (by decide +kernel) CutX.no_panic (by decide +kernel) rfl rfl rfl (RV.fieldAddr rfl rfl rfl rfl rfl rfl) ?_
        refine ED.take 1 rfl (by decide +kernel) CutX.no_panic (by decide +kernel) rfl rfl rfl (RV.loadB rfl rfl rfl (by repeat constructor) rfl) ?_
        refine ED.take 2 rfl (by decide +kernel) CutX.no_panic (by decide +kernel) rfl rfl rfl (RV.geq rfl rfl) ?_
        refine ED.take 3 rfl (by decide +kernel) CutX.no_panic (by decide +kernel) rfl rfl rfl (RV.move rfl) ?_
        refine ED.rew (d := 34) (v' := .bool true) rfl ((by simp)) ?_
        refine ED.take 4 rfl (by decide +kernel) CutX.no_panic (by decide +kernel) rfl rfl rfl (RV.move rfl) ?_
        refine ED.take 5 rfl (by decide +kernel) CutX.no_panic (by decide +kernel) rfl rfl rfl (RV.nilCheck rfl) ?_
        refine ED.take 6 rfl (by decide +kernel) CutX.no_panic (by decide +kernel) rfl rfl rfl (RV.fieldAddr rfl rfl rfl rfl rfl rfl) ?_
        refine ED.take 7 rfl (by decide +kernel) CutX.no_panic (by decide +kernel) rfl rfl rfl (RV.fieldAddr rfl rfl rfl rfl rfl rfl) ?_
        refine ED.take 8 rfl (by decide +kernel) CutX.no_panic (by decide +kernel) rfl rfl rfl (RV.loadB rfl rfl rfl (by repeat constructor) rfl) ?_
        refine ED.take 9 rfl (by decide +kernel) CutX.no_panic (by decide +kernel) rfl rfl rfl (RV.fieldAddr rfl rfl rfl rfl rfl rfl) ?_
        refine ED.take 10 rfl (by decide +kernel) CutX.no_panic (by decide +kernel) rfl rfl rfl (RV.loadB rfl rfl rfl (by repeat constructor) rfl) ?_
        refine ED.take 11 rfl (by decide +kernel) CutX.no_panic (by decide +kernel) rfl rfl rfl (RV.fieldAddr rfl rfl rfl rfl rfl rfl) ?_
        refine ED.take 12 rfl (by decide +kernel) CutX.no_panic (by decide +kernel) rfl rfl rfl (RV.loadB rfl rfl rfl (by repeat constructor) rfl) ?_
        refine ED.take 13 rfl (by decide +kernel) CutX.no_panic (by decide +kernel) rfl rfl rfl (RV.sliceS (m := a) (n := b) rfl rfl rfl ⟨_, rfl⟩ ⟨_, rfl⟩ (by omega) (by omega)) ?_
        refine ED.take 14 rfl (by decide +kernel) CutX.no_panic (by decide +kernel) rfl rfl rfl (RV.move rfl) ?_
        refine ED.take 15 rfl (by decide +kernel) CutX.no_panic (by decide +kernel) rfl rfl rfl (RV.nilCheck rfl) ?_
        refine ED.take 16 rfl (by decide +kernel) CutX.no_panic (by decide +kernel) rfl rfl rfl (RV.fieldAddr rfl rfl rfl rfl rfl rfl) ?_
        refine ED.take 17 rfl (by decide +kernel) CutX.no_panic (by decide +kernel) rfl rfl rfl (RV.fieldAddr rfl rfl rfl rfl rfl rfl) ?_
        refine ED.take 18 rfl (by decide +kernel) CutX.no_panic (by decide +kernel) rfl rfl rfl (RV.loadB rfl rfl rfl (by repeat constructor) rfl) ?_
        refine ED.take 19 rfl (by decide +kernel) CutX.no_panic (by decide +kernel) rfl rfl rfl (RV.move rfl) ?_
        refine ED.take 20 rfl (by decide +kernel) CutX.no_panic (by decide +kernel) rfl rfl rfl (RV.nilCheck rfl) ?_
        refine ED.take 21 rfl (by decide +kernel) CutX.no_panic (by decide +kernel) rfl rfl rfl (RV.fieldAddr rfl rfl rfl rfl rfl rfl) ?_
        refine ED.take 22 rfl (by decide +kernel) CutX.no_panic (by decide +kernel) rfl rfl rfl (RV.loadPool rfl rfl rfl (by repeat constructor) ht rfl) ?_
        refine ED.take 23 rfl (by decide +kernel) CutX.no_panic (by decide +kernel) rfl rfl rfl (RV.move rfl) ?_
        refine ED.take 24 rfl (by decide +kernel) CutX.no_panic (by decide +kernel) rfl rfl rfl (RV.nilCheck rfl) ?_
        refine ED.take 25 rfl (by decide +kernel) CutX.no_panic (by decide +kernel) rfl rfl rfl (RV.fieldAddr rfl rfl rfl rfl rfl rfl) ?_
        refine ED.take 26 rfl (by decide +kernel) CutX.no_panic (by decide +kernel) rfl rfl rfl (RV.loadPool rfl rfl rfl (by repeat constructor) ht rfl) ?_
        refine ED.take 27 rfl (by decide +kernel) CutX.no_panic (by decide +kernel) rfl rfl rfl (RV.sliceS (m := i) (n := j) rfl rfl rfl ⟨_, rfl⟩ ⟨_, rfl⟩ (by omega) (by omega)) ?_
        refine ED.take 28 rfl (by decide +kernel) CutX.no_panic (by decide +kernel) rfl rfl rfl (RV.eqlS rfl rfl) ?_
        refine ED.take 29 rfl (by decide +kernel) CutX.no_panic (by decide +kernel) rfl rfl rfl (RV.pickT rfl rfl) ?_
        refine ED.take 30 rfl (by decide +kernel) CutX.no_panic (by decide +kernel) rfl rfl rfl (RV.assign rfl) ?_
        refine ED.take 31 rfl (by decide +kernel) CutX.no_panic (by decide +kernel) rfl rfl rfl (RV.assign rfl) ?_
        refine ED.done (by decide +kernel) ?_
        exact PX.cutX () ⟨rfl, getA rfl (congrArg Value.bool (decide_eq_decide.2 hcmp)), trivial⟩ (.i (by repeat constructor))
      refine .go ?_; repeat constructor
      exact PX.ret rfl Try.results94 (.cons (.tmp rfl) (.cons (.tmp rfl) .nil)) (fun w hs => ⟨EnX.none hok, rfl, hs.ent (.i (by repeat constructor))⟩)
  refine .go ?_; repeat constructor
  refine EL.eqlI rfl rfl rfl rfl ?_
  refine EL.assign rfl rfl rfl ?_
  refine .go ?_; repeat constructor
  refine ES.condD rfl (fun h4 => ?_) (fun h4 => ?_)
  · obtain ⟨n, x, rfl⟩ := kind_4 (show r.kind = 4 by omega)
    cases he
    refine .go ?_; repeat constructor
    refine EL.move rfl rfl rfl ?_
    refine EL.nilCheck rfl rfl rfl ?_
    refine EL.fieldAddr rfl rfl rfl rfl rfl rfl rfl rfl ?_
    refine EL.loadPool rfl rfl rfl rfl rfl (by repeat constructor) ht rfl ?_
    (refine EL.buildSlice1 rfl rfl rfl rfl rfl rfl rfl rfl rfl rfl ?_; intro b67)
    (refine EL.poolIn (A := HA.row (.slice (some ⟨b67, 0, none⟩) 1 1) 3 1 1 [Iv (j : Nat)]) (by repeat constructor) ?_; refine EL.assign rfl rfl rfl ?_)
    refine EL.assign rfl rfl rfl ?_
    refine .go ?_; repeat constructor
    exact PX.ret rfl Try.results94 (.cons (.tmp rfl) (.cons (.tmp rfl) .nil)) (fun w hs => ⟨EnX.one hok b67 j, rfl, hs.ent (.i (by repeat constructor))⟩)
  refine .go ?_; repeat constructor
  refine EL.eqlI rfl rfl rfl rfl ?_
  refine EL.assign rfl rfl rfl ?_
  refine .go ?_; repeat constructor
  refine ES.condD rfl (fun h0 => ?_) (fun h0 => ?_)
  · obtain ⟨ks, rfl⟩ := kind_0 (show r.kind = 0 by omega)
    dsimp only at he
    refine .g0 ?_; repeat constructor
    refine ES.draw (X := Unit) (fun _ => [(0, Pv gs 0), (1, Pv gt 0), (82, .bool (decide (k = ks.length)))]) (fun _ => SB10 gs s st sp z.length cap gm :: HA.memo gm 3 es :: PRow sp cap z :: HA.pack pool :: R) (HA.pack pool :: []) mixed (.i (by repeat constructor)) ?_ (fun _ => ?_)
    · refine ED.take 0 rfl (by decide +kernel) CutX.no_panic (by decide +kernel) rfl rfl rfl (RV.move rfl) ?_
      refine ED.take 1 rfl (by decide +kernel) CutX.no_panic (by decide +kernel) rfl rfl rfl (RV.nilCheck rfl) ?_
      refine ED.take 2 rfl (by decide +kernel) CutX.no_panic (by decide +kernel) rfl rfl rfl (RV.fieldAddr rfl rfl rfl rfl rfl rfl) ?_
      refine ED.take 3 rfl (by decide +kernel) CutX.no_panic (by decide +kernel) rfl rfl rfl (RV.loadPool rfl rfl rfl (by repeat constructor) ht rfl) ?_
      refine ED.take 4 rfl (by decide +kernel) CutX.no_panic (by decide +kernel) rfl rfl rfl (RV.move rfl) ?_
      refine ED.take 5 rfl (by decide +kernel) CutX.no_panic (by decide +kernel) rfl rfl rfl (RV.nilCheck rfl) ?_
      refine ED.take 6 rfl (by decide +kernel) CutX.no_panic (by decide +kernel) rfl rfl rfl (RV.fieldAddr rfl rfl rfl rfl rfl rfl) ?_
      refine ED.take 7 rfl (by decide +kernel) CutX.no_panic (by decide +kernel) rfl rfl rfl (RV.loadPool rfl rfl rfl (by repeat constructor) ht rfl) ?_
      refine ED.take 8 rfl (by decide +kernel) CutX.no_panic (by decide +kernel) rfl rfl rfl (RV.nilCheck rfl) ?_
      refine ED.take 9 rfl (by decide +kernel) CutX.no_panic (by decide +kernel) rfl rfl rfl (RV.fieldAddr rfl rfl rfl rfl rfl rfl) ?_
      refine ED.take 10 rfl (by decide +kernel) CutX.no_panic (by decide +kernel) rfl rfl rfl (RV.loadOld rfl rfl rfl hrd rfl) ?_
      refine ED.take 11 rfl (by decide +kernel) CutX.no_panic (by decide +kernel) rfl rfl rfl (RV.lenL rfl rfl rfl) ?_
      refine ED.take 12 rfl (by decide +kernel) CutX.no_panic (by decide +kernel) rfl rfl rfl (RV.eqlI rfl rfl) ?_
      refine ED.done (by decide +kernel) ?_
      exact PX.cutX () ⟨rfl, rfl, getA rfl (congrArg Value.bool (decide_eq_decide.2 (show ((k : Nat) : Int) = ((ks.length : Nat) : Int) ↔ k = ks.length by omega))), trivial⟩ (.i (by repeat constructor))
    refine ES.condD rfl (fun hk => ?_) (fun hk => ?_)
    · rw [if_pos hk] at he
      cases he
      refine .go ?_; repeat constructor
      refine EL.assign rfl rfl rfl ?_
      refine EL.assign rfl rfl rfl ?_
      refine .go ?_; repeat constructor
      exact PX.ret rfl Try.results94 (.cons (.tmp rfl) (.cons (.tmp rfl) .nil)) (fun w hs => ⟨EnX.none hok, rfl, hs.ent (.i (by repeat constructor))⟩)
    rw [if_neg hk] at he
    refine .g0 ?_; repeat constructor
    have hkb : k ≤ 1073741824 := by
      split at he
      · have := hf.1; omega
      · split at he
        · rename_i h1; have := hf.1; omega
        · cases he
    refine ES.draw (X := Unit) (fun _ => [(0, Pv gs 0), (1, Pv gt 0), (96, .bool (decide (k + 1 = ks.length)))]) (fun _ => SB10 gs s st sp z.length cap gm :: HA.memo gm 3 es :: PRow sp cap z :: HA.pack pool :: R) (HA.pack pool :: []) mixed (.i (by repeat constructor)) ?_ (fun _ => ?_)
    · refine ED.take 0 rfl (by decide +kernel) CutX.no_panic (by decide +kernel) rfl rfl rfl (RV.move rfl) ?_
      refine ED.take 1 rfl (by decide +kernel) CutX.no_panic (by decide +kernel) rfl rfl rfl (RV.nilCheck rfl) ?_
      refine ED.take 2 rfl (by decide +kernel) CutX.no_panic (by decide +kernel) rfl rfl rfl (RV.fieldAddr rfl rfl rfl rfl rfl rfl) ?_
      refine ED.take 3 rfl (by decide +kernel) CutX.no_panic (by decide +kernel) rfl rfl rfl (RV.loadPool rfl rfl rfl (by repeat constructor) ht rfl) ?_
      refine ED.take 4 rfl (by decide +kernel) CutX.no_panic (by decide +kernel) rfl rfl rfl (RV.add1 rfl rfl (by omega)) ?_
      refine ED.take 5 rfl (by decide +kernel) CutX.no_panic (by decide +kernel) rfl rfl rfl (RV.move rfl) ?_
      refine ED.take 6 rfl (by decide +kernel) CutX.no_panic (by decide +kernel) rfl rfl rfl (RV.nilCheck rfl) ?_
      refine ED.take 7 rfl (by decide +kernel) CutX.no_panic (by decide +kernel) rfl rfl rfl (RV.fieldAddr rfl rfl rfl rfl rfl rfl) ?_
      refine ED.take 8 rfl (by decide +kernel) CutX.no_panic (by decide +kernel) rfl rfl rfl (RV.loadPool rfl rfl rfl (by repeat constructor) ht rfl) ?_
      refine ED.take 9 rfl (by decide +kernel) CutX.no_panic (by decide +kernel) rfl rfl rfl (RV.nilCheck rfl) ?_
      refine ED.take 10 rfl (by decide +kernel) CutX.no_panic (by decide +kernel) rfl rfl rfl (RV.fieldAddr rfl rfl rfl rfl rfl rfl) ?_
      refine ED.take 11 rfl (by decide +kernel) CutX.no_panic (by decide +kernel) rfl rfl rfl (RV.loadOld rfl rfl rfl hrd rfl) ?_
      refine ED.take 12 rfl (by decide +kernel) CutX.no_panic (by decide +kernel) rfl rfl rfl (RV.lenL rfl rfl rfl) ?_
      refine ED.take 13 rfl (by decide +kernel) CutX.no_panic (by decide +kernel) rfl rfl rfl (RV.eqlI rfl rfl) ?_
      refine ED.done (by decide +kernel) ?_
      exact PX.cutX () ⟨rfl, rfl, getA rfl (congrArg Value.bool (decide_eq_decide.2 (show ((k + 1 : Nat) : Int) = ((ks.length : Nat) : Int) ↔ k + 1 = ks.length by omega))), trivial⟩ (.i (by repeat constructor))
    refine ES.condD rfl (fun hk1 => ?_) (fun hk1 => ?_)
    · rw [if_pos hk1] at he
      cases he
      refine .go ?_; repeat constructor
      refine EL.move rfl rfl rfl ?_
      refine EL.nilCheck rfl rfl rfl ?_
      refine EL.fieldAddr rfl rfl rfl rfl rfl rfl rfl rfl ?_
      refine EL.loadPool rfl rfl rfl rfl rfl (by repeat constructor) ht rfl ?_
      (refine EL.buildSlice1 rfl rfl rfl rfl rfl rfl rfl rfl rfl rfl ?_; intro b101)
      (refine EL.poolIn (A := HA.row (.slice (some ⟨b101, 0, none⟩) 1 1) 3 1 1 [Iv (j : Nat)]) (by repeat constructor) ?_; refine EL.assign rfl rfl rfl ?_)
      refine EL.assign rfl rfl rfl ?_
      refine .go ?_; repeat constructor
      exact PX.ret rfl Try.results94 (.cons (.tmp rfl) (.cons (.tmp rfl) .nil)) (fun w hs => ⟨EnX.one hok b101 j, rfl, hs.ent (.i (by repeat constructor))⟩)
    rw [if_neg hk1] at he
    split at he
    rotate_left
    · cases he
    rename_i hkc
    obtain ⟨hk2, hcost⟩ := hkc
    cases he
    have hcost' : costL ((ks.drop k).take 1) + 1 ≤ 131072 ∧ costL (ks.drop (k + 1)) + 1 ≤ 131072 := by simpa [costB] using hcost
    obtain ⟨kg, ko, rfl, _⟩ := hkids k ks[k] (List.getElem?_eq_getElem hk2)
    have hkl' : ks.length ≤ 1024 := hf.1
    have hkc4 : ks.length ≤ kcap := q4
    have hkk : (RE.cat ks).kids.length = ks.length := rfl
    have hfk : ∀ a ∈ ks, a.fine := (fineL_iff _).1 hf.2
    have hsp := splitsB_c gs gm s hs st hst sp z.length cap es (.cat ks) k i j hij hj w0 B gr off hn hok ((ks.drop k).take 1) (ks.drop (k + 1)) rfl (fun a ha => hfk a (List.mem_of_mem_drop (List.mem_of_mem_take ha))) (fun a ha => hfk a (List.mem_of_mem_drop ha)) (by simp; omega) (by simp; omega) hcost'.1 hcost'.2
      (k + 1 - k) (ks.length - (k + 1)) (by simp; omega) (by simp) (some ⟨kg, ko + k * 9, none⟩) (some ⟨kg, ko + (k + 1) * 9, none⟩) (kcap - k) (kcap - (k + 1)) HA.emp
      (kids_drop hkids k _ (fun a b hab => by
        rw [List.getElem?_take] at hab
        split at hab
        · rw [List.getElem?_drop] at hab; exact hab
        · cases hab) HA.emp)
      (kids_drop hkids (k + 1) _ (fun a b hab => by rw [List.getElem?_drop] at hab; exact hab) HA.emp)
    refine .g0 ?_; repeat constructor
    refine ES.imp (H' := HA.emp :: SB10 gs s st sp z.length cap gm :: HA.memo gm 3 es :: PRow sp cap z :: HA.pack pool :: R) (fun w hs => hs.emp) ?_
    refine ES.draw (X := SplX w0 B s es (.cat ks) k i j st) (fun x => [(4, .slice x.ad (listB s (.cat ks) k i j).length x.cap), (5, .bool true)]) (fun x => SB10 gs s x.st' sp z.length cap gm :: HA.memo gm 3 x.es' :: PRow sp cap z :: HA.pack pool :: R) (HA.pack pool :: []) mixed (.i (by repeat constructor)) ?_ (fun x => ?_)
    · refine ED.take 0 rfl (by decide +kernel) CutX.no_panic (by decide +kernel) rfl rfl rfl (RV.move rfl) ?_
      refine ED.take 1 rfl (by decide +kernel) CutX.no_panic (by decide +kernel) rfl rfl rfl (RV.move rfl) ?_
      refine ED.take 2 rfl (by decide +kernel) CutX.no_panic (by decide +kernel) rfl rfl rfl (RV.nilCheck rfl) ?_
      refine ED.take 3 rfl (by decide +kernel) CutX.no_panic (by decide +kernel) rfl rfl rfl (RV.fieldAddr rfl rfl rfl rfl rfl rfl) ?_
      refine ED.take 4 rfl (by decide +kernel) CutX.no_panic (by decide +kernel) rfl rfl rfl (RV.loadPool rfl rfl rfl (by repeat constructor) ht rfl) ?_
      refine ED.take 5 rfl (by decide +kernel) CutX.no_panic (by decide +kernel) rfl rfl rfl (RV.move rfl) ?_
      refine ED.take 6 rfl (by decide +kernel) CutX.no_panic (by decide +kernel) rfl rfl rfl (RV.nilCheck rfl) ?_
      refine ED.take 7 rfl (by decide +kernel) CutX.no_panic (by decide +kernel) rfl rfl rfl (RV.fieldAddr rfl rfl rfl rfl rfl rfl) ?_
      refine ED.take 8 rfl (by decide +kernel) CutX.no_panic (by decide +kernel) rfl rfl rfl (RV.loadPool rfl rfl rfl (by repeat constructor) ht rfl) ?_
      refine ED.take 9 rfl (by decide +kernel) CutX.no_panic (by decide +kernel) rfl rfl rfl (RV.move rfl) ?_
      refine ED.take 10 rfl (by decide +kernel) CutX.no_panic (by decide +kernel) rfl rfl rfl (RV.nilCheck rfl) ?_
      refine ED.take 11 rfl (by decide +kernel) CutX.no_panic (by decide +kernel) rfl rfl rfl (RV.fieldAddr rfl rfl rfl rfl rfl rfl) ?_
      refine ED.take 12 rfl (by decide +kernel) CutX.no_panic (by decide +kernel) rfl rfl rfl (RV.loadPool rfl rfl rfl (by repeat constructor) ht rfl) ?_
      refine ED.take 13 rfl (by decide +kernel) CutX.no_panic (by decide +kernel) rfl rfl rfl (RV.move rfl) ?_
      refine ED.take 14 rfl (by decide +kernel) CutX.no_panic (by decide +kernel) rfl rfl rfl (RV.nilCheck rfl) ?_
      refine ED.take 15 rfl (by decide +kernel) CutX.no_panic (by decide +kernel) rfl rfl rfl (RV.fieldAddr rfl rfl rfl rfl rfl rfl) ?_
      refine ED.take 16 rfl (by decide +kernel) CutX.no_panic (by decide +kernel) rfl rfl rfl (RV.loadPool rfl rfl rfl (by repeat constructor) ht rfl) ?_
      refine ED.take 17 rfl (by decide +kernel) CutX.no_panic (by decide +kernel) rfl rfl rfl (RV.buildS #[Pv gr off, Iv (k : Nat), Iv (i : Nat), Iv (j : Nat)] rfl rfl rfl rfl (by kernel_rfl)) ?_
      refine ED.take 18 rfl (by decide +kernel) CutX.no_panic (by decide +kernel) rfl rfl rfl (RV.move rfl) ?_
      refine ED.take 19 rfl (by decide +kernel) CutX.no_panic (by decide +kernel) rfl rfl rfl (RV.nilCheck rfl) ?_
      refine ED.take 20 rfl (by decide +kernel) CutX.no_panic (by decide +kernel) rfl rfl rfl (RV.fieldAddr rfl rfl rfl rfl rfl rfl) ?_
      refine ED.take 21 rfl (by decide +kernel) CutX.no_panic (by decide +kernel) rfl rfl rfl (RV.loadPool rfl rfl rfl (by repeat constructor) ht rfl) ?_
      refine ED.take 22 rfl (by decide +kernel) CutX.no_panic (by decide +kernel) rfl rfl rfl (RV.nilCheck rfl) ?_
      refine ED.take 23 rfl (by decide +kernel) CutX.no_panic (by decide +kernel) rfl rfl rfl (RV.fieldAddr rfl rfl rfl rfl rfl rfl) ?_
      refine ED.take 24 rfl (by decide +kernel) CutX.no_panic (by decide +kernel) rfl rfl rfl (RV.loadOld rfl rfl rfl hrd rfl) ?_
      refine ED.take 25 rfl (by decide +kernel) CutX.no_panic (by decide +kernel) rfl rfl rfl (RV.move rfl) ?_
      refine ED.take 26 rfl (by decide +kernel) CutX.no_panic (by decide +kernel) rfl rfl rfl (RV.nilCheck rfl) ?_
      refine ED.take 27 rfl (by decide +kernel) CutX.no_panic (by decide +kernel) rfl rfl rfl (RV.fieldAddr rfl rfl rfl rfl rfl rfl) ?_
      refine ED.take 28 rfl (by decide +kernel) CutX.no_panic (by decide +kernel) rfl rfl rfl (RV.loadPool rfl rfl rfl (by repeat constructor) ht rfl) ?_
      refine ED.take 29 rfl (by decide +kernel) CutX.no_panic (by decide +kernel) rfl rfl rfl (RV.move rfl) ?_
      refine ED.take 30 rfl (by decide +kernel) CutX.no_panic (by decide +kernel) rfl rfl rfl (RV.nilCheck rfl) ?_
      refine ED.take 31 rfl (by decide +kernel) CutX.no_panic (by decide +kernel) rfl rfl rfl (RV.fieldAddr rfl rfl rfl rfl rfl rfl) ?_
      refine ED.take 32 rfl (by decide +kernel) CutX.no_panic (by decide +kernel) rfl rfl rfl (RV.loadPool rfl rfl rfl (by repeat constructor) ht rfl) ?_
      refine ED.take 33 rfl (by decide +kernel) CutX.no_panic (by decide +kernel) rfl rfl rfl (RV.add1 rfl rfl (by omega)) ?_
      refine ED.take 34 rfl (by decide +kernel) CutX.no_panic (by decide +kernel) rfl rfl rfl (RV.sliceLHk (lo := k) (hi := k + 1) rfl rfl rfl rfl rfl rfl (by omega) (by omega) (by omega)) ?_
      refine ED.take 35 rfl (by decide +kernel) CutX.no_panic (by decide +kernel) rfl rfl rfl (RV.move rfl) ?_
      refine ED.take 36 rfl (by decide +kernel) CutX.no_panic (by decide +kernel) rfl rfl rfl (RV.nilCheck rfl) ?_
      refine ED.take 37 rfl (by decide +kernel) CutX.no_panic (by decide +kernel) rfl rfl rfl (RV.fieldAddr rfl rfl rfl rfl rfl rfl) ?_
      refine ED.take 38 rfl (by decide +kernel) CutX.no_panic (by decide +kernel) rfl rfl rfl (RV.loadPool rfl rfl rfl (by repeat constructor) ht rfl) ?_
      refine ED.take 39 rfl (by decide +kernel) CutX.no_panic (by decide +kernel) rfl rfl rfl (RV.nilCheck rfl) ?_
      refine ED.take 40 rfl (by decide +kernel) CutX.no_panic (by decide +kernel) rfl rfl rfl (RV.fieldAddr rfl rfl rfl rfl rfl rfl) ?_
      refine ED.take 41 rfl (by decide +kernel) CutX.no_panic (by decide +kernel) rfl rfl rfl (RV.loadOld rfl rfl rfl hrd rfl) ?_
      refine ED.take 42 rfl (by decide +kernel) CutX.no_panic (by decide +kernel) rfl rfl rfl (RV.move rfl) ?_
      refine ED.take 43 rfl (by decide +kernel) CutX.no_panic (by decide +kernel) rfl rfl rfl (RV.nilCheck rfl) ?_
      refine ED.take 44 rfl (by decide +kernel) CutX.no_panic (by decide +kernel) rfl rfl rfl (RV.fieldAddr rfl rfl rfl rfl rfl rfl) ?_
      refine ED.take 45 rfl (by decide +kernel) CutX.no_panic (by decide +kernel) rfl rfl rfl (RV.loadPool rfl rfl rfl (by repeat constructor) ht rfl) ?_
      refine ED.take 46 rfl (by decide +kernel) CutX.no_panic (by decide +kernel) rfl rfl rfl (RV.add1 rfl rfl (by omega)) ?_
      refine ED.take 47 rfl (by decide +kernel) CutX.no_panic (by decide +kernel) rfl rfl rfl (RV.sliceLk (lo := k + 1) rfl rfl rfl rfl rfl (by omega) (by omega) (by omega)) ?_
      refine ED.loud 48 rfl (by decide +kernel) ?_
      (refine EL.callMw rfl rfl rfl ent105 rfl hsp (by repeat constructor) ?_; intro x)
      refine ED.next (.i (by repeat constructor)) ?_
      refine ED.take 49 rfl (by decide +kernel) CutX.no_panic (by decide +kernel) rfl rfl rfl (RV.assign rfl) ?_
      refine ED.take 50 rfl (by decide +kernel) CutX.no_panic (by decide +kernel) rfl rfl rfl (RV.assign rfl) ?_
      refine ED.done (by decide +kernel) ?_
      exact PX.cutX x ⟨rfl, rfl, trivial⟩ (.i (by repeat constructor))
    refine .go ?_; repeat constructor
    exact PX.ret rfl Try.results94 (.cons (.tmp rfl) (.cons (.tmp rfl) .nil)) (fun w hs => ⟨⟨x.es', x.st', pool, x.ad, x.cap, x.sub, fun _ h => h, x.ok, x.le, (ent_ends hs (Mem.mem (by repeat constructor)) x.mem x.ent x.val pool).1, (ent_ends hs (Mem.mem (by repeat constructor)) x.mem x.ent x.val pool).2⟩, rfl, hs.ent (.i (by repeat constructor))⟩)
  refine .go ?_; repeat constructor
  refine EL.eqlI rfl rfl rfl rfl ?_
  refine EL.assign rfl rfl rfl ?_
  refine .go ?_; repeat constructor
  refine ES.condD rfl (fun h5 => ?_) (fun h5 => ?_)
  · obtain ⟨lo, hi, x, rfl⟩ := kind_5 (show r.kind = 5 by omega)
    have hkf := hf.2.2.2.2
    have hlo := hf.1
    have hle := least_le lo x
    have hkk : (RE.rep lo hi x).kids.length = 1 := rfl
    obtain ⟨g', o', rfl, _⟩ := hkids 0 x rfl
    dsimp only at he
    refine .go ?_; repeat constructor
    refine EL.move rfl rfl rfl ?_
    refine EL.nilCheck rfl rfl rfl ?_
    refine EL.fieldAddr rfl rfl rfl rfl rfl rfl rfl rfl ?_
    refine EL.loadPool rfl rfl rfl rfl rfl (by repeat constructor) ht rfl ?_
    refine EL.callPw rfl rfl rfl ent82 rfl (fun w hs => least_c lo hi x hf gr off w (NodeRd.sat hn hs)) ?_
    refine EL.assign rfl rfl rfl ?_
    refine .go ?_; repeat constructor
    refine ES.draw (X := Unit) (fun _ => [(0, Pv gs 0), (1, Pv gt 0), (7, Iv (leastM lo x : Nat)), (174, .bool (decide (i = j ∧ leastM lo x ≤ k)))]) (fun _ => SB10 gs s st sp z.length cap gm :: HA.memo gm 3 es :: PRow sp cap z :: HA.pack pool :: R) (HA.pack pool :: []) mixed (.i (by repeat constructor)) ?_ (fun _ => ?_)
    · refine ED.take 0 rfl (by decide +kernel) CutX.no_panic (by decide +kernel) rfl rfl rfl (RV.move rfl) ?_
      refine ED.take 1 rfl (by decide +kernel) CutX.no_panic (by decide +kernel) rfl rfl rfl (RV.nilCheck rfl) ?_
      refine ED.take 2 rfl (by decide +kernel) CutX.no_panic (by decide +kernel) rfl rfl rfl (RV.fieldAddr rfl rfl rfl rfl rfl rfl) ?_
      refine ED.take 3 rfl (by decide +kernel) CutX.no_panic (by decide +kernel) rfl rfl rfl (RV.loadPool rfl rfl rfl (by repeat constructor) ht rfl) ?_
      refine ED.take 4 rfl (by decide +kernel) CutX.no_panic (by decide +kernel) rfl rfl rfl (RV.move rfl) ?_
      refine ED.take 5 rfl (by decide +kernel) CutX.no_panic (by decide +kernel) rfl rfl rfl (RV.nilCheck rfl) ?_
      refine ED.take 6 rfl (by decide +kernel) CutX.no_panic (by decide +kernel) rfl rfl rfl (RV.fieldAddr rfl rfl rfl rfl rfl rfl) ?_
      refine ED.take 7 rfl (by decide +kernel) CutX.no_panic (by decide +kernel) rfl rfl rfl (RV.loadPool rfl rfl rfl (by repeat constructor) ht rfl) ?_
      refine ED.take 8 rfl (by decide +kernel) CutX.no_panic (by decide +kernel) rfl rfl rfl (RV.eqlI rfl rfl) ?_
      refine ED.take 9 rfl (by decide +kernel) CutX.no_panic (by decide +kernel) rfl rfl rfl (RV.move rfl) ?_
      first | refine ED.part (d := 167) rfl (fun hp167 => ?_) (fun hp167 => ?_) | refine ED.partN (d := 167) rfl (fun hp167 => ?_) (fun hp167 => ?_) | refine ED.partB (d := 167) rfl (fun hp167 => ?_) (fun hp167 => ?_)
      · refine ED.take 10 rfl (by decide +kernel) CutX.no_panic (by decide +kernel) rfl rfl rfl (RV.move rfl) ?_
        refine ED.take 11 rfl (by decide +kernel) CutX.no_panic (by decide +kernel) rfl rfl rfl (RV.nilCheck rfl) ?_
        refine ED.take 12 rfl (by decide +kernel) CutX.no_panic (by decide +kernel) rfl rfl rfl (RV.fieldAddr rfl rfl rfl rfl rfl rfl) ?_
        refine ED.take 13 rfl (by decide +kernel) CutX.no_panic (by decide +kernel) rfl rfl rfl (RV.loadPool rfl rfl rfl (by repeat constructor) ht rfl) ?_
        refine ED.take 14 rfl (by decide +kernel) CutX.no_panic (by decide +kernel) rfl rfl rfl (RV.move rfl) ?_
        refine ED.take 15 rfl (by decide +kernel) CutX.no_panic (by decide +kernel) rfl rfl rfl (RV.geq rfl rfl) ?_
        refine ED.take 16 rfl (by decide +kernel) CutX.no_panic (by decide +kernel) rfl rfl rfl (RV.pickT rfl rfl) ?_
        refine ED.done (by decide +kernel) ?_
        exact PX.cutX () ⟨rfl, rfl, rfl, getA rfl (congrArg Value.bool (by rw [Bool.eq_iff_iff]; simp only [decide_eq_true_eq, Bool.false_eq_true, false_iff]; omega)), trivial⟩ (.i (by repeat constructor))
      · refine ED.pass 10 rfl (by decide +kernel) CutX.no_panic (by decide +kernel) rfl rfl rfl ?_
        refine ED.pass 11 rfl (by decide +kernel) CutX.no_panic (by decide +kernel) rfl rfl rfl ?_
        refine ED.pass 12 rfl (by decide +kernel) CutX.no_panic (by decide +kernel) rfl rfl rfl ?_
        refine ED.pass 13 rfl (by decide +kernel) CutX.no_panic (by decide +kernel) rfl rfl rfl ?_
        refine ED.pass 14 rfl (by decide +kernel) CutX.no_panic (by decide +kernel) rfl rfl rfl ?_
        refine ED.pass 15 rfl (by decide +kernel) CutX.no_panic (by decide +kernel) rfl rfl rfl ?_
        refine ED.take 16 rfl (by decide +kernel) CutX.no_panic (by decide +kernel) rfl rfl rfl (RV.pickF rfl rfl) ?_
        refine ED.done (by decide +kernel) ?_
        exact PX.cutX () ⟨rfl, rfl, rfl, getA rfl (congrArg Value.bool (by rw [Bool.eq_iff_iff]; simp only [decide_eq_true_eq, Bool.false_eq_true, false_iff]; omega)), trivial⟩ (.i (by repeat constructor))
    refine ES.condD rfl (fun hk => ?_) (fun hk => ?_)
    · rw [if_pos hk] at he
      cases he
      refine .go ?_; repeat constructor
      refine EL.assign rfl rfl rfl ?_
      refine EL.assign rfl rfl rfl ?_
      refine .go ?_; repeat constructor
      exact PX.ret rfl Try.results94 (.cons (.tmp rfl) (.cons (.tmp rfl) .nil)) (fun w hs => ⟨EnX.none hok, rfl, hs.ent (.i (by repeat constructor))⟩)
    rw [if_neg hk] at he
    split at he
    rotate_left
    · cases he
    rename_i hkc
    obtain ⟨hk2, hcost⟩ := hkc
    have hcost' : costL [x] + 1 ≤ 131072 ∧ costL [leftM lo hi x (turnB lo hi x k + 1)] + 1 ≤ 131072 := by simpa [costB] using hcost
    have htu : turnB lo hi x k ≤ k := by unfold turnB; split <;> omega
    refine .go ?_; repeat constructor
    refine EL.move rfl rfl rfl ?_
    refine EL.nilCheck rfl rfl rfl ?_
    refine EL.fieldAddr rfl rfl rfl rfl rfl rfl rfl rfl ?_
    refine EL.loadPool rfl rfl rfl rfl rfl (by repeat constructor) ht rfl ?_
    refine EL.assign rfl rfl rfl ?_
    refine .go ?_; repeat constructor
    refine EL.move rfl rfl rfl ?_
    refine EL.nilCheck rfl rfl rfl ?_
    refine EL.fieldAddr rfl rfl rfl rfl rfl rfl rfl rfl ?_
    refine EL.loadPool rfl rfl rfl rfl rfl (by repeat constructor) ht rfl ?_
    refine EL.nilCheck rfl rfl rfl ?_
    refine EL.fieldAddr rfl rfl rfl rfl rfl rfl rfl rfl ?_
    refine EL.loadOld rfl rfl rfl rfl rfl hrd rfl ?_
    refine EL.lss rfl rfl rfl rfl ?_
    refine .go ?_; repeat constructor
    refine ES.cutC (X := Unit) (fun _ => [(0, Pv gs 0), (1, Pv gt 0), (7, Iv (leastM lo x : Nat)), (8, Iv (turnB lo hi x k : Nat))]) (fun _ => SB10 gs s st sp z.length cap gm :: HA.memo gm 3 es :: PRow sp cap z :: HA.pack pool :: R) ?_ (fun _ => ?_)
    · refine ES.condD rfl (fun hneg => ?_) (fun hneg => ?_)
      · have ht1 : min (k : Int) ((leastM lo x : Nat) : Int) = ((turnB lo hi x k : Nat) : Int) := by
          have : turnB lo hi x k = min k (leastM lo x) := if_pos hneg
          omega
        refine .go ?_; repeat constructor
        refine EL.move rfl rfl rfl ?_
        refine EL.move rfl rfl rfl ?_
        refine EL.ofRV (RV.minI rfl rfl) rfl rfl rfl (by intro c h; cases h) ?_
        refine EL.assign rfl rfl rfl ?_
        refine .go ?_; repeat constructor
        exact PX.cutX () ⟨rfl, rfl, rfl, getA rfl (congrArg Iv ht1), trivial⟩ (.i (by repeat constructor))
      · have ht1 : (k : Int) = ((turnB lo hi x k : Nat) : Int) := by
          have : turnB lo hi x k = k := if_neg hneg
          omega
        refine .go ?_; repeat constructor
        exact PX.cutX () ⟨rfl, rfl, rfl, getA rfl (congrArg Iv ht1), trivial⟩ (.i (by repeat constructor))
    obtain ⟨tb, htb⟩ : ∃ tb, tb = turnB lo hi x k := ⟨_, rfl⟩
    rw [← htb] at he hcost' htu ⊢
    obtain ⟨L, hL⟩ : ∃ L, L = listB s (.rep lo hi x) tb i j := ⟨_, rfl⟩
    have hLl : L.length ≤ j + 1 - i := by rw [hL]; exact spl_len _ _ _ _ _ _
    rw [← hL] at he
    have hsp := fun b => splitsB_c gs gm s hs st hst sp z.length cap es (.rep lo hi x) tb i j hij hj w0 B gr off hn hok [x] [leftM lo hi x (tb + 1)] rfl (fun a ha => by rw [List.mem_singleton] at ha; subst ha; exact hkf) (fun a ha => by rw [List.mem_singleton] at ha; subst ha; exact left_fine hf _) (by simp) (by simp) hcost'.1 hcost'.2
      1 1 rfl rfl (some ⟨g', o', none⟩) (some ⟨b, 0, none⟩) kcap 1 (HA.row (.slice (some ⟨b, 0, none⟩) 1 1) 82 9 1 (reCells (leftM lo hi x (tb + 1)) (.slice (some ⟨g', o', none⟩) 1 kcap)))
      (fun w' H' hs' a b hab => by
        obtain ⟨q, o, e1, e2⟩ := hkids a b hab
        exact ⟨q, o, e1, NodeRd.sat e2 hs'⟩)
      (rowRd_left q2 q3 q4)
    rw [← hL] at hsp
    refine .g0 ?_; repeat constructor
    refine ES.draw (X := SplX w0 B s es (.rep lo hi x) tb i j st) (fun y => [(1, Pv gt 0), (4, .slice y.ad L.length y.cap), (7, Iv (leastM lo x : Nat))]) (fun y => SB10 gs s y.st' sp z.length cap gm :: HA.memo gm 3 y.es' :: PRow sp cap z :: HA.pack pool :: R) (HA.pack pool :: []) mixed (.i (by repeat constructor)) ?_ (fun y => ?_)
    · refine ED.take 0 rfl (by decide +kernel) CutX.no_panic (by decide +kernel) rfl rfl rfl (RV.move rfl) ?_
      refine ED.take 1 rfl (by decide +kernel) CutX.no_panic (by decide +kernel) rfl rfl rfl (RV.move rfl) ?_
      refine ED.take 2 rfl (by decide +kernel) CutX.no_panic (by decide +kernel) rfl rfl rfl (RV.nilCheck rfl) ?_
      refine ED.take 3 rfl (by decide +kernel) CutX.no_panic (by decide +kernel) rfl rfl rfl (RV.fieldAddr rfl rfl rfl rfl rfl rfl) ?_
      refine ED.take 4 rfl (by decide +kernel) CutX.no_panic (by decide +kernel) rfl rfl rfl (RV.loadPool rfl rfl rfl (by repeat constructor) ht rfl) ?_
      refine ED.take 5 rfl (by decide +kernel) CutX.no_panic (by decide +kernel) rfl rfl rfl (RV.move rfl) ?_
      refine ED.take 6 rfl (by decide +kernel) CutX.no_panic (by decide +kernel) rfl rfl rfl (RV.move rfl) ?_
      refine ED.take 7 rfl (by decide +kernel) CutX.no_panic (by decide +kernel) rfl rfl rfl (RV.nilCheck rfl) ?_
      refine ED.take 8 rfl (by decide +kernel) CutX.no_panic (by decide +kernel) rfl rfl rfl (RV.fieldAddr rfl rfl rfl rfl rfl rfl) ?_
      refine ED.take 9 rfl (by decide +kernel) CutX.no_panic (by decide +kernel) rfl rfl rfl (RV.loadPool rfl rfl rfl (by repeat constructor) ht rfl) ?_
      refine ED.take 10 rfl (by decide +kernel) CutX.no_panic (by decide +kernel) rfl rfl rfl (RV.move rfl) ?_
      refine ED.take 11 rfl (by decide +kernel) CutX.no_panic (by decide +kernel) rfl rfl rfl (RV.nilCheck rfl) ?_
      refine ED.take 12 rfl (by decide +kernel) CutX.no_panic (by decide +kernel) rfl rfl rfl (RV.fieldAddr rfl rfl rfl rfl rfl rfl) ?_
      refine ED.take 13 rfl (by decide +kernel) CutX.no_panic (by decide +kernel) rfl rfl rfl (RV.loadPool rfl rfl rfl (by repeat constructor) ht rfl) ?_
      refine ED.take 14 rfl (by decide +kernel) CutX.no_panic (by decide +kernel) rfl rfl rfl (RV.buildS #[Pv gr off, Iv (tb : Nat), Iv (i : Nat), Iv (j : Nat)] rfl rfl rfl rfl (by kernel_rfl)) ?_
      refine ED.take 15 rfl (by decide +kernel) CutX.no_panic (by decide +kernel) rfl rfl rfl (RV.move rfl) ?_
      refine ED.take 16 rfl (by decide +kernel) CutX.no_panic (by decide +kernel) rfl rfl rfl (RV.nilCheck rfl) ?_
      refine ED.take 17 rfl (by decide +kernel) CutX.no_panic (by decide +kernel) rfl rfl rfl (RV.fieldAddr rfl rfl rfl rfl rfl rfl) ?_
      refine ED.take 18 rfl (by decide +kernel) CutX.no_panic (by decide +kernel) rfl rfl rfl (RV.loadPool rfl rfl rfl (by repeat constructor) ht rfl) ?_
      refine ED.take 19 rfl (by decide +kernel) CutX.no_panic (by decide +kernel) rfl rfl rfl (RV.nilCheck rfl) ?_
      refine ED.take 20 rfl (by decide +kernel) CutX.no_panic (by decide +kernel) rfl rfl rfl (RV.fieldAddr rfl rfl rfl rfl rfl rfl) ?_
      refine ED.take 21 rfl (by decide +kernel) CutX.no_panic (by decide +kernel) rfl rfl rfl (RV.loadOld rfl rfl rfl hrd rfl) ?_
      refine ED.take 22 rfl (by decide +kernel) CutX.no_panic (by decide +kernel) rfl rfl rfl (RV.move rfl) ?_
      refine ED.take 23 rfl (by decide +kernel) CutX.no_panic (by decide +kernel) rfl rfl rfl (RV.nilCheck rfl) ?_
      refine ED.take 24 rfl (by decide +kernel) CutX.no_panic (by decide +kernel) rfl rfl rfl (RV.fieldAddr rfl rfl rfl rfl rfl rfl) ?_
      refine ED.take 25 rfl (by decide +kernel) CutX.no_panic (by decide +kernel) rfl rfl rfl (RV.loadPool rfl rfl rfl (by repeat constructor) ht rfl) ?_
      refine ED.take 26 rfl (by decide +kernel) CutX.no_panic (by decide +kernel) rfl rfl rfl (RV.move rfl) ?_
      refine ED.take 27 rfl (by decide +kernel) CutX.no_panic (by decide +kernel) rfl rfl rfl (RV.add1 rfl rfl (by omega)) ?_
      refine ED.loud 28 rfl (by decide +kernel) ?_
      (refine EL.callPw rfl rfl rfl ent93 rfl (fun w hs => left_c lo hi x hf (tb + 1) (by omega) gr off (some ⟨g', o', none⟩) kcap w (NodeRd.sat hn hs) (Rd.sat hrd hs)) ?_)
      refine ED.next (.i (by repeat constructor)) ?_
      refine ED.loud 29 rfl (by decide +kernel) ?_
      (refine EL.buildSlice1 rfl rfl rfl rfl rfl rfl rfl rfl rfl rfl ?_; intro b219)
      refine ED.next (.i (by repeat constructor)) ?_
      refine ED.loud 30 rfl (by decide +kernel) ?_
      (refine EL.callMw rfl rfl rfl ent105 rfl (hsp b219) (by repeat constructor) ?_; intro y)
      refine ED.next (.i (by repeat constructor)) ?_
      refine ED.take 31 rfl (by decide +kernel) CutX.no_panic (by decide +kernel) rfl rfl rfl (RV.assign rfl) ?_
      refine ED.done (by decide +kernel) ?_
      exact PX.cutX y ⟨rfl, rfl, rfl, trivial⟩ (.i (by repeat constructor))
    obtain ⟨es', st', xad, xcap, m, x1, x2, x3, x4, x5, x6⟩ := y
    rw [← hL] at x6
    dsimp only
    refine ES.know (P := EndsAt es' pool xad L ∧ L.length ≤ xcap) (fun w hs => by
      have := ent_ends hs (Mem.mem (by repeat constructor)) x4 x5 (hL ▸ x6) pool
      rw [← hL] at this
      exact this) ?_
    rintro ⟨hE, hcap⟩
    by_cases hnil : L = []
    · subst hnil
      have hcut : cutEB ([] : List Nat) i (decide (leastM lo x ≤ k)) = [] := by unfold cutEB; split <;> rfl
      rw [hcut] at he
      cases he
      refine .g0 ?_; repeat constructor
      refine ES.draw (X := Unit) (fun _ => [(4, .slice xad 0 xcap), (244, .bool false)]) (fun _ => SB10 gs s st' sp z.length cap gm :: HA.memo gm 3 es' :: PRow sp cap z :: HA.pack pool :: R) (HA.pack pool :: []) mixed (.i (by repeat constructor)) ?_ (fun _ => ?_)
      · refine ED.take 0 rfl (by decide +kernel) CutX.no_panic (by decide +kernel) rfl rfl rfl (RV.move rfl) ?_
        refine ED.take 1 rfl (by decide +kernel) CutX.no_panic (by decide +kernel) rfl rfl rfl (RV.nilCheck rfl) ?_
        refine ED.take 2 rfl (by decide +kernel) CutX.no_panic (by decide +kernel) rfl rfl rfl (RV.fieldAddr rfl rfl rfl rfl rfl rfl) ?_
        refine ED.take 3 rfl (by decide +kernel) CutX.no_panic (by decide +kernel) rfl rfl rfl (RV.loadPool rfl rfl rfl (by repeat constructor) ht rfl) ?_
        refine ED.take 4 rfl (by decide +kernel) CutX.no_panic (by decide +kernel) rfl rfl rfl (RV.move rfl) ?_
        refine ED.take 5 rfl (by decide +kernel) CutX.no_panic (by decide +kernel) rfl rfl rfl (RV.geq rfl rfl) ?_
        refine ED.take 6 rfl (by decide +kernel) CutX.no_panic (by decide +kernel) rfl rfl rfl (RV.move rfl) ?_
        first | refine ED.part (d := 227) rfl (fun hp227 => ?_) (fun hp227 => ?_) | refine ED.partN (d := 227) rfl (fun hp227 => ?_) (fun hp227 => ?_) | refine ED.partB (d := 227) rfl (fun hp227 => ?_) (fun hp227 => ?_)
        · refine ED.take 7 rfl (by decide +kernel) CutX.no_panic (by decide +kernel) rfl rfl rfl (RV.move rfl) ?_
          refine ED.take 8 rfl (by decide +kernel) CutX.no_panic (by decide +kernel) rfl rfl rfl (RV.lenL rfl rfl rfl) ?_
          refine ED.take 9 rfl (by decide +kernel) CutX.no_panic (by decide +kernel) rfl rfl rfl (RV.gtr rfl rfl) ?_
          refine ED.take 10 rfl (by decide +kernel) CutX.no_panic (by decide +kernel) rfl rfl rfl (RV.pickT rfl rfl) ?_
          refine ED.take 11 rfl (by decide +kernel) CutX.no_panic (by decide +kernel) rfl rfl rfl (RV.move rfl) ?_
          refine ED.rew (d := 232) (v' := .bool false) rfl (by first | rfl | (decide) | (simp)) ?_
          refine ED.pass 12 rfl (by decide +kernel) CutX.no_panic (by decide +kernel) rfl rfl rfl ?_
          refine ED.pass 13 rfl (by decide +kernel) CutX.no_panic (by decide +kernel) rfl rfl rfl ?_
          refine ED.pass 14 rfl (by decide +kernel) CutX.no_panic (by decide +kernel) rfl rfl rfl ?_
          refine ED.pass 15 rfl (by decide +kernel) CutX.no_panic (by decide +kernel) rfl rfl rfl ?_
          refine ED.pass 16 rfl (by decide +kernel) CutX.no_panic (by decide +kernel) rfl rfl rfl ?_
          refine ED.pass 17 rfl (by decide +kernel) CutX.no_panic (by decide +kernel) rfl rfl rfl ?_
          refine ED.pass 18 rfl (by decide +kernel) CutX.no_panic (by decide +kernel) rfl rfl rfl ?_
          refine ED.pass 19 rfl (by decide +kernel) CutX.no_panic (by decide +kernel) rfl rfl rfl ?_
          refine ED.pass 20 rfl (by decide +kernel) CutX.no_panic (by decide +kernel) rfl rfl rfl ?_
          refine ED.pass 21 rfl (by decide +kernel) CutX.no_panic (by decide +kernel) rfl rfl rfl ?_
          refine ED.pass 22 rfl (by decide +kernel) CutX.no_panic (by decide +kernel) rfl rfl rfl ?_
          refine ED.take 23 rfl (by decide +kernel) CutX.no_panic (by decide +kernel) rfl rfl rfl (RV.pickF rfl rfl) ?_
          refine ED.done (by decide +kernel) ?_
          exact PX.cutX () ⟨rfl, rfl, trivial⟩ (.i (by repeat constructor))
        · refine ED.pass 7 rfl (by decide +kernel) CutX.no_panic (by decide +kernel) rfl rfl rfl ?_
          refine ED.pass 8 rfl (by decide +kernel) CutX.no_panic (by decide +kernel) rfl rfl rfl ?_
          refine ED.pass 9 rfl (by decide +kernel) CutX.no_panic (by decide +kernel) rfl rfl rfl ?_
          refine ED.take 10 rfl (by decide +kernel) CutX.no_panic (by decide +kernel) rfl rfl rfl (RV.pickF rfl rfl) ?_
          refine ED.take 11 rfl (by decide +kernel) CutX.no_panic (by decide +kernel) rfl rfl rfl (RV.move rfl) ?_
          refine ED.pass 12 rfl (by decide +kernel) CutX.no_panic (by decide +kernel) rfl rfl rfl ?_
          refine ED.pass 13 rfl (by decide +kernel) CutX.no_panic (by decide +kernel) rfl rfl rfl ?_
          refine ED.pass 14 rfl (by decide +kernel) CutX.no_panic (by decide +kernel) rfl rfl rfl ?_
          refine ED.pass 15 rfl (by decide +kernel) CutX.no_panic (by decide +kernel) rfl rfl rfl ?_
          refine ED.pass 16 rfl (by decide +kernel) CutX.no_panic (by decide +kernel) rfl rfl rfl ?_
          refine ED.pass 17 rfl (by decide +kernel) CutX.no_panic (by decide +kernel) rfl rfl rfl ?_
          refine ED.pass 18 rfl (by decide +kernel) CutX.no_panic (by decide +kernel) rfl rfl rfl ?_
          refine ED.pass 19 rfl (by decide +kernel) CutX.no_panic (by decide +kernel) rfl rfl rfl ?_
          refine ED.pass 20 rfl (by decide +kernel) CutX.no_panic (by decide +kernel) rfl rfl rfl ?_
          refine ED.pass 21 rfl (by decide +kernel) CutX.no_panic (by decide +kernel) rfl rfl rfl ?_
          refine ED.pass 22 rfl (by decide +kernel) CutX.no_panic (by decide +kernel) rfl rfl rfl ?_
          refine ED.take 23 rfl (by decide +kernel) CutX.no_panic (by decide +kernel) rfl rfl rfl (RV.pickF rfl rfl) ?_
          refine ED.done (by decide +kernel) ?_
          exact PX.cutX () ⟨rfl, rfl, trivial⟩ (.i (by repeat constructor))
      refine ES.condF rfl ?_
      refine .go ?_; repeat constructor
      refine EL.move rfl rfl rfl ?_
      refine EL.assign rfl rfl rfl ?_
      refine EL.assign rfl rfl rfl ?_
      refine .go ?_; repeat constructor
      exact PX.ret rfl Try.results94 (.cons (.tmp rfl) (.cons (.tmp rfl) .nil)) (fun w hs => ⟨⟨es', st', pool, xad, xcap, x1, fun _ h => h, x2, x3, hE, hcap⟩, rfl, hs.ent (.i (by repeat constructor))⟩)
    obtain ⟨lg, lo2, rfl, hE2⟩ := hE hnil
    have hpos : 0 < L.length := List.length_pos_iff.2 hnil
    obtain ⟨e, hlast⟩ : ∃ e, L[L.length - 1]? = some e := ⟨_, List.getElem?_eq_getElem (by omega)⟩
    have hgl : L.getLast? = some e := by rw [List.getLast?_eq_getElem?]; exact hlast
    unfold cutEB at he
    rw [hgl] at he
    refine .g0 ?_; repeat constructor
    refine ES.draw (X := Unit) (fun _ => [(4, .slice (some ⟨lg, lo2, none⟩) L.length xcap), (244, .bool (decide (leastM lo x ≤ k ∧ e = i)))]) (fun _ => SB10 gs s st' sp z.length cap gm :: HA.memo gm 3 es' :: PRow sp cap z :: HA.pack pool :: R) (HA.memo gm 3 es' :: HA.pack pool :: []) mixed (.i (by repeat constructor)) ?_ (fun _ => ?_)
    · refine ED.take 0 rfl (by decide +kernel) CutX.no_panic (by decide +kernel) rfl rfl rfl (RV.move rfl) ?_
      refine ED.take 1 rfl (by decide +kernel) CutX.no_panic (by decide +kernel) rfl rfl rfl (RV.nilCheck rfl) ?_
      refine ED.take 2 rfl (by decide +kernel) CutX.no_panic (by decide +kernel) rfl rfl rfl (RV.fieldAddr rfl rfl rfl rfl rfl rfl) ?_
      refine ED.take 3 rfl (by decide +kernel) CutX.no_panic (by decide +kernel) rfl rfl rfl (RV.loadPool rfl rfl rfl (by repeat constructor) ht rfl) ?_
      refine ED.take 4 rfl (by decide +kernel) CutX.no_panic (by decide +kernel) rfl rfl rfl (RV.move rfl) ?_
      refine ED.take 5 rfl (by decide +kernel) CutX.no_panic (by decide +kernel) rfl rfl rfl (RV.geq rfl rfl) ?_
      refine ED.take 6 rfl (by decide +kernel) CutX.no_panic (by decide +kernel) rfl rfl rfl (RV.move rfl) ?_
      first | refine ED.part (d := 227) rfl (fun hp227 => ?_) (fun hp227 => ?_) | refine ED.partN (d := 227) rfl (fun hp227 => ?_) (fun hp227 => ?_) | refine ED.partB (d := 227) rfl (fun hp227 => ?_) (fun hp227 => ?_)
      · refine ED.take 7 rfl (by decide +kernel) CutX.no_panic (by decide +kernel) rfl rfl rfl (RV.move rfl) ?_
        refine ED.take 8 rfl (by decide +kernel) CutX.no_panic (by decide +kernel) rfl rfl rfl (RV.lenL rfl rfl rfl) ?_
        refine ED.take 9 rfl (by decide +kernel) CutX.no_panic (by decide +kernel) rfl rfl rfl (RV.gtr rfl rfl) ?_
        refine ED.take 10 rfl (by decide +kernel) CutX.no_panic (by decide +kernel) rfl rfl rfl (RV.pickT rfl rfl) ?_
        refine ED.take 11 rfl (by decide +kernel) CutX.no_panic (by decide +kernel) rfl rfl rfl (RV.move rfl) ?_
        refine ED.rew (d := 232) (v' := .bool true) rfl ((by simp; omega)) ?_
        refine ED.take 12 rfl (by decide +kernel) CutX.no_panic (by decide +kernel) rfl rfl rfl (RV.move rfl) ?_
        refine ED.take 13 rfl (by decide +kernel) CutX.no_panic (by decide +kernel) rfl rfl rfl (RV.move rfl) ?_
        refine ED.take 14 rfl (by decide +kernel) CutX.no_panic (by decide +kernel) rfl rfl rfl (RV.lenL rfl rfl rfl) ?_
        refine ED.take 15 rfl (by decide +kernel) CutX.no_panic (by decide +kernel) rfl rfl rfl (RV.sub1 rfl rfl (by omega) (by omega)) ?_
        refine ED.take 16 rfl (by decide +kernel) CutX.no_panic (by decide +kernel) rfl rfl rfl (RV.indexAddrL (i := L.length - 1) rfl rfl rfl rfl rfl (by omega)) ?_
        refine ED.take 17 rfl (by decide +kernel) CutX.no_panic (by decide +kernel) rfl rfl rfl (RV.loadEnds rfl rfl rfl (by repeat constructor) (by repeat constructor) hE2 hlast) ?_
        refine ED.take 18 rfl (by decide +kernel) CutX.no_panic (by decide +kernel) rfl rfl rfl (RV.move rfl) ?_
        refine ED.take 19 rfl (by decide +kernel) CutX.no_panic (by decide +kernel) rfl rfl rfl (RV.nilCheck rfl) ?_
        refine ED.take 20 rfl (by decide +kernel) CutX.no_panic (by decide +kernel) rfl rfl rfl (RV.fieldAddr rfl rfl rfl rfl rfl rfl) ?_
        refine ED.take 21 rfl (by decide +kernel) CutX.no_panic (by decide +kernel) rfl rfl rfl (RV.loadPool rfl rfl rfl (by repeat constructor) ht rfl) ?_
        refine ED.take 22 rfl (by decide +kernel) CutX.no_panic (by decide +kernel) rfl rfl rfl (RV.eqlI rfl rfl) ?_
        refine ED.take 23 rfl (by decide +kernel) CutX.no_panic (by decide +kernel) rfl rfl rfl (RV.pickT rfl rfl) ?_
        refine ED.done (by decide +kernel) ?_
        exact PX.cutX () ⟨rfl, getA rfl (congrArg Value.bool (by rw [Bool.eq_iff_iff]; simp only [decide_eq_true_eq, Bool.false_eq_true, false_iff]; omega)), trivial⟩ (.i (by repeat constructor))
      · refine ED.pass 7 rfl (by decide +kernel) CutX.no_panic (by decide +kernel) rfl rfl rfl ?_
        refine ED.pass 8 rfl (by decide +kernel) CutX.no_panic (by decide +kernel) rfl rfl rfl ?_
        refine ED.pass 9 rfl (by decide +kernel) CutX.no_panic (by decide +kernel) rfl rfl rfl ?_
        refine ED.take 10 rfl (by decide +kernel) CutX.no_panic (by decide +kernel) rfl rfl rfl (RV.pickF rfl rfl) ?_
        refine ED.take 11 rfl (by decide +kernel) CutX.no_panic (by decide +kernel) rfl rfl rfl (RV.move rfl) ?_
        refine ED.pass 12 rfl (by decide +kernel) CutX.no_panic (by decide +kernel) rfl rfl rfl ?_
        refine ED.pass 13 rfl (by decide +kernel) CutX.no_panic (by decide +kernel) rfl rfl rfl ?_
        refine ED.pass 14 rfl (by decide +kernel) CutX.no_panic (by decide +kernel) rfl rfl rfl ?_
        refine ED.pass 15 rfl (by decide +kernel) CutX.no_panic (by decide +kernel) rfl rfl rfl ?_
        refine ED.pass 16 rfl (by decide +kernel) CutX.no_panic (by decide +kernel) rfl rfl rfl ?_
        refine ED.pass 17 rfl (by decide +kernel) CutX.no_panic (by decide +kernel) rfl rfl rfl ?_
        refine ED.pass 18 rfl (by decide +kernel) CutX.no_panic (by decide +kernel) rfl rfl rfl ?_
        refine ED.pass 19 rfl (by decide +kernel) CutX.no_panic (by decide +kernel) rfl rfl rfl ?_
        refine ED.pass 20 rfl (by decide +kernel) CutX.no_panic (by decide +kernel) rfl rfl rfl ?_
        refine ED.pass 21 rfl (by decide +kernel) CutX.no_panic (by decide +kernel) rfl rfl rfl ?_
        refine ED.pass 22 rfl (by decide +kernel) CutX.no_panic (by decide +kernel) rfl rfl rfl ?_
        refine ED.take 23 rfl (by decide +kernel) CutX.no_panic (by decide +kernel) rfl rfl rfl (RV.pickF rfl rfl) ?_
        refine ED.done (by decide +kernel) ?_
        exact PX.cutX () ⟨rfl, getA rfl (congrArg Value.bool (by rw [Bool.eq_iff_iff]; simp only [decide_eq_true_eq, Bool.false_eq_true, false_iff]; omega)), trivial⟩ (.i (by repeat constructor))
    refine ES.condD rfl (fun hc => ?_) (fun hc => ?_)
    · rw [if_pos ⟨decide_eq_true hc.1, congrArg some hc.2⟩] at he
      cases he
      have hdl : L.dropLast.length = L.length - 1 := List.length_dropLast
      refine .go ?_; repeat constructor
      refine EL.move rfl rfl rfl ?_
      refine EL.move rfl rfl rfl ?_
      refine EL.lenL rfl rfl rfl rfl rfl ?_
      refine EL.sub1 rfl rfl rfl rfl (by omega) (by omega) ?_
      refine EL.ofRV (RV.sliceHi (hi := L.length - 1) rfl rfl rfl rfl rfl (by omega)) rfl rfl rfl (by intro c h; cases h) ?_
      refine EL.assign rfl rfl rfl ?_
      refine .go ?_; repeat constructor
      refine EL.move rfl rfl rfl ?_
      refine EL.assign rfl rfl rfl ?_
      refine EL.assign rfl rfl rfl ?_
      refine .go ?_; repeat constructor
      exact PX.ret rfl Try.results94 (.cons (.tmp rfl) (.cons (.tmp rfl) .nil)) (fun w hs => ⟨⟨es', st', pool, some ⟨lg, lo2, none⟩, xcap, x1, fun _ h => h, x2, x3, hE.pre (fun q e h => drop_last_get h), by omega⟩, congrArg (fun n => Ending.returned (.tuple #[.slice (some ⟨lg, lo2, none⟩) n xcap, .bool true])) hdl.symm, hs.ent (.i (by repeat constructor))⟩)
    · rw [if_neg (fun hh => hc ⟨of_decide_eq_true hh.1, Option.some.inj hh.2⟩)] at he
      cases he
      refine .go ?_; repeat constructor
      refine .go ?_; repeat constructor
      refine EL.move rfl rfl rfl ?_
      refine EL.assign rfl rfl rfl ?_
      refine EL.assign rfl rfl rfl ?_
      refine .go ?_; repeat constructor
      exact PX.ret rfl Try.results94 (.cons (.tmp rfl) (.cons (.tmp rfl) .nil)) (fun w hs => ⟨⟨es', st', pool, some ⟨lg, lo2, none⟩, xcap, x1, fun _ h => h, x2, x3, hE, hcap⟩, rfl, hs.ent (.i (by repeat constructor))⟩)
  have hz2 : l = [] ∧ ok = true := by
    cases r <;> first | (simp [RE.kind] at h6 h4 h0 h5; done) | (simp only [Option.some.injEq, Prod.mk.injEq] at he; exact ⟨he.1.symm, he.2.symm⟩)
  obtain ⟨rfl, rfl⟩ := hz2
  refine .go ?_; repeat constructor
  refine EL.assign rfl rfl rfl ?_
  refine EL.assign rfl rfl rfl ?_
  refine .go ?_; repeat constructor
  exact PX.ret rfl Try.results94 (.cons (.tmp rfl) (.cons (.tmp rfl) .nil)) (fun w hs => ⟨EnX.none hok, rfl, hs.ent (.i (by repeat constructor))⟩)
end Go.Proofs.Ytblpgpgbnlhjlaa
namespace Go.Proofs.Ytblpgpgbnlhjlaa
open Go Go.RowKit Sl
set_option maxRecDepth 100000
set_option maxHeartbeats 8000000
set_option linter.unusedVariables false
set_option linter.unusedSimpArgs false
attribute [local irreducible] ES EL PX wps
structure FoX (w0 : World) (B : Nat) (pool : List HA) (now : List Tk) where
  pool' : List HA
  p : Option Addr
  psub : ∀ A ∈ pool, A ∈ pool'
  chain : ChainAt w0 B pool' p now
theorem follow_c (gs gm : Nat) (s : List UInt8) (st : Nat) (sp : Option Addr) (cap : Nat) (z z' : List Spn) (pool : List HA) (r : RE) (k i j e : Nat) (hk : r.kind ≠ 4 → k ≤ 1073741824) (ts now : List Tk) (w0 : World) (B gt gr off : Nat) (nx : Option Addr) (ht : TkB gt gr off k i j nx ∈ pool) (hn : NodeRd w0 B gr off r) (hf : r.fine) (hch : ChainAt w0 B pool nx ts)
    (he : followB (⟨r, k, i, j⟩ :: ts) e z = some (now, z')) :
    MutAt Try.prog 96 #[Pv gs 0, Pv gt 0, Iv (e : Nat)] [SB10 gs s st sp z.length cap gm, PRow sp cap z, HA.pack pool] (fun x : FoX w0 B pool now => .pointer x.p)
      (fun x => [SB10 gs s st sp z'.length cap gm, PRow sp cap z', HA.pack x.pool']) w0 B := by
  intro R w h
  replace h : Sat w0 B (SB10 gs s st sp z.length cap gm :: PRow sp cap z :: HA.pack pool :: R) w := h
  have hn' := hn
  obtain ⟨ad, kcap, cs0, q1, q2, q3, q4⟩ := hn'
  have hrd := q1.rd
  have hkids : KidsRd w0 B r.kids ad := fun a b hab => by
    have hlt := (List.getElem?_eq_some_iff.1 hab).1
    obtain ⟨g', o', rfl, _⟩ := q3 (fun e => by have := q2.len; rw [e] at this; simp at this; omega)
    exact ⟨g', o', rfl, Node.of_row q2 q3 hab⟩
  have hkl := fine_len hf
  refine calls_of_ES TB Try.func96 rfl _ Try.ntmps96 rfl h ?_
  refine .go ?_; repeat constructor
  refine EL.assign rfl rfl rfl ?_
  refine .go ?_; repeat constructor
  refine EL.move rfl rfl rfl ?_
  refine EL.nilCheck rfl rfl rfl ?_
  refine EL.fieldAddr rfl rfl rfl rfl rfl rfl rfl rfl ?_
  refine EL.loadPool rfl rfl rfl rfl rfl (by repeat constructor) ht rfl ?_
  refine EL.nilCheck rfl rfl rfl ?_
  refine EL.fieldAddr rfl rfl rfl rfl rfl rfl rfl rfl ?_
  refine EL.loadOld rfl rfl rfl rfl rfl hrd rfl ?_
  refine .go ?_; repeat constructor
  refine EL.eqlI rfl rfl rfl rfl ?_
  refine EL.assign rfl rfl rfl ?_
  refine .go ?_; repeat constructor
  refine ES.condD rfl (fun h4 => ?_) (fun h4 => ?_)
  · obtain ⟨gn, x, rfl⟩ := kind_4 (show r.kind = 4 by omega)
    rw [followB] at he
    dsimp only at he
    split at he
    rotate_left
    · cases he
    rename_i hlt
    cases he
    obtain ⟨g', o', rfl, hxn⟩ := hkids 0 x rfl
    have hsl := spsC_len z
    refine ES.know (P := ∃ g, sp = some ⟨g, 0, none⟩) (fun w hs => (row_form (hs.all (PRow sp cap z) (by simp))).2.2.2.2 (by omega)) ?_
    rintro ⟨spg, rfl⟩
    refine .g0 ?_; repeat constructor
    refine ES.draw (X := Unit) (fun _ => [(1, Pv gt 0)]) (fun _ => SB10 gs s st (some ⟨spg, 0, none⟩) z.length cap gm :: HA.row (.slice (some ⟨spg, 0, none⟩) z.length cap) 33 2 z.length (spsC (z.set gn ((i : Int), (j : Int)))) :: HA.pack pool :: R)
      (SB10 gs s st (some ⟨spg, 0, none⟩) z.length cap gm :: HA.pack pool :: []) mixed (.i (by repeat constructor)) ?_ (fun _ => ?_)
    · refine ED.take 0 rfl (by decide +kernel) CutX.no_panic (by decide +kernel) rfl rfl rfl (RV.move rfl) ?_
      refine ED.take 1 rfl (by decide +kernel) CutX.no_panic (by decide +kernel) rfl rfl rfl (RV.nilCheck rfl) ?_
      refine ED.take 2 rfl (by decide +kernel) CutX.no_panic (by decide +kernel) rfl rfl rfl (RV.fieldAddr rfl rfl rfl rfl rfl rfl) ?_
      refine ED.take 3 rfl (by decide +kernel) CutX.no_panic (by decide +kernel) rfl rfl rfl (RV.loadB rfl rfl rfl (by repeat constructor) rfl) ?_
      refine ED.take 4 rfl (by decide +kernel) CutX.no_panic (by decide +kernel) rfl rfl rfl (RV.move rfl) ?_
      refine ED.take 5 rfl (by decide +kernel) CutX.no_panic (by decide +kernel) rfl rfl rfl (RV.nilCheck rfl) ?_
      refine ED.take 6 rfl (by decide +kernel) CutX.no_panic (by decide +kernel) rfl rfl rfl (RV.fieldAddr rfl rfl rfl rfl rfl rfl) ?_
      refine ED.take 7 rfl (by decide +kernel) CutX.no_panic (by decide +kernel) rfl rfl rfl (RV.loadPool rfl rfl rfl (by repeat constructor) ht rfl) ?_
      refine ED.take 8 rfl (by decide +kernel) CutX.no_panic (by decide +kernel) rfl rfl rfl (RV.nilCheck rfl) ?_
      refine ED.take 9 rfl (by decide +kernel) CutX.no_panic (by decide +kernel) rfl rfl rfl (RV.fieldAddr rfl rfl rfl rfl rfl rfl) ?_
      refine ED.take 10 rfl (by decide +kernel) CutX.no_panic (by decide +kernel) rfl rfl rfl (RV.loadOld rfl rfl rfl hrd rfl) ?_
      refine ED.take 11 rfl (by decide +kernel) CutX.no_panic (by decide +kernel) rfl rfl rfl (RV.move rfl) ?_
      refine ED.take 12 rfl (by decide +kernel) CutX.no_panic (by decide +kernel) rfl rfl rfl (RV.nilCheck rfl) ?_
      refine ED.take 13 rfl (by decide +kernel) CutX.no_panic (by decide +kernel) rfl rfl rfl (RV.fieldAddr rfl rfl rfl rfl rfl rfl) ?_
      refine ED.take 14 rfl (by decide +kernel) CutX.no_panic (by decide +kernel) rfl rfl rfl (RV.loadPool rfl rfl rfl (by repeat constructor) ht rfl) ?_
      refine ED.take 15 rfl (by decide +kernel) CutX.no_panic (by decide +kernel) rfl rfl rfl (RV.move rfl) ?_
      refine ED.take 16 rfl (by decide +kernel) CutX.no_panic (by decide +kernel) rfl rfl rfl (RV.nilCheck rfl) ?_
      refine ED.take 17 rfl (by decide +kernel) CutX.no_panic (by decide +kernel) rfl rfl rfl (RV.fieldAddr rfl rfl rfl rfl rfl rfl) ?_
      refine ED.take 18 rfl (by decide +kernel) CutX.no_panic (by decide +kernel) rfl rfl rfl (RV.loadPool rfl rfl rfl (by repeat constructor) ht rfl) ?_
      refine ED.take 19 rfl (by decide +kernel) CutX.no_panic (by decide +kernel) rfl rfl rfl (RV.buildS #[Iv (i : Nat), Iv (j : Nat)] rfl rfl rfl rfl (by kernel_rfl)) ?_
      refine ED.take 20 rfl (by decide +kernel) CutX.no_panic (by decide +kernel) rfl rfl rfl (RV.indexAddrL (i := gn) rfl rfl rfl rfl rfl hlt) ?_
      refine ED.last 21 rfl (by decide +kernel) (by decide +kernel) (by decide +kernel) ?_
      (refine EL.storeRA (vs := spC ((i : Int), (j : Int))) rfl rfl rfl rfl rfl (by repeat constructor) (by rw [hsl]; show 0 + gn * 2 + 2 ≤ _; omega) (all1 rfl) ?_; refine EL.rowEq (v := .slice (some ⟨spg, 0, none⟩) z.length cap) (by repeat constructor) (spsC_set z gn hlt ((i : Int), (j : Int))) ?_)
      refine EL.endQ ?_
      exact PX.cutX () ⟨rfl, trivial⟩ (.i (by repeat constructor))
    refine ES.imp (H' := SB10 gs s st (some ⟨spg, 0, none⟩) (z.set gn ((i : Int), (j : Int))).length cap gm :: PRow (some ⟨spg, 0, none⟩) cap (z.set gn ((i : Int), (j : Int))) :: HA.pack pool :: R) (fun w hs => by
      unfold PRow SB10
      rw [List.length_set]
      exact hs.ent (.i (by repeat constructor))) ?_
    refine .g0 ?_; repeat constructor
    refine ES.draw (X := Nat) (fun g => [(6, Pv g 0)]) (fun g => TkB g g' (o' + 0 * 9) 0 i j nx :: SB10 gs s st (some ⟨spg, 0, none⟩) (z.set gn ((i : Int), (j : Int))).length cap gm :: PRow (some ⟨spg, 0, none⟩) cap (z.set gn ((i : Int), (j : Int))) :: HA.pack pool :: R)
      (HA.pack pool :: []) mixed (.i (by repeat constructor)) ?_ (fun g => ?_)
    · refine ED.take 0 rfl (by decide +kernel) CutX.no_panic (by decide +kernel) rfl rfl rfl (RV.move rfl) ?_
      refine ED.take 1 rfl (by decide +kernel) CutX.no_panic (by decide +kernel) rfl rfl rfl (RV.nilCheck rfl) ?_
      refine ED.take 2 rfl (by decide +kernel) CutX.no_panic (by decide +kernel) rfl rfl rfl (RV.fieldAddr rfl rfl rfl rfl rfl rfl) ?_
      refine ED.take 3 rfl (by decide +kernel) CutX.no_panic (by decide +kernel) rfl rfl rfl (RV.loadPool rfl rfl rfl (by repeat constructor) ht rfl) ?_
      refine ED.take 4 rfl (by decide +kernel) CutX.no_panic (by decide +kernel) rfl rfl rfl (RV.nilCheck rfl) ?_
      refine ED.take 5 rfl (by decide +kernel) CutX.no_panic (by decide +kernel) rfl rfl rfl (RV.fieldAddr rfl rfl rfl rfl rfl rfl) ?_
      refine ED.take 6 rfl (by decide +kernel) CutX.no_panic (by decide +kernel) rfl rfl rfl (RV.loadOld rfl rfl rfl hrd rfl) ?_
      refine ED.take 7 rfl (by decide +kernel) CutX.no_panic (by decide +kernel) rfl rfl rfl (RV.indexAddrL (i := 0) rfl rfl rfl rfl rfl (Nat.zero_lt_succ _)) ?_
      refine ED.take 8 rfl (by decide +kernel) CutX.no_panic (by decide +kernel) rfl rfl rfl (RV.move rfl) ?_
      refine ED.take 9 rfl (by decide +kernel) CutX.no_panic (by decide +kernel) rfl rfl rfl (RV.nilCheck rfl) ?_
      refine ED.take 10 rfl (by decide +kernel) CutX.no_panic (by decide +kernel) rfl rfl rfl (RV.fieldAddr rfl rfl rfl rfl rfl rfl) ?_
      refine ED.take 11 rfl (by decide +kernel) CutX.no_panic (by decide +kernel) rfl rfl rfl (RV.loadPool rfl rfl rfl (by repeat constructor) ht rfl) ?_
      refine ED.take 12 rfl (by decide +kernel) CutX.no_panic (by decide +kernel) rfl rfl rfl (RV.move rfl) ?_
      refine ED.take 13 rfl (by decide +kernel) CutX.no_panic (by decide +kernel) rfl rfl rfl (RV.nilCheck rfl) ?_
      refine ED.take 14 rfl (by decide +kernel) CutX.no_panic (by decide +kernel) rfl rfl rfl (RV.fieldAddr rfl rfl rfl rfl rfl rfl) ?_
      refine ED.take 15 rfl (by decide +kernel) CutX.no_panic (by decide +kernel) rfl rfl rfl (RV.loadPool rfl rfl rfl (by repeat constructor) ht rfl) ?_
      refine ED.take 16 rfl (by decide +kernel) CutX.no_panic (by decide +kernel) rfl rfl rfl (RV.move rfl) ?_
      refine ED.take 17 rfl (by decide +kernel) CutX.no_panic (by decide +kernel) rfl rfl rfl (RV.nilCheck rfl) ?_
      refine ED.take 18 rfl (by decide +kernel) CutX.no_panic (by decide +kernel) rfl rfl rfl (RV.fieldAddr rfl rfl rfl rfl rfl rfl) ?_
      refine ED.take 19 rfl (by decide +kernel) CutX.no_panic (by decide +kernel) rfl rfl rfl (RV.loadPool rfl rfl rfl (by repeat constructor) ht rfl) ?_
      refine ED.take 20 rfl (by decide +kernel) CutX.no_panic (by decide +kernel) rfl rfl rfl (RV.buildS #[Pv g' (o' + 0 * 9), Iv 0, Iv (i : Nat), Iv (j : Nat), .pointer nx] rfl rfl rfl rfl (by kernel_rfl)) ?_
      refine ED.loud 21 rfl (by decide +kernel) ?_
      (refine EL.box rfl rfl rfl ?_; intro g60)
      refine ED.next (.i (by repeat constructor)) ?_
      refine ED.take 22 rfl (by decide +kernel) CutX.no_panic (by decide +kernel) rfl rfl rfl (RV.assign rfl) ?_
      refine ED.done (by decide +kernel) ?_
      exact PX.cutX g60 ⟨rfl, trivial⟩ (.i (by repeat constructor))
    refine ES.poolIn (A := TkB g g' (o' + 0 * 9) 0 i j nx) (by repeat constructor) ?_
    refine .go ?_; repeat constructor
    exact PX.ret rfl Try.results96 (.cons (.tmp rfl) .nil) (fun w hs => ⟨⟨TkB g g' (o' + 0 * 9) 0 i j nx :: pool, some ⟨g, 0, none⟩, fun _ h => List.mem_cons_of_mem _ h, ⟨g, g', o' + 0 * 9, nx, rfl, List.mem_cons_self, hxn, hf.2, hch.mono (fun _ h => List.mem_cons_of_mem _ h)⟩⟩, rfl, hs.ent (.i (by repeat constructor))⟩)
  refine .go ?_; repeat constructor
  refine EL.eqlI rfl rfl rfl rfl ?_
  refine EL.assign rfl rfl rfl ?_
  refine .go ?_; repeat constructor
  refine ES.condD rfl (fun h0 => ?_) (fun h0 => ?_)
  · obtain ⟨ks, rfl⟩ := kind_0 (show r.kind = 0 by omega)
    rw [followB] at he
    dsimp only at he
    cases hx : ks[k]? with
    | none => rw [hx] at he; cases he
    | some x =>
    rw [hx] at he
    cases he
    have hk := hk (by simp [RE.kind])
    obtain ⟨kg, ko, rfl, hxn⟩ := hkids k x hx
    have hlt : k < ks.length := (List.getElem?_eq_some_iff.1 hx).1
    have hkk : (RE.cat ks).kids.length = ks.length := rfl
    have hxf : x.fine := (fineL_iff _).1 hf.2 x (List.mem_of_getElem? hx)
    refine .g0 ?_; repeat constructor
    refine ES.draw (X := Nat) (fun g => [(1, Pv gt 0), (2, Iv (e : Nat)), (7, Pv g 0)]) (fun g => TkB g gr off (k + 1) e j nx :: SB10 gs s st sp z.length cap gm :: PRow sp cap z :: HA.pack pool :: R) (HA.pack pool :: []) mixed (.i (by repeat constructor)) ?_ (fun g => ?_)
    · refine ED.take 0 rfl (by decide +kernel) CutX.no_panic (by decide +kernel) rfl rfl rfl (RV.move rfl) ?_
      refine ED.take 1 rfl (by decide +kernel) CutX.no_panic (by decide +kernel) rfl rfl rfl (RV.nilCheck rfl) ?_
      refine ED.take 2 rfl (by decide +kernel) CutX.no_panic (by decide +kernel) rfl rfl rfl (RV.fieldAddr rfl rfl rfl rfl rfl rfl) ?_
      refine ED.take 3 rfl (by decide +kernel) CutX.no_panic (by decide +kernel) rfl rfl rfl (RV.loadPool rfl rfl rfl (by repeat constructor) ht rfl) ?_
      refine ED.take 4 rfl (by decide +kernel) CutX.no_panic (by decide +kernel) rfl rfl rfl (RV.move rfl) ?_
      refine ED.take 5 rfl (by decide +kernel) CutX.no_panic (by decide +kernel) rfl rfl rfl (RV.nilCheck rfl) ?_
      refine ED.take 6 rfl (by decide +kernel) CutX.no_panic (by decide +kernel) rfl rfl rfl (RV.fieldAddr rfl rfl rfl rfl rfl rfl) ?_
      refine ED.take 7 rfl (by decide +kernel) CutX.no_panic (by decide +kernel) rfl rfl rfl (RV.loadPool rfl rfl rfl (by repeat constructor) ht rfl) ?_
      refine ED.take 8 rfl (by decide +kernel) CutX.no_panic (by decide +kernel) rfl rfl rfl (RV.add1 rfl rfl (by omega)) ?_
      refine ED.take 9 rfl (by decide +kernel) CutX.no_panic (by decide +kernel) rfl rfl rfl (RV.move rfl) ?_
      refine ED.take 10 rfl (by decide +kernel) CutX.no_panic (by decide +kernel) rfl rfl rfl (RV.move rfl) ?_
      refine ED.take 11 rfl (by decide +kernel) CutX.no_panic (by decide +kernel) rfl rfl rfl (RV.nilCheck rfl) ?_
      refine ED.take 12 rfl (by decide +kernel) CutX.no_panic (by decide +kernel) rfl rfl rfl (RV.fieldAddr rfl rfl rfl rfl rfl rfl) ?_
      refine ED.take 13 rfl (by decide +kernel) CutX.no_panic (by decide +kernel) rfl rfl rfl (RV.loadPool rfl rfl rfl (by repeat constructor) ht rfl) ?_
      refine ED.take 14 rfl (by decide +kernel) CutX.no_panic (by decide +kernel) rfl rfl rfl (RV.move rfl) ?_
      refine ED.take 15 rfl (by decide +kernel) CutX.no_panic (by decide +kernel) rfl rfl rfl (RV.nilCheck rfl) ?_
      refine ED.take 16 rfl (by decide +kernel) CutX.no_panic (by decide +kernel) rfl rfl rfl (RV.fieldAddr rfl rfl rfl rfl rfl rfl) ?_
      refine ED.take 17 rfl (by decide +kernel) CutX.no_panic (by decide +kernel) rfl rfl rfl (RV.loadPool rfl rfl rfl (by repeat constructor) ht rfl) ?_
      refine ED.take 18 rfl (by decide +kernel) CutX.no_panic (by decide +kernel) rfl rfl rfl (RV.buildS #[Pv gr off, Iv ((k + 1 : Nat) : Int), Iv (e : Nat), Iv (j : Nat), .pointer nx] rfl rfl rfl rfl (by kernel_rfl)) ?_
      refine ED.loud 19 rfl (by decide +kernel) ?_
      (refine EL.box rfl rfl rfl ?_; intro g82)
      refine ED.next (.i (by repeat constructor)) ?_
      refine ED.take 20 rfl (by decide +kernel) CutX.no_panic (by decide +kernel) rfl rfl rfl (RV.assign rfl) ?_
      refine ED.done (by decide +kernel) ?_
      exact PX.cutX g82 ⟨rfl, rfl, rfl, trivial⟩ (.i (by repeat constructor))
    refine ES.poolIn (A := TkB g gr off (k + 1) e j nx) (by repeat constructor) ?_
    have ht2 : TkB gt gr off k i j nx ∈ TkB g gr off (k + 1) e j nx :: pool := List.mem_cons_of_mem _ ht
    refine .g0 ?_; repeat constructor
    refine ES.draw (X := Nat) (fun g2 => [(6, Pv g2 0)]) (fun g2 => TkB g2 kg (ko + k * 9) 0 i e (some ⟨g, 0, none⟩) :: SB10 gs s st sp z.length cap gm :: PRow sp cap z :: HA.pack (TkB g gr off (k + 1) e j nx :: pool) :: R) (HA.pack (TkB g gr off (k + 1) e j nx :: pool) :: []) mixed (.i (by repeat constructor)) ?_ (fun g2 => ?_)
    · refine ED.take 0 rfl (by decide +kernel) CutX.no_panic (by decide +kernel) rfl rfl rfl (RV.move rfl) ?_
      refine ED.take 1 rfl (by decide +kernel) CutX.no_panic (by decide +kernel) rfl rfl rfl (RV.nilCheck rfl) ?_
      refine ED.take 2 rfl (by decide +kernel) CutX.no_panic (by decide +kernel) rfl rfl rfl (RV.fieldAddr rfl rfl rfl rfl rfl rfl) ?_
      refine ED.take 3 rfl (by decide +kernel) CutX.no_panic (by decide +kernel) rfl rfl rfl (RV.loadPool rfl rfl rfl (by repeat constructor) ht2 rfl) ?_
      refine ED.take 4 rfl (by decide +kernel) CutX.no_panic (by decide +kernel) rfl rfl rfl (RV.nilCheck rfl) ?_
      refine ED.take 5 rfl (by decide +kernel) CutX.no_panic (by decide +kernel) rfl rfl rfl (RV.fieldAddr rfl rfl rfl rfl rfl rfl) ?_
      refine ED.take 6 rfl (by decide +kernel) CutX.no_panic (by decide +kernel) rfl rfl rfl (RV.loadOld rfl rfl rfl hrd rfl) ?_
      refine ED.take 7 rfl (by decide +kernel) CutX.no_panic (by decide +kernel) rfl rfl rfl (RV.move rfl) ?_
      refine ED.take 8 rfl (by decide +kernel) CutX.no_panic (by decide +kernel) rfl rfl rfl (RV.nilCheck rfl) ?_
      refine ED.take 9 rfl (by decide +kernel) CutX.no_panic (by decide +kernel) rfl rfl rfl (RV.fieldAddr rfl rfl rfl rfl rfl rfl) ?_
      refine ED.take 10 rfl (by decide +kernel) CutX.no_panic (by decide +kernel) rfl rfl rfl (RV.loadPool rfl rfl rfl (by repeat constructor) ht2 rfl) ?_
      refine ED.take 11 rfl (by decide +kernel) CutX.no_panic (by decide +kernel) rfl rfl rfl (RV.indexAddrL (i := k) rfl rfl rfl rfl rfl (by omega)) ?_
      refine ED.take 12 rfl (by decide +kernel) CutX.no_panic (by decide +kernel) rfl rfl rfl (RV.move rfl) ?_
      refine ED.take 13 rfl (by decide +kernel) CutX.no_panic (by decide +kernel) rfl rfl rfl (RV.nilCheck rfl) ?_
      refine ED.take 14 rfl (by decide +kernel) CutX.no_panic (by decide +kernel) rfl rfl rfl (RV.fieldAddr rfl rfl rfl rfl rfl rfl) ?_
      refine ED.take 15 rfl (by decide +kernel) CutX.no_panic (by decide +kernel) rfl rfl rfl (RV.loadPool rfl rfl rfl (by repeat constructor) ht2 rfl) ?_
      refine ED.take 16 rfl (by decide +kernel) CutX.no_panic (by decide +kernel) rfl rfl rfl (RV.move rfl) ?_
      refine ED.take 17 rfl (by decide +kernel) CutX.no_panic (by decide +kernel) rfl rfl rfl (RV.move rfl) ?_
      refine ED.take 18 rfl (by decide +kernel) CutX.no_panic (by decide +kernel) rfl rfl rfl (RV.buildS #[Pv kg (ko + k * 9), Iv 0, Iv (i : Nat), Iv (e : Nat), .pointer (some ⟨g, 0, none⟩)] rfl rfl rfl rfl (by kernel_rfl)) ?_
      refine ED.loud 19 rfl (by decide +kernel) ?_
      (refine EL.box rfl rfl rfl ?_; intro g102)
      refine ED.next (.i (by repeat constructor)) ?_
      refine ED.take 20 rfl (by decide +kernel) CutX.no_panic (by decide +kernel) rfl rfl rfl (RV.assign rfl) ?_
      refine ED.done (by decide +kernel) ?_
      exact PX.cutX g102 ⟨rfl, trivial⟩ (.i (by repeat constructor))
    refine ES.poolIn (A := TkB g2 kg (ko + k * 9) 0 i e (some ⟨g, 0, none⟩)) (by repeat constructor) ?_
    refine .go ?_; repeat constructor
    exact PX.ret rfl Try.results96 (.cons (.tmp rfl) .nil) (fun w hs => ⟨⟨TkB g2 kg (ko + k * 9) 0 i e (some ⟨g, 0, none⟩) :: TkB g gr off (k + 1) e j nx :: pool, some ⟨g2, 0, none⟩, fun _ h => List.mem_cons_of_mem _ (List.mem_cons_of_mem _ h), ⟨g2, kg, ko + k * 9, some ⟨g, 0, none⟩, rfl, List.mem_cons_self, hxn, hxf,
      ⟨g, gr, off, nx, rfl, List.mem_cons_of_mem _ List.mem_cons_self, hn, hf, hch.mono (fun _ h => List.mem_cons_of_mem _ (List.mem_cons_of_mem _ h))⟩⟩⟩, rfl, hs.ent (.i (by repeat constructor))⟩)
  have h5 : r.kind = 5 := by
    rw [followB] at he
    cases r <;> first | rfl | (simp [RE.kind] at h4 h0; done) | (cases he; done)
  obtain ⟨lo, hi, x, rfl⟩ := kind_5 h5
  cases he
  have hk := hk (by simp [RE.kind])
  obtain ⟨kg, ko, rfl, hxn⟩ := hkids 0 x rfl
  have hxf : x.fine := hf.2.2.2.2
  refine .g0 ?_; repeat constructor
  refine ES.draw (X := Nat) (fun g => [(1, Pv gt 0), (2, Iv (e : Nat)), (8, Pv g 0)]) (fun g => TkB g gr off (k + 1) e j nx :: SB10 gs s st sp z.length cap gm :: PRow sp cap z :: HA.pack pool :: R) (HA.pack pool :: []) mixed (.i (by repeat constructor)) ?_ (fun g => ?_)
  · refine ED.take 0 rfl (by decide +kernel) CutX.no_panic (by decide +kernel) rfl rfl rfl (RV.move rfl) ?_
    refine ED.take 1 rfl (by decide +kernel) CutX.no_panic (by decide +kernel) rfl rfl rfl (RV.nilCheck rfl) ?_
    refine ED.take 2 rfl (by decide +kernel) CutX.no_panic (by decide +kernel) rfl rfl rfl (RV.fieldAddr rfl rfl rfl rfl rfl rfl) ?_
    refine ED.take 3 rfl (by decide +kernel) CutX.no_panic (by decide +kernel) rfl rfl rfl (RV.loadPool rfl rfl rfl (by repeat constructor) ht rfl) ?_
    refine ED.take 4 rfl (by decide +kernel) CutX.no_panic (by decide +kernel) rfl rfl rfl (RV.move rfl) ?_
    refine ED.take 5 rfl (by decide +kernel) CutX.no_panic (by decide +kernel) rfl rfl rfl (RV.nilCheck rfl) ?_
    refine ED.take 6 rfl (by decide +kernel) CutX.no_panic (by decide +kernel) rfl rfl rfl (RV.fieldAddr rfl rfl rfl rfl rfl rfl) ?_
    refine ED.take 7 rfl (by decide +kernel) CutX.no_panic (by decide +kernel) rfl rfl rfl (RV.loadPool rfl rfl rfl (by repeat constructor) ht rfl) ?_
    refine ED.take 8 rfl (by decide +kernel) CutX.no_panic (by decide +kernel) rfl rfl rfl (RV.add1 rfl rfl (by omega)) ?_
    refine ED.take 9 rfl (by decide +kernel) CutX.no_panic (by decide +kernel) rfl rfl rfl (RV.move rfl) ?_
    refine ED.take 10 rfl (by decide +kernel) CutX.no_panic (by decide +kernel) rfl rfl rfl (RV.move rfl) ?_
    refine ED.take 11 rfl (by decide +kernel) CutX.no_panic (by decide +kernel) rfl rfl rfl (RV.nilCheck rfl) ?_
    refine ED.take 12 rfl (by decide +kernel) CutX.no_panic (by decide +kernel) rfl rfl rfl (RV.fieldAddr rfl rfl rfl rfl rfl rfl) ?_
    refine ED.take 13 rfl (by decide +kernel) CutX.no_panic (by decide +kernel) rfl rfl rfl (RV.loadPool rfl rfl rfl (by repeat constructor) ht rfl) ?_
    refine ED.take 14 rfl (by decide +kernel) CutX.no_panic (by decide +kernel) rfl rfl rfl (RV.move rfl) ?_
    refine ED.take 15 rfl (by decide +kernel) CutX.no_panic (by decide +kernel) rfl rfl rfl (RV.nilCheck rfl) ?_
    refine ED.take 16 rfl (by decide +kernel) CutX.no_panic (by decide +kernel) rfl rfl rfl (RV.fieldAddr rfl rfl rfl rfl rfl rfl) ?_
    refine ED.take 17 rfl (by decide +kernel) CutX.no_panic (by decide +kernel) rfl rfl rfl (RV.loadPool rfl rfl rfl (by repeat constructor) ht rfl) ?_
    refine ED.take 18 rfl (by decide +kernel) CutX.no_panic (by decide +kernel) rfl rfl rfl (RV.buildS #[Pv gr off, Iv ((k + 1 : Nat) : Int), Iv (e : Nat), Iv (j : Nat), .pointer nx] rfl rfl rfl rfl (by kernel_rfl)) ?_
    refine ED.loud 19 rfl (by decide +kernel) ?_
    (refine EL.box rfl rfl rfl ?_; intro g122)
    refine ED.next (.i (by repeat constructor)) ?_
    refine ED.take 20 rfl (by decide +kernel) CutX.no_panic (by decide +kernel) rfl rfl rfl (RV.assign rfl) ?_
    refine ED.done (by decide +kernel) ?_
    exact PX.cutX g122 ⟨rfl, rfl, rfl, trivial⟩ (.i (by repeat constructor))
  refine ES.poolIn (A := TkB g gr off (k + 1) e j nx) (by repeat constructor) ?_
  have ht2 : TkB gt gr off k i j nx ∈ TkB g gr off (k + 1) e j nx :: pool := List.mem_cons_of_mem _ ht
  refine .g0 ?_; repeat constructor
  refine ES.draw (X := Nat) (fun g2 => [(6, Pv g2 0)]) (fun g2 => TkB g2 kg (ko + 0 * 9) 0 i e (some ⟨g, 0, none⟩) :: SB10 gs s st sp z.length cap gm :: PRow sp cap z :: HA.pack (TkB g gr off (k + 1) e j nx :: pool) :: R) (HA.pack (TkB g gr off (k + 1) e j nx :: pool) :: []) mixed (.i (by repeat constructor)) ?_ (fun g2 => ?_)
  · refine ED.take 0 rfl (by decide +kernel) CutX.no_panic (by decide +kernel) rfl rfl rfl (RV.move rfl) ?_
    refine ED.take 1 rfl (by decide +kernel) CutX.no_panic (by decide +kernel) rfl rfl rfl (RV.nilCheck rfl) ?_
    refine ED.take 2 rfl (by decide +kernel) CutX.no_panic (by decide +kernel) rfl rfl rfl (RV.fieldAddr rfl rfl rfl rfl rfl rfl) ?_
    refine ED.take 3 rfl (by decide +kernel) CutX.no_panic (by decide +kernel) rfl rfl rfl (RV.loadPool rfl rfl rfl (by repeat constructor) ht2 rfl) ?_
    refine ED.take 4 rfl (by decide +kernel) CutX.no_panic (by decide +kernel) rfl rfl rfl (RV.nilCheck rfl) ?_
    refine ED.take 5 rfl (by decide +kernel) CutX.no_panic (by decide +kernel) rfl rfl rfl (RV.fieldAddr rfl rfl rfl rfl rfl rfl) ?_
    refine ED.take 6 rfl (by decide +kernel) CutX.no_panic (by decide +kernel) rfl rfl rfl (RV.loadOld rfl rfl rfl hrd rfl) ?_
    refine ED.take 7 rfl (by decide +kernel) CutX.no_panic (by decide +kernel) rfl rfl rfl (RV.indexAddrL (i := 0) rfl rfl rfl rfl rfl (Nat.zero_lt_succ _)) ?_
    refine ED.take 8 rfl (by decide +kernel) CutX.no_panic (by decide +kernel) rfl rfl rfl (RV.move rfl) ?_
    refine ED.take 9 rfl (by decide +kernel) CutX.no_panic (by decide +kernel) rfl rfl rfl (RV.nilCheck rfl) ?_
    refine ED.take 10 rfl (by decide +kernel) CutX.no_panic (by decide +kernel) rfl rfl rfl (RV.fieldAddr rfl rfl rfl rfl rfl rfl) ?_
    refine ED.take 11 rfl (by decide +kernel) CutX.no_panic (by decide +kernel) rfl rfl rfl (RV.loadPool rfl rfl rfl (by repeat constructor) ht2 rfl) ?_
    refine ED.take 12 rfl (by decide +kernel) CutX.no_panic (by decide +kernel) rfl rfl rfl (RV.move rfl) ?_
    refine ED.take 13 rfl (by decide +kernel) CutX.no_panic (by decide +kernel) rfl rfl rfl (RV.move rfl) ?_
    refine ED.take 14 rfl (by decide +kernel) CutX.no_panic (by decide +kernel) rfl rfl rfl (RV.buildS #[Pv kg (ko + 0 * 9), Iv 0, Iv (i : Nat), Iv (e : Nat), .pointer (some ⟨g, 0, none⟩)] rfl rfl rfl rfl (by kernel_rfl)) ?_
    refine ED.loud 15 rfl (by decide +kernel) ?_
    (refine EL.box rfl rfl rfl ?_; intro g138)
    refine ED.next (.i (by repeat constructor)) ?_
    refine ED.take 16 rfl (by decide +kernel) CutX.no_panic (by decide +kernel) rfl rfl rfl (RV.assign rfl) ?_
    refine ED.done (by decide +kernel) ?_
    exact PX.cutX g138 ⟨rfl, trivial⟩ (.i (by repeat constructor))
  refine ES.poolIn (A := TkB g2 kg (ko + 0 * 9) 0 i e (some ⟨g, 0, none⟩)) (by repeat constructor) ?_
  refine .go ?_; repeat constructor
  exact PX.ret rfl Try.results96 (.cons (.tmp rfl) .nil) (fun w hs => ⟨⟨TkB g2 kg (ko + 0 * 9) 0 i e (some ⟨g, 0, none⟩) :: TkB g gr off (k + 1) e j nx :: pool, some ⟨g2, 0, none⟩, fun _ h => List.mem_cons_of_mem _ (List.mem_cons_of_mem _ h), ⟨g2, kg, ko + 0 * 9, some ⟨g, 0, none⟩, rfl, List.mem_cons_self, hxn, hxf,
    ⟨g, gr, off, nx, rfl, List.mem_cons_of_mem _ List.mem_cons_self, hn, hf, hch.mono (fun _ h => List.mem_cons_of_mem _ (List.mem_cons_of_mem _ h))⟩⟩⟩, rfl, hs.ent (.i (by repeat constructor))⟩)
theorem follow_ch (gs gm : Nat) (s : List UInt8) (st : Nat) (sp : Option Addr) (cap : Nat) (z z' : List Spn) (pool : List HA) (e : Nat) (l now : List Tk) (w0 : World) (B : Nat) (p : Option Addr) (hch : ChainAt w0 B pool p l) (hk : ∀ t, l.head? = some t → t.r.kind ≠ 4 → t.k ≤ 1073741824)
    (he : followB l e z = some (now, z')) :
    MutAt Try.prog 96 #[Pv gs 0, .pointer p, Iv (e : Nat)] [SB10 gs s st sp z.length cap gm, PRow sp cap z, HA.pack pool] (fun x : FoX w0 B pool now => .pointer x.p)
      (fun x => [SB10 gs s st sp z'.length cap gm, PRow sp cap z', HA.pack x.pool']) w0 B := by
  cases l with
  | nil => cases he
  | cons t ts =>
    obtain ⟨g, gr, off, nx, rfl, h2, h3, h4, h5⟩ := hch
    exact follow_c gs gm s st sp cap z z' pool t.r t.k t.i t.j e (hk t rfl) ts now w0 B g gr off nx h2 h3 h4 h5 he
end Go.Proofs.Ytblpgpgbnlhjlaa
namespace Go.Proofs.Ytblpgpgbnlhjlaa
open Go Go.RowKit Sl
set_option maxRecDepth 100000
set_option maxHeartbeats 8000000
set_option linter.unusedVariables false
set_option linter.unusedSimpArgs false
attribute [local irreducible] ES EL PX wps
structure HBr where
  p : Option Addr
  ea : Option Addr
  ec : Nat
  sa : Option Addr
  sc : Nat
  b : Br
def HBr.cells (x : HBr) : List Value := [.pointer x.p, .slice x.ea x.b.ends.length x.ec, .slice x.sa x.b.spans.length x.sc]
def brsC (l : List HBr) : List Value := l.flatMap HBr.cells
theorem brs_app (l l' : List HBr) : brsC (l ++ l') = brsC l ++ brsC l' := by simp [brsC]
theorem brs_one (x : HBr) : brsC [x] = x.cells := by simp [brsC]
theorem brs_len : ∀ l : List HBr, (brsC l).length = l.length * 3
  | [] => rfl
  | x :: l => by
    have := brs_len l
    show (x.cells ++ brsC l).length = _
    rw [List.length_append, this, List.length_cons]
    show 3 + _ = _
    omega
theorem brs_top (l : List HBr) (x : HBr) (j : Nat) : (brsC (l ++ [x]))[0 + l.length * 3 + j]? = x.cells[j]? := by
  rw [Nat.zero_add, brs_app, brs_one, List.getElem?_append_right (by rw [brs_len]; omega), brs_len, Nat.add_sub_cancel_left]
theorem brs_cut (l : List HBr) (x : HBr) : (brsC (l ++ [x])).take (l.length * 3) = brsC l := by
  rw [brs_app, ← brs_len, List.take_left]
theorem brs_set (l : List HBr) (x y : HBr) (v : Value) (h : x.cells.set 1 v = y.cells) : (brsC (l ++ [x])).set (0 + l.length * 3 + 1) v = brsC (l ++ [y]) := by
  rw [Nat.zero_add, brs_app, brs_app, brs_one, brs_one, List.set_append_right _ _ (by rw [brs_len]; omega), brs_len, Nat.add_sub_cancel_left, h]
structure HBr.Ok (w0 : World) (B : Nat) (es : List ME) (pool : List HA) (zl : Nat) (x : HBr) : Prop where
  chain : ChainAt w0 B pool x.p x.b.ts
  ends : EndsAt es pool x.ea x.b.ends
  ecap : x.b.ends.length ≤ x.ec
  spans : PRow x.sa x.sc x.b.spans ∈ pool
  small : x.b.spans.length = zl
  kle : ∀ t, x.b.ts.head? = some t → t.r.kind ≠ 4 → t.k ≤ 1073741824
theorem HBr.Ok.mono {w0 : World} {B : Nat} {es es' : List ME} {pool pool' : List HA} {zl : Nat} {x : HBr} (h : x.Ok w0 B es pool zl) (he : ∀ m ∈ es, m ∈ es') (hp : ∀ A ∈ pool, A ∈ pool') : x.Ok w0 B es' pool' zl :=
  ⟨h.chain.mono hp, h.ends.mono he hp, h.ecap, hp _ h.spans, h.small, h.kle⟩
theorem follow_len {l now : List Tk} {e : Nat} {z z' : List Spn} (h : followB l e z = some (now, z')) : z'.length = z.length := by
  cases l with
  | nil => cases h
  | cons t ts =>
    obtain ⟨r, k, i, j⟩ := t
    rw [followB] at h
    cases r <;> dsimp only at h
    · split at h
      · cases h; rfl
      · cases h
    · cases h
    · cases h
    · cases h
    · split at h
      · cases h; simp
      · cases h
    · cases h; rfl
    · cases h
theorem ends_kle {s : List UInt8} {t : Tk} {z : List Spn} {l : List Nat} (hf : t.r.fine) (h : endsB s t z = some (l, true)) (hl : l ≠ []) (hfo : ∃ ts e x, followB (t :: ts) e z = some x) (hk : t.r.kind ≠ 4) : t.k ≤ 1073741824 := by
  obtain ⟨r, k, i, j⟩ := t
  obtain ⟨ts, e, x, hx⟩ := hfo
  rw [endsB] at h
  rw [followB] at hx
  split at h
  rotate_left
  · cases h
  cases r <;> dsimp only at h hx hf hk ⊢
  · split at hx
    · rename_i y hy
      have := (List.getElem?_eq_some_iff.1 hy).1
      have := hf.1
      omega
    · cases hx
  · cases hx
  · cases hx
  · cases hx
  · exact absurd rfl hk
  · split at h
    · cases h; exact absurd rfl hl
    · split at h
      · rename_i h2; have := h2.1; omega
      · cases h
  · cases hx
theorem spsC_one (l : List Spn) : ∀ u ∈ spsC l, u.oneCell' = true := fun u hu => by
  obtain ⟨p, _, hp⟩ := List.mem_flatMap.1 hu
  simp only [spC, List.mem_cons, List.not_mem_nil, or_false] at hp
  rcases hp with rfl | rfl <;> rfl
theorem ends_rest {es : List ME} {pool : List HA} {g off e cap : Nat} {l : List Nat} (h : EndsAt es pool (some ⟨g, off, none⟩) (e :: l)) (hc : l.length + 1 ≤ cap) : EndsAt es pool (if cap = 1 then some ⟨g, off, none⟩ else (some (⟨g, off, none⟩ : Addr)).map (·.add (1 * 1))) l := by
  by_cases h1 : cap = 1
  · obtain rfl : l = [] := List.eq_nil_of_length_eq_zero (by omega)
    exact EndsAt.nil _ _ _
  · rw [if_neg h1]
    exact h.tail
theorem top_of {l : List HBr} (h : 0 < l.length) : ∃ init top, l = init ++ [top] := ⟨l.dropLast, l.getLast (by intro e; subst e; simp at h), (List.dropLast_concat_getLast _).symm⟩
theorem pop_dead {init : List HBr} {x : HBr} (h : x.b.ends = []) : popB (((init ++ [x]).map HBr.b).reverse) = popB ((init.map HBr.b).reverse) := by
  rw [List.map_append, List.map_cons, List.map_nil, List.reverse_append, List.reverse_singleton, List.singleton_append, popB, if_pos h]
theorem pop_top {init : List HBr} {x : HBr} (h : x.b.ends ≠ []) : popB (((init ++ [x]).map HBr.b).reverse) = some (x.b, (init.map HBr.b).reverse) := by
  rw [List.map_append, List.map_cons, List.map_nil, List.reverse_append, List.reverse_singleton, List.singleton_append, popB, if_neg h]
theorem stk_rev (init : List HBr) (x : HBr) : ((init ++ [x]).map HBr.b).reverse = x.b :: (init.map HBr.b).reverse := by
  rw [List.map_append, List.map_cons, List.map_nil, List.reverse_append, List.reverse_singleton, List.singleton_append]
structure RnS where
  f : Nat
  now : List Tk
  stk : List HBr
  z : List Spn
  p : Option Addr
  sp : Option Addr
  cap : Nat
  es : List ME
  st : Nat
  pool : List HA
  sad : Option Addr
  scap : Nat
structure RnOk (w0 : World) (B : Nat) (s : List UInt8) (res : Option (List Spn)) (F zl top : Nat) (x : RnS) : Prop where
  run : runB s x.f x.now (x.stk.map HBr.b).reverse x.z = some res
  mem : MemB w0 B s x.es
  chain : ChainAt w0 B x.pool x.p x.now
  stk : ∀ y ∈ x.stk, y.Ok w0 B x.es x.pool zl
  steps : x.st + x.f * (2 * floodC) ≤ top
  small : x.z.length = zl
  high : x.stk.length + x.f ≤ F
structure RnX (w0 : World) (B : Nat) (s : List UInt8) (res : Option (List Spn)) (zl top : Nat) where
  es' : List ME
  st' : Nat
  sp : Option Addr
  cap : Nat
  z : List Spn
  ok : MemB w0 B s es'
  le : st' ≤ top
  len : z.length = zl
  eq : ∀ y, res = some y → z = y
theorem run10_c (gs gm : Nat) (s : List UInt8) (hs : s.length ≤ 1024) (st F : Nat) (hF : F ≤ 16384) (hst : st + F * (2 * floodC) ≤ 576460752303423488) (sp : Option Addr) (cap : Nat) (z : List Spn) (hz : z.length ≤ 100) (es : List ME) (r : RE) (i j : Nat) (w0 : World) (B gr off : Nat) (hn : NodeRd w0 B gr off r) (hf : r.fine) (hok : MemB w0 B s es)
    (res : Option (List Spn)) (hrun : runB s F [⟨r, 0, i, j⟩] [] z = some res) :
    MutAt Try.prog 69 #[Pv gs 0, Pv gr off, Iv (i : Nat), Iv (j : Nat)] [SB10 gs s st sp z.length cap gm, HA.memo gm 3 es, PRow sp cap z] (fun _ : RnX w0 B s res z.length (st + F * (2 * floodC)) => .bool res.isSome)
      (fun x => [SB10 gs s x.st' x.sp x.z.length x.cap gm, HA.memo gm 3 x.es', PRow x.sp x.cap x.z]) w0 B := by
  intro R w h
  replace h : Sat w0 B (SB10 gs s st sp z.length cap gm :: HA.memo gm 3 es :: PRow sp cap z :: R) w := h
  refine calls_of_ES TB Try.func69 rfl _ Try.ntmps69 rfl h ?_
  refine .gr ?_; repeat constructor
  refine EL.assign rfl rfl rfl ?_
  refine .gr ?_; repeat constructor
  refine EL.assign rfl rfl rfl ?_
  refine .gr ?_; repeat constructor
  refine EL.move rfl rfl rfl ?_
  refine EL.move rfl rfl rfl ?_
  refine EL.move rfl rfl rfl ?_
  refine EL.buildS #[Pv gr off, Iv 0, Iv (i : Nat), Iv (j : Nat), .pointer none] rfl rfl rfl rfl rfl (by kernel_rfl) rfl ?_
  (refine EL.box rfl rfl rfl ?_; intro g20)
  refine EL.assign rfl rfl rfl ?_
  refine .gr ?_; repeat constructor
  refine ES.pack0 ?_
  refine ES.poolIn (A := TkB g20 gr off 0 i j none) (by repeat constructor) ?_
  refine ES.nilRow 203 3 ?_
  refine ES.loop (σ := RnS) (RnOk w0 B s res F z.length (st + F * (2 * floodC))) (fun x => [(0, Pv gs 0), (9, .slice x.sad x.stk.length x.scap), (10, .pointer x.p)])
    (fun x => SB10 gs s x.st x.sp x.z.length x.cap gm :: HA.memo gm 3 x.es :: PRow x.sp x.cap x.z :: HA.pack x.pool :: HA.row (.slice x.sad x.stk.length x.scap) 203 3 x.stk.length (brsC x.stk) :: R) (fun x => x.f)
    ⟨F, [⟨r, 0, i, j⟩], [], z, some ⟨g20, 0, none⟩, sp, cap, es, st, [TkB g20 gr off 0 i j none], none, 0⟩ ⟨hrun, hok, ⟨g20, gr, off, none, rfl, List.mem_cons_self, hn, hf, rfl⟩, fun y hy => by simp at hy, Nat.le_refl _, rfl, by simp⟩ ⟨rfl, rfl, rfl, trivial⟩ (.i (by repeat constructor)) ?_
  rintro ⟨f, now, stk, z1, p, sp1, cap1, es1, st1, pool, sad, scap⟩ ⟨hgo, hmem, hch, hstk, hsteps, hsmall, hhigh⟩
  dsimp only at hgo hmem hch hstk hsteps hsmall hhigh ⊢
  obtain ⟨f, rfl⟩ : ∃ f', f = f' + 1 := by
    cases f with
    | zero => rw [runB] at hgo; cases hgo
    | succ f => exact ⟨f, rfl⟩
  have hst1 : st1 + 2 * floodC + f * (2 * floodC) ≤ st + F * (2 * floodC) := by rw [Nat.succ_mul] at hsteps; omega
  cases now with
  | nil =>
    have hp : p = none := hch
    subst hp
    rw [runB] at hgo
    cases hgo
    refine .gr ?_; repeat constructor
    refine EL.move rfl rfl rfl ?_
    refine EL.neqPn rfl rfl rfl rfl rfl rfl ?_
    refine .gr ?_; repeat constructor
    refine ES.condF rfl ?_
    refine .gr ?_; repeat constructor
    refine .gr ?_; repeat constructor
    refine EL.assign rfl rfl rfl ?_
    refine .gr ?_; repeat constructor
    exact PX.ret rfl Try.results69 (.cons (.tmp rfl) .nil) (fun w hs => ⟨⟨es1, st1, sp1, cap1, z1, hmem, by omega, hsmall, fun y hy => Option.some.inj hy⟩, rfl, hs.ent (.i (by repeat constructor))⟩)
  | cons t ts =>
    obtain ⟨r1, k1, i1, j1⟩ := t
    obtain ⟨tg, tgr, toff, tnx, rfl, htk, htn, htf, htc⟩ := hch
    dsimp only at htk htn htf
    refine .gr ?_; repeat constructor
    refine EL.move rfl rfl rfl ?_
    refine EL.neqPn rfl rfl rfl rfl rfl rfl ?_
    refine .gr ?_; repeat constructor
    refine ES.condT rfl ?_
    rw [runB] at hgo
    cases he : endsB s ⟨r1, k1, i1, j1⟩ z1 with
    | none => rw [he] at hgo; cases hgo
    | some lo =>
    obtain ⟨l, ok⟩ := lo
    rw [he] at hgo
    dsimp only at hgo
    have hends := ends10_c gs gm s hs st1 (by omega) sp1 cap1 z1 es1 pool r1 k1 i1 j1 w0 B tg tgr toff tnx htk htn htf hmem l ok he
    refine .gr ?_; repeat constructor
    refine EL.move rfl rfl rfl ?_
    refine EL.move rfl rfl rfl ?_
    (refine EL.callMw rfl rfl rfl ent94 rfl hends (by repeat constructor) ?_; rintro ⟨es2, st2, pool2, lad, lcap, y1, y2, y3, y4, y5, y6⟩)
    refine EL.move rfl rfl rfl ?_
    refine EL.extract rfl rfl rfl rfl ?_
    refine EL.extract rfl rfl rfl rfl ?_
    refine EL.assign rfl rfl rfl ?_
    refine EL.assign rfl rfl rfl ?_
    refine .gr ?_; repeat constructor
    dsimp only
    have htk2 := y2 _ htk
    have hstk2 : ∀ y ∈ stk, y.Ok w0 B es2 pool2 z.length := fun y hy => (hstk y hy).mono y1 y2
    have htc2 := htc.mono y2
    refine EL.cutX (X := Unit) (fun _ => [(0, Pv gs 0), (9, .slice sad stk.length scap), (10, Pv tg 0), (11, .slice lad l.length lcap), (12, .bool ok), (13, .bool (decide (ok = true ∧ l = [] ∧ needsB ⟨r1, k1, i1, j1⟩ = false)))])
      (fun _ => SB10 gs s st2 sp1 z1.length cap1 gm :: HA.memo gm 3 es2 :: PRow sp1 cap1 z1 :: HA.pack pool2 :: HA.row (.slice sad stk.length scap) 203 3 stk.length (brsC stk) :: R) ?_ (fun _ => ?_)
    · refine .gr ?_; repeat constructor
      refine EL.move rfl rfl rfl ?_
      refine EL.move rfl rfl rfl ?_
      first | refine EL.splitD (d := 30) rfl (fun hp30 => ?_) (fun hp30 => ?_) | refine EL.splitN (d := 30) rfl (fun hp30 => ?_) (fun hp30 => ?_) | refine EL.splitB (d := 30) rfl (fun hp30 => ?_) (fun hp30 => ?_)
      · refine EL.move rfl rfl rfl ?_
        refine EL.lenL rfl rfl rfl rfl rfl ?_
        refine EL.eqlI rfl rfl rfl rfl ?_
        refine EL.pickT rfl rfl rfl rfl ?_
        refine EL.move rfl rfl rfl ?_
        first | refine EL.splitD (d := 35) rfl (fun hp35 => ?_) (fun hp35 => ?_) | refine EL.splitN (d := 35) rfl (fun hp35 => ?_) (fun hp35 => ?_) | refine EL.splitB (d := 35) rfl (fun hp35 => ?_) (fun hp35 => ?_)
        · refine EL.move rfl rfl rfl ?_
          refine EL.callPw rfl rfl rfl ent95 rfl (fun w hs => needs_c r1 k1 i1 j1 htf tg tgr toff tnx w (pool_rdB hs (by repeat constructor) htk2) (NodeRd.sat htn hs)) ?_
          refine EL.not rfl rfl rfl ?_
          refine EL.pickT rfl rfl rfl rfl ?_
          refine EL.assign rfl rfl rfl ?_
          exact EL.endX () ⟨rfl, rfl, rfl, rfl, rfl, getA rfl (congrArg Value.bool (by rw [Bool.eq_iff_iff]; simp only [decide_eq_true_eq, ← List.length_eq_zero_iff] at *; first | (simp_all; done) | (simp_all; omega))), trivial⟩ (.i (by repeat constructor))
        · refine EL.pass rfl rfl rfl ?_
          refine EL.pass rfl rfl rfl ?_
          refine EL.pass rfl rfl rfl ?_
          refine EL.pickF rfl rfl rfl rfl ?_
          refine EL.assign rfl rfl rfl ?_
          exact EL.endX () ⟨rfl, rfl, rfl, rfl, rfl, getA rfl (congrArg Value.bool (by rw [Bool.eq_iff_iff]; simp only [decide_eq_true_eq, ← List.length_eq_zero_iff] at *; first | (simp_all; done) | (simp_all; omega))), trivial⟩ (.i (by repeat constructor))
      · refine EL.pass rfl rfl rfl ?_
        refine EL.pass rfl rfl rfl ?_
        refine EL.pass rfl rfl rfl ?_
        refine EL.pickF rfl rfl rfl rfl ?_
        refine EL.move rfl rfl rfl ?_
        refine EL.pass rfl rfl rfl ?_
        refine EL.pass rfl rfl rfl ?_
        refine EL.pass rfl rfl rfl ?_
        refine EL.pickF rfl rfl rfl rfl ?_
        refine EL.assign rfl rfl rfl ?_
        exact EL.endX () ⟨rfl, rfl, rfl, rfl, rfl, getA rfl (congrArg Value.bool (by rw [Bool.eq_iff_iff]; simp only [decide_eq_true_eq, ← List.length_eq_zero_iff] at *; first | (simp_all; done) | (simp_all; omega))), trivial⟩ (.i (by repeat constructor))
    refine .gr ?_; repeat constructor
    refine EL.move rfl rfl rfl ?_
    refine .gr ?_; repeat constructor
    refine ES.condD rfl (fun hA => ?_) (fun hA => ?_)
    · rw [if_pos hA] at hgo
      refine .gr ?_; repeat constructor
      refine EL.move rfl rfl rfl ?_
      refine EL.nilCheck rfl rfl rfl ?_
      refine EL.fieldAddr rfl rfl rfl rfl rfl rfl rfl rfl ?_
      refine EL.loadPool rfl rfl rfl rfl rfl (by repeat constructor) htk2 rfl ?_
      refine EL.assign rfl rfl rfl ?_
      refine .gr ?_; repeat constructor
      exact PX.loop ⟨f, ts, stk, z1, tnx, sp1, cap1, es2, st2, pool2, sad, scap⟩ ⟨hgo, y3, htc2, hstk2, by dsimp only; omega, hsmall, by dsimp only; omega⟩ (Nat.lt_succ_self _) ⟨rfl, rfl, rfl, trivial⟩ (.i (by repeat constructor))
    rw [if_neg hA] at hgo
    refine .gr ?_; repeat constructor
    refine EL.cutX (X := Unit) (fun _ => [(0, Pv gs 0), (9, .slice sad stk.length scap), (10, Pv tg 0), (11, .slice lad l.length lcap), (50, .bool (decide (ok = true ∧ l ≠ [])))])
      (fun _ => SB10 gs s st2 sp1 z1.length cap1 gm :: HA.memo gm 3 es2 :: PRow sp1 cap1 z1 :: HA.pack pool2 :: HA.row (.slice sad stk.length scap) 203 3 stk.length (brsC stk) :: R) ?_ (fun _ => ?_)
    · refine .gr ?_; repeat constructor
      refine EL.move rfl rfl rfl ?_
      refine EL.move rfl rfl rfl ?_
      first | refine EL.splitD (d := 46) rfl (fun hp46 => ?_) (fun hp46 => ?_) | refine EL.splitN (d := 46) rfl (fun hp46 => ?_) (fun hp46 => ?_) | refine EL.splitB (d := 46) rfl (fun hp46 => ?_) (fun hp46 => ?_)
      · refine EL.move rfl rfl rfl ?_
        refine EL.lenL rfl rfl rfl rfl rfl ?_
        refine EL.gtr rfl rfl rfl rfl ?_
        refine EL.pickT rfl rfl rfl rfl ?_
        exact EL.endX () ⟨rfl, rfl, rfl, rfl, getA rfl (congrArg Value.bool (by clear hgo; rw [Bool.eq_iff_iff]; cases l <;> simp_all)), trivial⟩ (.i (by repeat constructor))
      · refine EL.pass rfl rfl rfl ?_
        refine EL.pass rfl rfl rfl ?_
        refine EL.pass rfl rfl rfl ?_
        refine EL.pickF rfl rfl rfl rfl ?_
        exact EL.endX () ⟨rfl, rfl, rfl, rfl, getA rfl (congrArg Value.bool (by clear hgo; rw [Bool.eq_iff_iff]; cases l <;> simp_all)), trivial⟩ (.i (by repeat constructor))
    refine ES.condD rfl (fun hB => ?_) (fun hB => ?_)
    · obtain ⟨rfl, hne⟩ := hB
      obtain ⟨e, el, rfl⟩ : ∃ e el, l = e :: el := by
        cases l with
        | nil => exact absurd rfl hne
        | cons e el => exact ⟨e, el, rfl⟩
      rw [if_pos ⟨rfl, hne⟩] at hgo
      dsimp only [List.headD_cons, List.tail_cons] at hgo
      cases hfo : followB (⟨r1, k1, i1, j1⟩ :: ts) e z1 with
      | none => rw [hfo] at hgo; cases hgo
      | some nz =>
      obtain ⟨now2, z2⟩ := nz
      rw [hfo] at hgo
      dsimp only at hgo
      obtain ⟨lg, lo, rfl, _⟩ := y5 hne
      have hlc : el.length + 1 ≤ lcap := y6
      have htl := ends_rest y5 hlc
      have hkle : r1.kind ≠ 4 → k1 ≤ 1073741824 := ends_kle (t := ⟨r1, k1, i1, j1⟩) htf he hne ⟨ts, e, _, hfo⟩
      generalize hX : (if lcap = 1 then some ⟨lg, lo, none⟩ else (some (⟨lg, lo, none⟩ : Addr)).map (·.add (1 * 1))) = tad at htl
      refine .gs ?_; repeat constructor
      refine ES.draw (X := (Option Addr × Nat) × (Nat × Nat)) (fun x => [(0, Pv gs 0), (9, .slice (some ⟨x.2.1, 0, none⟩) (stk.length + 1) x.2.2), (10, Pv tg 0), (11, .slice (some ⟨lg, lo, none⟩) (el.length + 1) lcap)])
        (fun x => PRow x.1.1 x.1.2 z1 :: SB10 gs s st2 sp1 z1.length cap1 gm :: HA.memo gm 3 es2 :: PRow sp1 cap1 z1 :: HA.pack pool2 :: HA.row (.slice (some ⟨x.2.1, 0, none⟩) (stk.length + 1) x.2.2) 203 3 (stk.length + 1) (brsC stk ++ HBr.cells ⟨some ⟨tg, 0, none⟩, tad, lcap - 1, x.1.1, x.1.2, ⟨⟨r1, k1, i1, j1⟩ :: ts, el, z1⟩⟩) :: R)
        (SB10 gs s st2 sp1 z1.length cap1 gm :: PRow sp1 cap1 z1 :: []) mixed (.i (by repeat constructor)) ?_ (fun x => ?_)
      · refine ED.take 0 rfl (by decide +kernel) CutX.no_panic (by decide +kernel) rfl rfl rfl (RV.move rfl) ?_
        refine ED.take 1 rfl (by decide +kernel) CutX.no_panic (by decide +kernel) rfl rfl rfl (RV.move rfl) ?_
        refine ED.take 2 rfl (by decide +kernel) CutX.no_panic (by decide +kernel) rfl rfl rfl (RV.move rfl) ?_
        refine ED.take 3 rfl (by decide +kernel) CutX.no_panic (by decide +kernel) rfl rfl rfl (RV.sliceLoG' (lo := 1) hX rfl rfl rfl rfl rfl (Nat.succ_le_succ (Nat.zero_le _)) hlc) ?_
        refine ED.take 4 rfl (by decide +kernel) CutX.no_panic (by decide +kernel) rfl rfl rfl (RV.move rfl) ?_
        refine ED.take 5 rfl (by decide +kernel) CutX.no_panic (by decide +kernel) rfl rfl rfl (RV.nilCheck rfl) ?_
        refine ED.take 6 rfl (by decide +kernel) CutX.no_panic (by decide +kernel) rfl rfl rfl (RV.fieldAddr rfl rfl rfl rfl rfl rfl) ?_
        refine ED.take 7 rfl (by decide +kernel) CutX.no_panic (by decide +kernel) rfl rfl rfl (RV.loadB rfl rfl rfl (by repeat constructor) rfl) ?_
        refine ED.loud 8 rfl (by decide +kernel) ?_
        (refine EL.copyNil rfl rfl rfl rfl rfl rfl rfl rfl rfl (fun w hs => Rd.row hs (by repeat constructor) (by decide)) (spsC_len z1) (spsC_one z1) (by unfold maxLen; omega) (Nat.le_trans (Nat.mul_le_mul_right _ (show _ ≤ 100 by omega)) (by decide)) ?_; intro ap cp)
        refine ED.next (.i (by repeat constructor)) ?_
        refine ED.take 9 rfl (by decide +kernel) CutX.no_panic (by decide +kernel) rfl rfl rfl (RV.buildS #[Pv tg 0, .slice tad el.length (lcap - 1), .slice ap z1.length cp] rfl rfl rfl rfl (by kernel_rfl)) ?_
        refine ED.loud 10 rfl (by decide +kernel) ?_
        (refine EL.buildSlice1 rfl rfl rfl rfl rfl rfl rfl rfl rfl rfl ?_; intro b61)
        refine ED.next (.i (by repeat constructor)) ?_
        refine ED.loud 11 rfl (by decide +kernel) ?_
        (refine EL.append1 rfl rfl rfl rfl rfl rfl rfl rfl rfl (by repeat constructor) (by repeat constructor) (by first | (intro u hu; simp [Value.cells] at hu; subst hu; rfl) | exact all1 rfl) (by rfl) (by unfold maxLen; omega) (by first | omega | (show 1 * _ ≤ _; omega) | (show 8 * _ ≤ _; omega) | (show 16 * _ ≤ _; omega) | (show 24 * _ ≤ _; omega) | (show _ * 1 ≤ _; omega) | (show _ * 8 ≤ _; omega) | (show _ * 16 ≤ _; omega) | (show _ * 24 ≤ _; omega) | exact Nat.le_trans (Nat.mul_le_mul_right _ (show _ ≤ 1073741824 by omega)) (by decide)) ?_; intro a62 c62)
        refine ED.next (.i (by repeat constructor)) ?_
        refine ED.take 12 rfl (by decide +kernel) CutX.no_panic (by decide +kernel) rfl rfl rfl (RV.assign rfl) ?_
        refine ED.done (by decide +kernel) ?_
        exact PX.cutX ((ap, cp), (a62, c62)) ⟨rfl, rfl, rfl, rfl, trivial⟩ (.i (by repeat constructor))
      obtain ⟨⟨ap, cp⟩, sg, sc⟩ := x
      dsimp only
      obtain ⟨xb, hxb⟩ : ∃ xb : HBr, xb = ⟨some ⟨tg, 0, none⟩, tad, lcap - 1, ap, cp, ⟨⟨r1, k1, i1, j1⟩ :: ts, el, z1⟩⟩ := ⟨_, rfl⟩
      rw [← hxb]
      refine ES.poolIn (A := PRow ap cp z1) (by repeat constructor) ?_
      have htk3 := List.mem_cons_of_mem (PRow ap cp z1) htk2
      have hch3 : ChainAt w0 B (PRow ap cp z1 :: pool2) (some ⟨tg, 0, none⟩) (⟨r1, k1, i1, j1⟩ :: ts) := ⟨tg, tgr, toff, tnx, rfl, htk3, htn, htf, htc2.mono (fun _ h => List.mem_cons_of_mem _ h)⟩
      have hE3 := y5.mono (fun _ h => h) (fun A h => List.mem_cons_of_mem (PRow ap cp z1) h)
      obtain ⟨_, _, hea, hE⟩ := hE3 hne
      cases hea
      have hfol := follow_ch gs gm s st2 sp1 cap1 z1 z2 (PRow ap cp z1 :: pool2) e (⟨r1, k1, i1, j1⟩ :: ts) now2 w0 B (some ⟨tg, 0, none⟩) hch3 (fun t ht hk4 => by cases ht; exact hkle hk4) hfo
      refine .gr ?_; repeat constructor
      refine EL.move rfl rfl rfl ?_
      refine EL.move rfl rfl rfl ?_
      refine EL.move rfl rfl rfl ?_
      refine EL.indexAddrL (i := 0) rfl rfl rfl rfl rfl rfl rfl (Nat.zero_lt_succ _) ?_
      refine EL.ofRV (RV.loadEnds (q := 0) rfl rfl rfl (by repeat constructor) (by repeat constructor) hE rfl) rfl rfl rfl (by intro c h; cases h) ?_
      (refine EL.callMw rfl rfl rfl ent96 rfl hfol (by repeat constructor) ?_; rintro ⟨pool4, np, u1, u2⟩)
      refine EL.assign rfl rfl rfl ?_
      refine .gr ?_; repeat constructor
      dsimp only
      have hxok : xb.Ok w0 B es2 pool4 z.length := by
        subst hxb
        exact ⟨hch3.mono u1, htl.mono (fun _ h => h) (fun A h => u1 _ (List.mem_cons_of_mem _ h)), by show el.length ≤ lcap - 1; omega, u1 _ List.mem_cons_self, hsmall, fun t ht hk4 => by cases ht; exact hkle hk4⟩
      have hxbb : xb.b = ⟨⟨r1, k1, i1, j1⟩ :: ts, el, z1⟩ := by rw [hxb]
      have hll : (stk ++ [xb]).length = stk.length + 1 := by simp
      exact PX.loop ⟨f, now2, stk ++ [xb], z2, np, sp1, cap1, es2, st2, pool4, some ⟨sg, 0, none⟩, sc⟩ ⟨by dsimp only; rw [stk_rev, hxbb]; exact hgo, y3, u2, fun y hy => by
          rcases List.mem_append.1 hy with hy | hy
          · exact (hstk2 y hy).mono (fun _ h => h) (fun A h => u1 _ (List.mem_cons_of_mem _ h))
          · rw [List.mem_singleton] at hy; subst hy; exact hxok, by dsimp only; omega, by dsimp only; rw [follow_len hfo]; exact hsmall, by dsimp only; rw [hll]; omega⟩ (Nat.lt_succ_self _)
        ⟨rfl, getA rfl (congrArg (fun n => Value.slice (some ⟨sg, 0, none⟩) n sc) hll.symm), rfl, trivial⟩ (by dsimp only; rw [hll, brs_app, brs_one]; exact (.i (by repeat constructor)))
    rw [if_neg hB] at hgo
    refine .gr ?_; repeat constructor
    refine ES.loop (σ := List HBr) (fun l => popB ((l.map HBr.b).reverse) = popB ((stk.map HBr.b).reverse) ∧ (∀ y ∈ l, y ∈ stk) ∧ l.length ≤ stk.length) (fun l => [(0, Pv gs 0), (9, .slice sad l.length scap)])
      (fun l => SB10 gs s st2 sp1 z1.length cap1 gm :: HA.memo gm 3 es2 :: PRow sp1 cap1 z1 :: HA.pack pool2 :: HA.row (.slice sad l.length scap) 203 3 l.length (brsC l) :: R) (fun l => l.length) stk ⟨rfl, fun _ h => h, Nat.le_refl _⟩ ⟨rfl, rfl, trivial⟩ (.i (by repeat constructor)) ?_
    rintro hb ⟨hp1, hp2, hp3⟩
    refine .gr ?_; repeat constructor
    refine EL.move rfl rfl rfl ?_
    refine EL.lenL rfl rfl rfl rfl rfl ?_
    refine EL.gtr rfl rfl rfl rfl ?_
    refine .gr ?_; repeat constructor
    refine ES.condD rfl (fun hpos => ?_) (fun hzero => ?_)
    rotate_left
    · obtain rfl : hb = [] := List.eq_nil_of_length_eq_zero (by omega)
      rw [← hp1] at hgo
      cases hgo
      refine .gr ?_; repeat constructor
      refine .gr ?_; repeat constructor
      refine EL.assign rfl rfl rfl ?_
      refine .gr ?_; repeat constructor
      exact PX.ret rfl Try.results69 (.cons (.tmp rfl) .nil) (fun w hs => ⟨⟨es2, st2, sp1, cap1, z1, y3, by omega, hsmall, fun y hy => by cases hy⟩, rfl, hs.ent (.i (by repeat constructor))⟩)
    obtain ⟨init, tp, rfl⟩ := top_of (show 0 < hb.length by omega)
    have hln : (init ++ [tp]).length = init.length + 1 := by simp
    have htp := hstk2 tp (hp2 tp (by simp))
    refine ES.know (P := (∃ g, sad = some ⟨g, 0, none⟩) ∧ (init ++ [tp]).length ≤ scap) (fun w hs => ⟨(row_form (hs.all (HA.row (.slice sad (init ++ [tp]).length scap) 203 3 (init ++ [tp]).length (brsC (init ++ [tp]))) (by simp))).2.2.2.2 (by omega), (row_form (hs.all (HA.row (.slice sad (init ++ [tp]).length scap) 203 3 (init ++ [tp]).length (brsC (init ++ [tp]))) (by simp))).2.1⟩) ?_
    rintro ⟨⟨sg, rfl⟩, hcapn⟩
    obtain ⟨tpp, tea, tec, tsa, tsc, ⟨tts, tends, tspans⟩⟩ := tp
    have hcell := fun j v (h : (HBr.cells ⟨tpp, tea, tec, tsa, tsc, ⟨tts, tends, tspans⟩⟩)[j]? = some v) => (brs_top init ⟨tpp, tea, tec, tsa, tsc, ⟨tts, tends, tspans⟩⟩ j).trans h
    have hsub : Iv (((init ++ [(⟨tpp, tea, tec, tsa, tsc, ⟨tts, tends, tspans⟩⟩ : HBr)]).length - 1 : Nat) : Int) = Iv (init.length : Nat) := by rw [hln]; rfl
    refine .gr ?_; repeat constructor
    refine EL.move rfl rfl rfl ?_
    refine EL.move rfl rfl rfl ?_
    refine EL.lenL rfl rfl rfl rfl rfl ?_
    refine EL.sub1 rfl rfl rfl rfl (by omega) (by omega) ?_
    (refine EL.rew (d := 75) (v' := Iv (init.length : Nat)) rfl hsub ?_; refine EL.indexAddrL (i := init.length) rfl rfl rfl rfl rfl rfl rfl (by omega) ?_)
    refine EL.assign rfl rfl rfl ?_
    refine .gr ?_; repeat constructor
    refine .gr ?_; repeat constructor
    refine EL.move rfl rfl rfl ?_
    refine EL.nilCheck rfl rfl rfl ?_
    refine EL.fieldAddr rfl rfl rfl rfl rfl rfl rfl rfl ?_
    refine EL.loadR rfl rfl rfl rfl rfl (by repeat constructor) (hcell 1 _ rfl) ?_
    refine EL.lenL rfl rfl rfl rfl rfl ?_
    refine EL.eqlI rfl rfl rfl rfl ?_
    refine .gr ?_; repeat constructor
    refine ES.condD rfl (fun hE0 => ?_) (fun hE0 => ?_)
    · have hE1 : ((tends.length : Nat) : Int) = 0 := hE0
      obtain rfl : tends = [] := List.eq_nil_of_length_eq_zero (by omega)
      have hcutS : ∀ w, Sat w0 B (HA.row (.slice (some ⟨sg, 0, none⟩) (init ++ [(⟨tpp, tea, tec, tsa, tsc, ⟨tts, [], tspans⟩⟩ : HBr)]).length scap) 203 3 (init ++ [(⟨tpp, tea, tec, tsa, tsc, ⟨tts, [], tspans⟩⟩ : HBr)]).length (brsC (init ++ [⟨tpp, tea, tec, tsa, tsc, ⟨tts, [], tspans⟩⟩])) :: SB10 gs s st2 sp1 z1.length cap1 gm :: HA.memo gm 3 es2 :: PRow sp1 cap1 z1 :: HA.pack pool2 :: R) w →
          Sat w0 B (HA.row (.slice (some ⟨sg, 0, none⟩) init.length scap) 203 3 init.length (brsC init) :: SB10 gs s st2 sp1 z1.length cap1 gm :: HA.memo gm 3 es2 :: PRow sp1 cap1 z1 :: HA.pack pool2 :: R) w := fun w hs => by
        have h1 := Sat.cutRow (m := init.length) hs (by omega)
        rw [brs_cut] at h1
        exact h1
      refine .gr ?_; repeat constructor
      refine EL.move rfl rfl rfl ?_
      refine EL.move rfl rfl rfl ?_
      refine EL.lenL rfl rfl rfl rfl rfl ?_
      refine EL.sub1 rfl rfl rfl rfl (by omega) (by omega) ?_
      (refine EL.rew (d := 86) (v' := Iv (init.length : Nat)) rfl hsub ?_; refine EL.ofRV (RV.sliceHi (hi := init.length) rfl rfl rfl rfl rfl (by omega)) rfl rfl rfl (by intro c h; cases h) ?_)
      (refine EL.imp (H' := HA.row (.slice (some ⟨sg, 0, none⟩) init.length scap) 203 3 init.length (brsC init) :: SB10 gs s st2 sp1 z1.length cap1 gm :: HA.memo gm 3 es2 :: PRow sp1 cap1 z1 :: HA.pack pool2 :: R) (fun w hs => hcutS w (hs.ent (.i (by repeat constructor)))) ?_; refine EL.assign rfl rfl rfl ?_)
      refine .gr ?_; repeat constructor
      exact PX.loop init ⟨(pop_dead rfl).symm.trans hp1, fun y hy => hp2 y (List.mem_append_left _ hy), by omega⟩ (by omega) ⟨rfl, rfl, trivial⟩ (.i (by repeat constructor))
    obtain ⟨e, el, rfl⟩ : ∃ e el, tends = e :: el := by
      cases tends with
      | nil => exact absurd rfl hE0
      | cons e el => exact ⟨e, el, rfl⟩
    rw [← hp1, pop_top (by simp)] at hgo
    dsimp only [List.headD_cons, List.tail_cons] at hgo
    cases hfo : followB tts e tspans with
    | none => rw [hfo] at hgo; cases hgo
    | some nz =>
    obtain ⟨now2, z2⟩ := nz
    rw [hfo] at hgo
    dsimp only at hgo
    have hts := htp.chain
    have hte := htp.ends
    have htec : el.length + 1 ≤ tec := htp.ecap
    have htsp : PRow tsa tsc tspans ∈ pool2 := htp.spans
    have htsl : tspans.length = z.length := htp.small
    have htk := htp.kle
    dsimp only at hts hte htk
    obtain ⟨lg, lo, rfl, hE⟩ := hte (by simp)
    have htl := ends_rest hte htec
    generalize hX : (if tec = 1 then some ⟨lg, lo, none⟩ else (some (⟨lg, lo, none⟩ : Addr)).map (·.add (1 * 1))) = tad at htl
    have hfol := fun ap cp => follow_ch gs gm s st2 ap cp tspans z2 pool2 e tts now2 w0 B tpp hts htk hfo
    have hset : ∀ (x : HBr), x = ⟨tpp, some ⟨lg, lo, none⟩, tec, tsa, tsc, ⟨tts, e :: el, tspans⟩⟩ → (brsC (init ++ [x])).set (0 + init.length * 3 + 1) (.slice tad el.length (tec - 1)) = brsC (init ++ [⟨tpp, tad, tec - 1, tsa, tsc, ⟨tts, el, tspans⟩⟩]) := fun x hx => brs_set init x _ _ (by rw [hx]; rfl)
    have hbl := brs_len (init ++ [(⟨tpp, some ⟨lg, lo, none⟩, tec, tsa, tsc, ⟨tts, e :: el, tspans⟩⟩ : HBr)])
    have hcell2 := fun j v (h : (HBr.cells ⟨tpp, tad, tec - 1, tsa, tsc, ⟨tts, el, tspans⟩⟩)[j]? = some v) => (brs_top init ⟨tpp, tad, tec - 1, tsa, tsc, ⟨tts, el, tspans⟩⟩ j).trans h
    refine .gr ?_; repeat constructor
    refine EL.move rfl rfl rfl ?_
    refine EL.nilCheck rfl rfl rfl ?_
    refine EL.fieldAddr rfl rfl rfl rfl rfl rfl rfl rfl ?_
    refine EL.loadR rfl rfl rfl rfl rfl (by repeat constructor) (hcell 1 _ rfl) ?_
    refine EL.indexAddrL (i := 0) rfl rfl rfl rfl rfl rfl rfl (Nat.zero_lt_succ _) ?_
    refine EL.ofRV (RV.loadEnds (q := 0) rfl rfl rfl (by repeat constructor) (by repeat constructor) hE rfl) rfl rfl rfl (by intro c h; cases h) ?_
    refine EL.assign rfl rfl rfl ?_
    refine .gr ?_; repeat constructor
    refine .gr ?_; repeat constructor
    refine EL.move rfl rfl rfl ?_
    refine EL.move rfl rfl rfl ?_
    refine EL.nilCheck rfl rfl rfl ?_
    refine EL.fieldAddr rfl rfl rfl rfl rfl rfl rfl rfl ?_
    refine EL.loadR rfl rfl rfl rfl rfl (by repeat constructor) (hcell 1 _ rfl) ?_
    refine EL.ofRV (RV.sliceLoG' (lo := 1) hX rfl rfl rfl rfl rfl (Nat.succ_le_succ (Nat.zero_le _)) htec) rfl rfl rfl (by intro c h; cases h) ?_
    refine EL.nilCheck rfl rfl rfl ?_
    refine EL.fieldAddr rfl rfl rfl rfl rfl rfl rfl rfl ?_
    (refine EL.storeR rfl rfl rfl rfl rfl rfl (by repeat constructor) (by rw [hbl, hln]; show 0 + init.length * 3 + 1 < _; omega) ?_; refine EL.rowEq (v := .slice (some ⟨sg, 0, none⟩) (init ++ [(⟨tpp, some ⟨lg, lo, none⟩, tec, tsa, tsc, ⟨tts, e :: el, tspans⟩⟩ : HBr)]).length scap) (by repeat constructor) (hset _ rfl) ?_)
    refine .gr ?_; repeat constructor
    refine .gr ?_; repeat constructor
    refine EL.move rfl rfl rfl ?_
    refine EL.move rfl rfl rfl ?_
    refine EL.nilCheck rfl rfl rfl ?_
    refine EL.fieldAddr rfl rfl rfl rfl rfl rfl rfl rfl ?_
    refine EL.loadR rfl rfl rfl rfl rfl (by repeat constructor) (hcell2 2 _ rfl) ?_
    (refine EL.copyNil rfl rfl rfl rfl rfl rfl rfl rfl rfl (fun w hs => pool_rd hs (by repeat constructor) htsp) (spsC_len tspans) (spsC_one tspans) (show tspans.length ≤ maxLen by unfold maxLen; omega) (Nat.le_trans (Nat.mul_le_mul_right _ (show tspans.length ≤ 100 by omega)) (by decide)) ?_; intro ap cp)
    refine EL.nilCheck rfl rfl rfl ?_
    refine EL.fieldAddr rfl rfl rfl rfl rfl rfl rfl rfl ?_
    (apply EL.storeB; exact rfl; exact rfl; exact rfl; exact rfl; exact rfl; exact rfl; (case p => repeat constructor); exact (by first | decide | exact Nat.le_of_ble_eq_true rfl | simp))
    refine .gr ?_; repeat constructor
    refine .gr ?_; repeat constructor
    refine EL.move rfl rfl rfl ?_
    refine EL.move rfl rfl rfl ?_
    refine EL.nilCheck rfl rfl rfl ?_
    refine EL.fieldAddr rfl rfl rfl rfl rfl rfl rfl rfl ?_
    refine EL.loadR rfl rfl rfl rfl rfl (by repeat constructor) (hcell2 0 _ rfl) ?_
    refine EL.move rfl rfl rfl ?_
    (refine EL.callMw rfl rfl rfl ent96 rfl (hfol ap cp) (by repeat constructor) ?_; rintro ⟨pool4, np, u1, u2⟩)
    refine EL.assign rfl rfl rfl ?_
    refine .gr ?_; repeat constructor
    dsimp only
    have hln2 : (init ++ [(⟨tpp, tad, tec - 1, tsa, tsc, ⟨tts, el, tspans⟩⟩ : HBr)]).length = init.length + 1 := by simp
    have hll : init.length + 1 ≤ stk.length := by omega
    exact PX.loop ⟨f, now2, init ++ [⟨tpp, tad, tec - 1, tsa, tsc, ⟨tts, el, tspans⟩⟩], z2, np, ap, cp, es2, st2, pool4, some ⟨sg, 0, none⟩, scap⟩ ⟨by dsimp only; rw [stk_rev]; exact hgo, y3, u2, fun y hy => by
        rcases List.mem_append.1 hy with hy | hy
        · exact (hstk2 y (hp2 y (List.mem_append_left _ hy))).mono (fun _ h => h) u1
        · rw [List.mem_singleton] at hy
          subst hy
          exact ⟨hts.mono u1, htl.mono (fun _ h => h) u1, by show el.length ≤ tec - 1; omega, u1 _ htsp, htsl, htk⟩, by dsimp only; omega, by dsimp only; rw [follow_len hfo]; exact htsl, by dsimp only; rw [hln2]; omega⟩ (Nat.lt_succ_self _)
      ⟨rfl, getA rfl (congrArg (fun n => Value.slice (some ⟨sg, 0, none⟩) n scap) (hln.trans hln2.symm)), rfl, trivial⟩ (by dsimp only; rw [hln2, ← hln]; exact (.i (by repeat constructor)))
end Go.Proofs.Ytblpgpgbnlhjlaa
namespace Go.Proofs.Ytblpgpgbnlhjlaa
open Go Go.RowKit Sl
set_option maxRecDepth 100000
set_option maxHeartbeats 8000000
set_option linter.unusedVariables false
set_option linter.unusedSimpArgs false
attribute [local irreducible] ES EL PX wps
structure FrS where
  m : Nat
  q : Nat
  es : List ME
  st : Nat
  sp : Option Addr
  cap : Nat
  z : List Spn
structure FrX (w0 : World) (B : Nat) (s : List UInt8) (res : Option (List Spn)) (q top : Nat) where
  es' : List ME
  st' : Nat
  sp : Option Addr
  cap : Nat
  z : List Spn
  ok : MemB w0 B s es'
  le : st' + q * (2 * floodC) ≤ top
  eq : ∀ y, res = some y → z = y
theorem from10_c (gs gm : Nat) (s : List UInt8) (hs : s.length ≤ 1024) (st F g q : Nat) (hg : g ≤ 9) (hq : q ≤ 16384) (top : Nat) (htop : top ≤ 576460752303423488) (hst : st + (q + 1) * (2 * floodC) ≤ top) (sp : Option Addr) (cap : Nat) (z : List Spn) (es : List ME) (r : RE) (i : Nat) (hi : i ≤ s.length) (w0 : World) (B gr off : Nat) (hn : NodeRd w0 B gr off r) (hf : r.fine) (hok : MemB w0 B s es)
    (ga : Nat) (x : AX (makeM [r]).1) (hcost : costL [r] + 1 ≤ 131072) (res : Option (List Spn)) (q' : Nat) (hfrom : fromB s F r g i (endsM (makeM [r]) s i 0).marks (s.length + 1 - i) q = some (res, q')) :
    MutAt Try.prog 46 #[Pv gs 0, Pv gr off, Pv ga 0, Iv (g : Nat), Iv (i : Nat)] [SB10 gs s st sp z.length cap gm, HA.memo gm 3 es, PRow sp cap z, AP ga x.1 (makeM [r]).2] (fun _ : FrX w0 B s res q' top => .bool res.isSome)
      (fun y => [SB10 gs s y.st' y.sp y.z.length y.cap gm, HA.memo gm 3 y.es', PRow y.sp y.cap y.z, AP ga x.1 (makeM [r]).2]) w0 B := by
  intro R w h
  replace h : Sat w0 B (SB10 gs s st sp z.length cap gm :: HA.memo gm 3 es :: PRow sp cap z :: AP ga x.1 (makeM [r]).2 :: R) w := h
  obtain ⟨hr, he⟩ := make_room [r] hcost
  rw [Nat.succ_mul] at hst
  have hec := ends_c gs s hs st (by omega) [.slice sp z.length cap, .map (some gm)] 109 ga (makeM [r]) x hr he i hi
  have hml : (endsM (makeM [r]) s i st).marks.length = s.length + 1 := flood_len hr.eo s (by show 0 < _; omega) hi _ _ _
  have hel : (endsM (makeM [r]) s i st).steps ≤ st + 17609365913600 := endsM_le hr hs i st
  rw [← endsM_st (makeM [r]) s i st] at hfrom
  generalize endsM (makeM [r]) s i st = FE at hfrom hec hml hel
  have hfc : floodC = 17609365913600 := rfl
  refine calls_of_ES TB Try.func46 rfl _ Try.ntmps46 rfl h ?_
  refine .gr ?_; repeat constructor
  refine EL.assign rfl rfl rfl ?_
  refine .gr ?_; repeat constructor
  refine EL.move rfl rfl rfl ?_
  refine EL.nilCheck rfl rfl rfl ?_
  refine EL.fieldAddr rfl rfl rfl rfl rfl rfl rfl rfl ?_
  refine EL.move rfl rfl rfl ?_
  refine EL.move rfl rfl rfl ?_
  (refine EL.callM rfl rfl rfl ent64 rfl hec (by repeat constructor) ?_; intro ge)
  refine EL.assign rfl rfl rfl ?_
  refine .gr ?_; repeat constructor
  refine EL.move rfl rfl rfl ?_
  refine EL.nilCheck rfl rfl rfl ?_
  refine EL.fieldAddr rfl rfl rfl rfl rfl rfl rfl rfl ?_
  refine EL.fieldAddr rfl rfl rfl rfl rfl rfl rfl rfl ?_
  (apply EL.loadB; exact rfl; exact rfl; exact rfl; exact rfl; exact rfl; (case hm => repeat constructor); exact rfl)
  refine EL.lenS rfl rfl rfl rfl rfl ?_
  refine EL.assign rfl rfl rfl ?_
  refine .gr ?_; repeat constructor
  refine ES.loop (σ := FrS) (fun y => y.m ≤ s.length + 1 - i ∧ y.q ≤ 16384 ∧ fromB s F r g i FE.marks y.m y.q = some (res, q') ∧ MemB w0 B s y.es ∧ y.st + y.q * (2 * floodC) ≤ top) (fun y => [(0, Pv gs 0), (1, Pv gr off), (3, Iv (g : Nat)), (4, Iv (i : Nat)), (11, .slice (some ⟨ge, 0, none⟩) (s.length + 1) (s.length + 1)), (12, Iv ((i : Int) + (y.m : Int) - 1))])
    (fun y => SB10 gs s y.st y.sp y.z.length y.cap gm :: HA.memo gm 3 y.es :: PRow y.sp y.cap y.z :: BR ge (s.length + 1) FE.marks :: AP ga x.1 (makeM [r]).2 :: R) (fun y => y.m) ⟨s.length + 1 - i, q, es, FE.steps, sp, cap, z⟩ ⟨Nat.le_refl _, hq, hfrom, hok, by dsimp only; omega⟩ ⟨rfl, rfl, rfl, rfl, rfl, getA rfl (congrArg Iv (by dsimp only; omega)), trivial⟩ (.i (by repeat constructor)) ?_
  rintro ⟨m, q1, es1, st1, sp1, cap1, z1⟩ ⟨hm, hq1, hgo, hmem, hst1⟩
  dsimp only at hm hq1 hgo hmem hst1 ⊢
  refine .gr ?_; repeat constructor
  refine EL.move rfl rfl rfl ?_
  refine EL.move rfl rfl rfl ?_
  refine EL.geq rfl rfl rfl rfl ?_
  refine .gr ?_; repeat constructor
  refine ES.condD rfl (fun hge => ?_) (fun hlt => ?_)
  rotate_left
  · obtain rfl : m = 0 := by omega
    rw [fromB] at hgo
    cases hgo
    refine .gr ?_; repeat constructor
    refine .gr ?_; repeat constructor
    refine EL.assign rfl rfl rfl ?_
    refine .gr ?_; repeat constructor
    exact PX.ret rfl Try.results46 (.cons (.tmp rfl) .nil) (fun w hs => ⟨⟨es1, st1, sp1, cap1, z1, hmem, hst1, fun y hy => by cases hy⟩, rfl, hs.ent (.i (by repeat constructor))⟩)
  obtain ⟨m, rfl⟩ : ∃ m', m = m' + 1 := ⟨m - 1, by omega⟩
  have ej : (i : Int) + ((m + 1 : Nat) : Int) - 1 = ((i + m : Nat) : Int) := by omega
  rw [ej]
  rw [fromB] at hgo
  have hback : (((i + m : Nat) : Int) - 1) = (i : Int) + (m : Int) - 1 := by omega
  refine .gr ?_; repeat constructor
  refine EL.move rfl rfl rfl ?_
  refine EL.move rfl rfl rfl ?_
  refine EL.indexAddrL1 rfl rfl rfl rfl rfl rfl rfl rfl (by omega) ?_
  refine EL.ofRV (RV.loadRm (l := FE.marks) Value.bool false rfl rfl rfl (by repeat constructor) (by rw [hml]; omega)) rfl rfl rfl (by intro c h; cases h) ?_
  refine EL.not rfl rfl rfl ?_
  refine .gr ?_; repeat constructor
  refine ES.cond rfl (fun hf0 => ?_) (fun hf0 => ?_)
  · rw [Bool.not_eq_true'] at hf0
    rw [if_neg (by rw [hf0]; simp)] at hgo
    refine .gr ?_; repeat constructor
    refine .gr ?_; repeat constructor
    refine EL.move rfl rfl rfl ?_
    refine EL.sub_ ((i : Int) + (m : Int) - 1) rfl rfl rfl rfl ((wrap_i64 _ (by omega) (by omega)).trans (by omega)) ?_
    refine EL.assign rfl rfl rfl ?_
    refine .gr ?_; repeat constructor
    exact PX.loop ⟨m, q1, es1, st1, sp1, cap1, z1⟩ ⟨by dsimp only; omega, hq1, hgo, hmem, hst1⟩ (by dsimp only; omega) ⟨rfl, rfl, rfl, rfl, rfl, rfl, trivial⟩ (.i (by repeat constructor))
  rw [Bool.not_eq_false'] at hf0
  rw [if_pos hf0] at hgo
  split at hgo
  · cases hgo
  rename_i hqF
  obtain ⟨q2, rfl⟩ : ∃ q2, q1 = q2 + F := ⟨q1 - F, by omega⟩
  rw [Nat.add_mul] at hst1
  rw [Nat.add_sub_cancel] at hgo
  cases hrun : runB s F [⟨r, 0, i, i + m⟩] [] (List.replicate (g + 1) (-1, -1)) with
  | none => rw [hrun] at hgo; cases hgo
  | some rs =>
  rw [hrun] at hgo
  have hlR : (List.replicate (g + 1) ((-1, -1) : Spn)).length = g + 1 := List.length_replicate
  refine .gr ?_; repeat constructor
  refine EL.move rfl rfl rfl ?_
  refine EL.nilCheck rfl rfl rfl ?_
  refine EL.fieldAddr rfl rfl rfl rfl rfl rfl rfl rfl ?_
  (apply EL.storeB; exact rfl; exact rfl; exact rfl; exact rfl; exact rfl; exact rfl; (case p => repeat constructor); exact (by first | decide | exact Nat.le_of_ble_eq_true rfl | simp))
  refine .gr ?_; repeat constructor
  refine EL.move rfl rfl rfl ?_
  refine EL.add1 rfl rfl rfl rfl (by omega) ?_
  refine EL.move rfl rfl rfl ?_
  refine .gr ?_; repeat constructor
  refine ES.nilRow 33 2 ?_
  have hsR : ∀ n, spsC (List.replicate n (-1, -1) ++ [(-1, -1)]) = spsC (List.replicate (n + 1) (-1, -1)) := fun n => by rw [List.replicate_succ']
  refine ES.loop (σ := SpSt) (fun y => y.i ≤ g + 1) (fun y => [(0, Pv gs 0), (1, Pv gr off), (3, Iv (g : Nat)), (4, Iv (i : Nat)), (11, .slice (some ⟨ge, 0, none⟩) (s.length + 1) (s.length + 1)), (12, Iv ((i + m : Nat) : Int)), (39, Iv ((g + 1 : Nat) : Int)), (40, Iv (y.i : Nat))])
    (fun y => SB10 gs s st1 y.ad y.i y.cap gm :: HA.row (.slice y.ad y.i y.cap) 33 2 y.i (spsC (List.replicate y.i (-1, -1))) :: HA.memo gm 3 es1 :: BR ge (s.length + 1) FE.marks :: AP ga x.1 (makeM [r]).2 :: R) (fun y => g + 1 - y.i) ⟨0, none, 0⟩ (Nat.zero_le _) ⟨rfl, rfl, rfl, rfl, rfl, rfl, rfl, rfl, trivial⟩ (.i (by repeat constructor)) ?_
  rintro ⟨n, nad, ncap⟩ hn1
  dsimp only at hn1 ⊢
  refine .gr ?_; repeat constructor
  refine EL.lss rfl rfl rfl rfl ?_
  refine .gr ?_; repeat constructor
  refine ES.condD rfl (fun hlt => ?_) (fun hge2 => ?_)
  · refine .gr ?_; repeat constructor
    refine EL.move rfl rfl rfl ?_
    refine EL.move rfl rfl rfl ?_
    refine EL.nilCheck rfl rfl rfl ?_
    refine EL.fieldAddr rfl rfl rfl rfl rfl rfl rfl rfl ?_
    (apply EL.loadB; exact rfl; exact rfl; exact rfl; exact rfl; exact rfl; (case hm => repeat constructor); exact rfl)
    refine EL.buildS #[Iv (-1), Iv (-1)] rfl rfl rfl rfl rfl (by kernel_rfl) rfl ?_
    (refine EL.buildSlice1 rfl rfl rfl rfl rfl rfl rfl rfl rfl rfl ?_; intro b48)
    (refine EL.append1 rfl rfl rfl rfl rfl rfl rfl rfl rfl (by repeat constructor) (by repeat constructor) (by first | (intro u hu; simp [Value.cells] at hu; subst hu; rfl) | exact all1 rfl) (by rfl) (by unfold maxLen; omega) (by first | omega | (show 1 * _ ≤ _; omega) | (show 8 * _ ≤ _; omega) | (show 16 * _ ≤ _; omega) | (show 24 * _ ≤ _; omega) | (show _ * 1 ≤ _; omega) | (show _ * 8 ≤ _; omega) | (show _ * 16 ≤ _; omega) | (show _ * 24 ≤ _; omega) | exact Nat.le_trans (Nat.mul_le_mul_right _ (show _ ≤ 1073741824 by omega)) (by decide)) ?_; intro a49 c49)
    refine EL.nilCheck rfl rfl rfl ?_
    refine EL.fieldAddr rfl rfl rfl rfl rfl rfl rfl rfl ?_
    (apply EL.storeB; exact rfl; exact rfl; exact rfl; exact rfl; exact rfl; exact rfl; (case p => repeat constructor); exact (by first | decide | exact Nat.le_of_ble_eq_true rfl | simp))
    refine .gr ?_; repeat constructor
    refine EL.add1 rfl rfl rfl rfl (by omega) ?_
    refine EL.move rfl rfl rfl ?_
    refine .gr ?_; repeat constructor
    exact PX.loop ⟨n + 1, some ⟨a49, 0, none⟩, c49⟩ (by dsimp only; omega) (by dsimp only; omega) ⟨rfl, rfl, rfl, rfl, rfl, rfl, rfl, rfl, trivial⟩ (by dsimp only; rw [← hsR n, spsC_app]; exact (.i (by repeat constructor)))
  obtain rfl : n = g + 1 := by omega
  have hrc := run10_c gs gm s hs st1 F (by omega) (Nat.le_trans (Nat.le_trans (Nat.add_le_add_left (Nat.le_add_left _ _) _) hst1) htop) nad ncap (List.replicate (g + 1) (-1, -1)) (by rw [hlR]; omega) es1 r i (i + m) w0 B gr off hn hf hmem rs hrun
  refine ES.imp (H' := SB10 gs s st1 nad (List.replicate (g + 1) ((-1, -1) : Spn)).length ncap gm :: HA.memo gm 3 es1 :: PRow nad ncap (List.replicate (g + 1) (-1, -1)) :: BR ge (s.length + 1) FE.marks :: AP ga x.1 (makeM [r]).2 :: R) (fun w hs => by
    unfold SB10 PRow
    rw [hlR]
    exact hs.ent (.i (by repeat constructor))) ?_
  refine .gr ?_; repeat constructor
  refine EL.move rfl rfl rfl ?_
  refine EL.move rfl rfl rfl ?_
  refine EL.move rfl rfl rfl ?_
  refine EL.move rfl rfl rfl ?_
  (refine EL.callMw rfl rfl rfl ent69 rfl hrc (by repeat constructor) ?_; rintro ⟨es2, st2, sp2, cap2, z2, y1, y2, y3, y4⟩)
  refine .gr ?_; repeat constructor
  cases rs with
  | none =>
    dsimp only at hgo ⊢
    refine ES.condF rfl ?_
    refine .gr ?_; repeat constructor
    refine .gr ?_; repeat constructor
    refine EL.move rfl rfl rfl ?_
    refine EL.sub_ ((i : Int) + (m : Int) - 1) rfl rfl rfl rfl ((wrap_i64 _ (by omega) (by omega)).trans (by omega)) ?_
    refine EL.assign rfl rfl rfl ?_
    refine .gr ?_; repeat constructor
    exact PX.loop ⟨m, q2, es2, st2, sp2, cap2, z2⟩ ⟨by dsimp only; omega, by dsimp only; omega, hgo, y1, by dsimp only; omega⟩ (by dsimp only; omega) ⟨rfl, rfl, rfl, rfl, rfl, rfl, trivial⟩ (.i (by repeat constructor))
  | some zf =>
    obtain rfl : z2 = zf := y4 zf rfl
    dsimp only at hgo ⊢
    refine ES.condT rfl ?_
    split at hgo
    rotate_left
    · cases hgo
    rename_i hzl
    cases hgo
    have hsl := spsC_len z2
    have hput := spsC_set z2 0 hzl ((i : Int), ((i + m : Nat) : Int))
    refine ES.know (P := ∃ g, sp2 = some ⟨g, 0, none⟩) (fun w hs => (row_form (hs.all (PRow sp2 cap2 z2) (by simp))).2.2.2.2 (by omega)) ?_
    rintro ⟨spg, rfl⟩
    refine .gr ?_; repeat constructor
    refine EL.move rfl rfl rfl ?_
    refine EL.nilCheck rfl rfl rfl ?_
    refine EL.fieldAddr rfl rfl rfl rfl rfl rfl rfl rfl ?_
    (apply EL.loadB; exact rfl; exact rfl; exact rfl; exact rfl; exact rfl; (case hm => repeat constructor); exact rfl)
    refine EL.move rfl rfl rfl ?_
    refine EL.move rfl rfl rfl ?_
    refine EL.build2 rfl rfl rfl rfl rfl rfl rfl rfl rfl rfl ?_
    refine EL.indexAddrL (i := 0) rfl rfl rfl rfl rfl rfl rfl hzl ?_
    (refine EL.storeRA (vs := spC ((i : Int), ((i + m : Nat) : Int))) rfl rfl rfl rfl rfl (by repeat constructor) (by rw [hsl]; show 0 + 0 * 2 + 2 ≤ _; omega) (all1 rfl) ?_; refine EL.rowEq (v := .slice (some ⟨spg, 0, none⟩) z2.length cap2) (by repeat constructor) hput ?_)
    refine .gr ?_; repeat constructor
    refine .gr ?_; repeat constructor
    refine EL.assign rfl rfl rfl ?_
    refine .gr ?_; repeat constructor
    have hl2 : (z2.set 0 ((i : Int), ((i + m : Nat) : Int))).length = z2.length := List.length_set
    exact PX.ret rfl Try.results46 (.cons (.tmp rfl) .nil) (fun w hs => ⟨⟨es2, st2, some ⟨spg, 0, none⟩, cap2, z2.set 0 ((i : Int), ((i + m : Nat) : Int)), y1, by omega, fun y hy => Option.some.inj hy⟩, rfl, by
      unfold SB10 PRow
      dsimp only
      rw [hl2]
      exact hs.ent (.i (by repeat constructor))⟩)
end Go.Proofs.Ytblpgpgbnlhjlaa
namespace Go.Proofs.Ytblpgpgbnlhjlaa
open Go Go.RowKit Sl
set_option maxRecDepth 100000
set_option maxHeartbeats 8000000
set_option linter.unusedVariables false
set_option linter.unusedSimpArgs false
attribute [local irreducible] ES EL PX wps
theorem from_le {s : List UInt8} {F g i : Nat} {r : RE} {ends : List Bool} {x : Option (List Spn)} {q' : Nat} : ∀ (m q : Nat), fromB s F r g i ends m q = some (x, q') → q' ≤ q
  | 0, q, h => by rw [fromB] at h; cases h; exact Nat.le_refl _
  | m + 1, q, h => by
    rw [fromB] at h
    split at h
    · split at h
      · cases h
      · split at h
        · cases h
        · exact Nat.le_trans (from_le m _ h) (Nat.sub_le _ _)
        · split at h
          · cases h; exact Nat.sub_le _ _
          · cases h
    · exact from_le m q h
structure MaS where
  n : Nat
  i : Nat
  q : Nat
  es : List ME
  st : Nat
  sp : Option Addr
  cap : Nat
  z : List Spn
theorem backMatch_c (F : Nat) (t s : List UInt8) (a : Int) (m : MB10) (hm : backM F t s a = some m) (ht : t.length ≤ 4611686018427387904) (w : World) (hG : GR w w.heap.size) :
    Pure Try.prog 21 #[Sv t, Sv s, Iv a] (fun x : Option Addr × Nat => .tuple #[.slice x.1 m.spans.length x.2, .bool m.ok, Iv m.e]) (fun x => [PRow x.1 x.2 m.spans]) w := by
  have hpf := parse_fine t
  have hpc := fun w hG => parse_c t ht w hG
  have hof : ofM t = if (parseM t).e ≠ 0 then (Me.zero, (parseM t).e, (parseM t).at_) else (measM (parseM t).tree, 0, 0) := rfl
  have hmc := fun w hG => measOf_c t ht w hG
  have hwc : ∀ i : Nat, (parseM t).e = 0 → s.length ≤ 1024 → i ≤ s.length → waysM t s (i : Nat) = (countM s (parseM t).tree i, 0) := fun i h1 h2 h3 => by
    unfold waysM
    rw [if_neg (fun h => h h1), if_neg (by omega), if_neg (by omega), Int.toNat_natCast]
  have hws := fun (i : Nat) (hsl : s.length ≤ 1024) w hG => waysCount_c t s ht (Nat.le_trans hsl (by decide)) (i : Nat) w hG
  unfold backM at hm
  generalize ofM t = om at hof hmc
  generalize parseM t = p at hm hpf hpc hof hwc
  obtain ⟨tree, pe, pat⟩ := p
  dsimp only at hm hpf hpc hof hwc
  have hnil : ∀ {w0 w' : World} {B : Nat} {R : List HA}, Sat w0 B R w' → Sat w0 B [PRow none 0 []] w' := fun {w0 w' B R} h => (h.nilRow 33 2).ent (.i (by repeat constructor))
  refine calls_of_ES TB Try.func21 rfl _ Try.ntmps21 rfl (Sat.start w) ?_
  refine .go ?_; repeat constructor
  refine EL.assign rfl rfl rfl ?_
  refine EL.assign rfl rfl rfl ?_
  refine EL.assign rfl rfl rfl ?_
  refine .go ?_; repeat constructor
  refine EL.move rfl rfl rfl ?_
  (refine EL.callXw rfl rfl rfl ent40 rfl (fun w hs => hpc w (GR.sat hG hs)) ?_; intro px)
  refine EL.move rfl rfl rfl ?_
  refine EL.extract rfl rfl rfl rfl ?_
  refine EL.extract rfl rfl rfl rfl ?_
  (refine EL.alloc rfl rfl rfl ?_; intro g9)
  (refine EL.alloc rfl rfl rfl ?_; intro g10)
  (apply EL.storeAll; exact rfl; exact rfl; exact rfl; exact rfl; exact rfl; (case p => repeat constructor); exact rfl; (case h1 => exact (by first | rfl | exact all1 rfl | (intro u hu; simp only [List.mem_cons, List.not_mem_nil, or_false] at hu; rcases hu with rfl | rfl | rfl | rfl <;> rfl) | (intro u hu; simp at hu; rcases hu with rfl | rfl | rfl | rfl <;> rfl) | (intro u hu; simp at hu; rcases hu with rfl | rfl | rfl <;> rfl) | (intro u hu; simp at hu; rcases hu with rfl | rfl <;> rfl) | (intro u hu; simp at hu; obtain ⟨_, _, rfl⟩ := hu; rfl))))
  (apply EL.storeAll; exact rfl; exact rfl; exact rfl; exact rfl; exact rfl; (case p => repeat constructor); exact rfl; (case h1 => exact (by first | rfl | exact all1 rfl | (intro u hu; simp only [List.mem_cons, List.not_mem_nil, or_false] at hu; rcases hu with rfl | rfl | rfl | rfl <;> rfl) | (intro u hu; simp at hu; rcases hu with rfl | rfl | rfl | rfl <;> rfl) | (intro u hu; simp at hu; rcases hu with rfl | rfl | rfl <;> rfl) | (intro u hu; simp at hu; rcases hu with rfl | rfl <;> rfl) | (intro u hu; simp at hu; obtain ⟨_, _, rfl⟩ := hu; rfl))))
  refine .go ?_; repeat constructor
  refine .go ?_; repeat constructor
  refine EL.fieldAddr rfl rfl rfl rfl rfl rfl rfl rfl ?_
  (apply EL.loadB; exact rfl; exact rfl; exact rfl; exact rfl; exact rfl; (case hm => repeat constructor); exact rfl)
  refine EL.neqI rfl rfl rfl rfl ?_
  refine EL.assign rfl rfl rfl ?_
  refine .go ?_; repeat constructor
  refine ES.condN rfl (fun hne => ?_) (fun he => ?_)
  · rw [if_pos hne] at hm
    cases hm
    refine .g0 ?_; repeat constructor
    refine ES.draw (X := Unit) (fun _ => [(6, .slice none 0 0), (7, .bool false), (8, Iv pe)]) (fun _ => []) (HA.blk g10 (.cells #[Iv pe, Iv (pat : Nat)] 67) :: []) mixed (.i (by repeat constructor)) ?_ (fun _ => ?_)
    · refine ED.take 0 rfl (by decide +kernel) CutX.no_panic (by decide +kernel) rfl rfl rfl (RV.fieldAddr rfl rfl rfl rfl rfl rfl) ?_
      refine ED.take 1 rfl (by decide +kernel) CutX.no_panic (by decide +kernel) rfl rfl rfl (RV.loadB rfl rfl rfl (by repeat constructor) rfl) ?_
      refine ED.take 2 rfl (by decide +kernel) CutX.no_panic (by decide +kernel) rfl rfl rfl (RV.assign rfl) ?_
      refine ED.take 3 rfl (by decide +kernel) CutX.no_panic (by decide +kernel) rfl rfl rfl (RV.assign rfl) ?_
      refine ED.take 4 rfl (by decide +kernel) CutX.no_panic (by decide +kernel) rfl rfl rfl (RV.assign rfl) ?_
      refine ED.done (by decide +kernel) ?_
      exact PX.cutX () ⟨rfl, rfl, rfl, trivial⟩ (.i (by repeat constructor))
    refine .go ?_; repeat constructor
    exact PX.ret rfl Try.results21 (.cons (.tmp rfl) (.cons (.tmp rfl) (.cons (.tmp rfl) .nil))) (fun w hs => ⟨(none, 0), rfl, hnil hs⟩)
  have he' : pe = 0 := he
  rw [if_neg (fun h => h he')] at hm hof
  subst hof
  refine .go ?_; repeat constructor
  refine EL.move rfl rfl rfl ?_
  refine EL.lenS rfl rfl rfl rfl rfl ?_
  refine EL.gtr rfl rfl rfl rfl ?_
  refine EL.assign rfl rfl rfl ?_
  refine .go ?_; repeat constructor
  refine ES.condD rfl (fun hl => ?_) (fun hl => ?_)
  · rw [if_pos (by omega)] at hm
    cases hm
    refine .go ?_; repeat constructor
    refine EL.assign rfl rfl rfl ?_
    refine EL.assign rfl rfl rfl ?_
    refine EL.assign rfl rfl rfl ?_
    refine .go ?_; repeat constructor
    exact PX.ret rfl Try.results21 (.cons (.tmp rfl) (.cons (.tmp rfl) (.cons (.tmp rfl) .nil))) (fun w hs => ⟨(none, 0), rfl, hnil hs⟩)
  rw [if_neg (by omega)] at hm
  have hs2 : s.length ≤ 1024 := by omega
  refine .go ?_; repeat constructor
  refine EL.cutX (X := Unit) (fun _ => [(0, Sv t), (1, Sv s), (2, Iv a), (9, Pv g9 0), (33, .bool (decide (a < 0 ∨ (s.length : Int) < a)))])
    (fun _ => HA.blk g9 (.cells (reCells tree (.slice px.ad tree.kids.length px.cap)).toArray 82) :: HA.forest px.fp [tree] (reCells tree (.slice px.ad tree.kids.length px.cap)) :: []) ?_ (fun _ => ?_)
  · refine .go ?_; repeat constructor
    refine EL.move rfl rfl rfl ?_
    refine EL.lss rfl rfl rfl rfl ?_
    refine EL.move rfl rfl rfl ?_
    first | refine EL.splitD (d := 36) rfl (fun hp36 => ?_) (fun hp36 => ?_) | refine EL.splitN (d := 36) rfl (fun hp36 => ?_) (fun hp36 => ?_) | refine EL.splitB (d := 36) rfl (fun hp36 => ?_) (fun hp36 => ?_)
    · refine EL.pass rfl rfl rfl ?_
      refine EL.pass rfl rfl rfl ?_
      refine EL.pass rfl rfl rfl ?_
      refine EL.pass rfl rfl rfl ?_
      refine EL.pickT rfl rfl rfl rfl ?_
      refine EL.assign rfl rfl rfl ?_
      exact EL.endX () ⟨rfl, rfl, rfl, rfl, getA rfl (congrArg Value.bool (by rw [Bool.eq_iff_iff]; simp only [decide_eq_true_eq, true_iff]; omega)), trivial⟩ (.i (by repeat constructor))
    · refine EL.move rfl rfl rfl ?_
      refine EL.move rfl rfl rfl ?_
      refine EL.lenS rfl rfl rfl rfl rfl ?_
      refine EL.gtr rfl rfl rfl rfl ?_
      refine EL.pickF rfl rfl rfl rfl ?_
      refine EL.assign rfl rfl rfl ?_
      exact EL.endX () ⟨rfl, rfl, rfl, rfl, getA rfl (congrArg Value.bool (by rw [Bool.eq_iff_iff]; simp only [decide_eq_true_eq, true_iff]; omega)), trivial⟩ (.i (by repeat constructor))
  refine ES.condD rfl (fun hr => ?_) (fun hr => ?_)
  · rw [if_pos hr] at hm
    cases hm
    refine .go ?_; repeat constructor
    refine EL.assign rfl rfl rfl ?_
    refine EL.assign rfl rfl rfl ?_
    refine EL.assign rfl rfl rfl ?_
    refine .go ?_; repeat constructor
    exact PX.ret rfl Try.results21 (.cons (.tmp rfl) (.cons (.tmp rfl) (.cons (.tmp rfl) .nil))) (fun w hs => ⟨(none, 0), rfl, hnil hs⟩)
  rw [if_neg hr] at hm
  split at hm
  · cases hm
  rename_i hgr
  obtain ⟨G, hGr⟩ : ∃ G : Nat, (measM tree).grp = (G : Int) := ⟨(measM tree).grp.toNat, by omega⟩
  have hG9 : G ≤ 9 := by omega
  have hcost : costL [tree] + 1 ≤ 131072 := by omega
  rw [hGr, Int.toNat_natCast] at hm
  obtain ⟨i, rfl⟩ : ∃ i : Nat, a = (i : Int) := ⟨a.toNat, by omega⟩
  have hi : i ≤ s.length := by omega
  rw [Int.toNat_natCast] at hm
  refine .go ?_; repeat constructor
  refine EL.move rfl rfl rfl ?_
  refine EL.callPw rfl rfl rfl ent42 rfl (fun w hs => hmc w (GR.sat hG hs)) ?_
  refine EL.move rfl rfl rfl ?_
  refine EL.extract rfl rfl rfl rfl ?_
  refine EL.extract rfl rfl rfl rfl ?_
  (refine EL.alloc rfl rfl rfl ?_; intro g11)
  (refine EL.alloc rfl rfl rfl ?_; intro g12)
  (apply EL.storeAll; exact rfl; exact rfl; exact rfl; exact rfl; exact rfl; (case p => repeat constructor); exact rfl; (case h1 => exact (by first | rfl | exact all1 rfl | (intro u hu; simp only [List.mem_cons, List.not_mem_nil, or_false] at hu; rcases hu with rfl | rfl | rfl | rfl <;> rfl) | (intro u hu; simp at hu; rcases hu with rfl | rfl | rfl | rfl <;> rfl) | (intro u hu; simp at hu; rcases hu with rfl | rfl | rfl <;> rfl) | (intro u hu; simp at hu; rcases hu with rfl | rfl <;> rfl) | (intro u hu; simp at hu; obtain ⟨_, _, rfl⟩ := hu; rfl))))
  (apply EL.storeAll; exact rfl; exact rfl; exact rfl; exact rfl; exact rfl; (case p => repeat constructor); exact rfl; (case h1 => exact (by first | rfl | exact all1 rfl | (intro u hu; simp only [List.mem_cons, List.not_mem_nil, or_false] at hu; rcases hu with rfl | rfl | rfl | rfl <;> rfl) | (intro u hu; simp at hu; rcases hu with rfl | rfl | rfl | rfl <;> rfl) | (intro u hu; simp at hu; rcases hu with rfl | rfl | rfl <;> rfl) | (intro u hu; simp at hu; rcases hu with rfl | rfl <;> rfl) | (intro u hu; simp at hu; obtain ⟨_, _, rfl⟩ := hu; rfl))))
  repeat (first | apply EL.nil | apply ES.seq | apply ES.skip)
  refine ES.rebase (fun w1 hw1 => ?_)
  have hG1 : GR w1 w1.heap.size := GR.sat hG hw1
  have hn := node_of hw1 (by repeat constructor) (by repeat constructor)
  have hrd11 := rd_blk hw1 (g := g11) (cs := (measM tree).cells) (e := 93) (by repeat constructor)
  have hn' := hn
  obtain ⟨ad, kcap, cs0, q1, q2, q3, q4⟩ := hn'
  have hrd9 := q1.rd
  obtain ⟨hr1, he1⟩ := make_room [tree] hcost
  have hgc : (measM tree).cells[1]? = some (Iv (G : Nat)) := by rw [← hGr]; rfl
  refine .go ?_; repeat constructor
  refine EL.loadOldA (j := 0) (vs := reCells tree (.slice ad tree.kids.length kcap)) rfl rfl rfl rfl rfl (by simp [reCells]) rfl hrd9 (fun i u hi => by rw [Nat.zero_add]; exact hi) ?_
  (refine EL.buildSlice1 rfl rfl rfl rfl rfl rfl rfl rfl rfl rfl ?_; intro b48)
  (refine EL.callXw rfl rfl rfl ent44 rfl (fun w hs => make_c [tree] (fun k hk => by rw [List.mem_singleton] at hk; subst hk; exact hpf) (by simp) hcost (some ⟨b48, 0, none⟩) 1 w (rowRd_one q2 q3 q4 w _ (hs.ent (H' := HA.row (.slice (some ⟨b48, 0, none⟩) 1 1) 82 9 1 (reCells tree (.slice ad tree.kids.length kcap)) :: []) (.i (by repeat constructor))))) ?_; intro mk)
  refine EL.assign rfl rfl rfl ?_
  refine .go ?_; repeat constructor
  refine .go ?_; repeat constructor
  refine EL.move rfl rfl rfl ?_
  refine EL.buildS #[Sv s, Iv 0] rfl rfl rfl rfl rfl (by kernel_rfl) rfl ?_
  (refine EL.makeMap 3 rfl rfl ?_; intro gm)
  refine EL.buildS #[Sv s, Iv 0, .slice none 0 0, .map (some gm)] rfl rfl rfl rfl rfl (by kernel_rfl) rfl ?_
  (refine EL.box rfl rfl rfl ?_; intro g54)
  refine EL.assign rfl rfl rfl ?_
  refine .go ?_; repeat constructor
  refine EL.move rfl rfl rfl ?_
  refine EL.assign rfl rfl rfl ?_
  refine .go ?_; repeat constructor
  refine ES.nilRow 33 2 ?_
  have hsp : 0 + spendB * (2 * floodC) ≤ 576460752303423488 := by decide
  obtain ⟨top, htop, htop2⟩ : ∃ top, 0 + spendB * (2 * floodC) ≤ top ∧ top ≤ 576460752303423488 := ⟨_, Nat.le_refl _, hsp⟩
  have hq0 : spendB ≤ 16384 := by decide
  generalize spendB = q0 at hm htop hq0
  clear hsp
  refine ES.loop (σ := MaS) (fun y => y.n + y.i = s.length + 1 ∧ y.q ≤ 16384 ∧ matchB s F tree G y.n y.i y.q = some m ∧ MemB w1 w1.heap.size s y.es ∧ y.st + y.q * (2 * floodC) ≤ top) (fun y => [(0, Sv t), (1, Sv s), (9, Pv g9 0), (11, Pv g11 0), (13, Pv mk.1 0), (14, Pv g54 0), (15, Iv (y.i : Nat))])
    (fun y => SB10 g54 s y.st y.sp y.z.length y.cap gm :: HA.memo gm 3 y.es :: PRow y.sp y.cap y.z :: AP mk.1 mk.2.1 (makeM [tree]).2 :: []) (fun y => y.n) ⟨s.length + 1 - i, i, q0, [], 0, none, 0, []⟩ ⟨by dsimp only; omega, hq0, hm, fun m hm => by simp at hm, htop⟩ ⟨rfl, rfl, rfl, rfl, rfl, rfl, rfl, trivial⟩ (.i (by repeat constructor)) ?_
  rintro ⟨n, i, q, es, st, sp, cap, z⟩ ⟨hn1, hq1, hgo, hmem, hst⟩
  dsimp only at hn1 hq1 hgo hmem hst ⊢
  refine .go ?_; repeat constructor
  refine EL.move rfl rfl rfl ?_
  refine EL.move rfl rfl rfl ?_
  refine EL.lenS rfl rfl rfl rfl rfl ?_
  refine EL.leq rfl rfl rfl rfl ?_
  refine .go ?_; repeat constructor
  refine ES.condD rfl (fun hle => ?_) (fun hgt => ?_)
  rotate_left
  · obtain rfl : n = 0 := by omega
    rw [matchB] at hgo
    cases hgo
    refine .go ?_; repeat constructor
    refine EL.assign rfl rfl rfl ?_
    refine EL.assign rfl rfl rfl ?_
    refine EL.assign rfl rfl rfl ?_
    refine .go ?_; repeat constructor
    exact PX.ret rfl Try.results21 (.cons (.tmp rfl) (.cons (.tmp rfl) (.cons (.tmp rfl) .nil))) (fun w hs => ⟨(none, 0), rfl, hnil (hw1.join hs)⟩)
  obtain ⟨n, rfl⟩ : ∃ n', n = n' + 1 := ⟨n - 1, by omega⟩
  rw [matchB] at hgo
  have hi2 : i ≤ s.length := by omega
  have hcnt := fun w hG => hws i hs2 w hG
  rw [hwc i he' hs2 hi2] at hcnt
  have hle : countM s tree i ≤ 4097 := by rw [count_exact]; exact cap_le _
  refine .go ?_; repeat constructor
  refine EL.move rfl rfl rfl ?_
  refine EL.move rfl rfl rfl ?_
  refine EL.move rfl rfl rfl ?_
  refine EL.callPw rfl rfl rfl ent16 rfl (fun w hs => hcnt w (GR.sat hG1 hs)) ?_
  refine EL.move rfl rfl rfl ?_
  refine EL.extract rfl rfl rfl rfl ?_
  refine EL.extract rfl rfl rfl rfl ?_
  refine EL.assign rfl rfl rfl ?_
  refine EL.assign rfl rfl rfl ?_
  refine .go ?_; repeat constructor
  refine .go ?_; repeat constructor
  refine EL.move rfl rfl rfl ?_
  refine EL.gtr rfl rfl rfl rfl ?_
  refine .go ?_; repeat constructor
  refine ES.condD rfl (fun hbig => ?_) (fun hnb => ?_)
  · rw [if_pos (by omega)] at hgo
    cases hgo
    refine .go ?_; repeat constructor
    refine EL.assign rfl rfl rfl ?_
    refine EL.assign rfl rfl rfl ?_
    refine EL.assign rfl rfl rfl ?_
    refine .go ?_; repeat constructor
    exact PX.ret rfl Try.results21 (.cons (.tmp rfl) (.cons (.tmp rfl) (.cons (.tmp rfl) .nil))) (fun w hs => ⟨(none, 0), rfl, hnil (hw1.join hs)⟩)
  rw [if_neg (by omega)] at hgo
  refine .go ?_; repeat constructor
  by_cases hc0 : 0 < countM s tree i
  rotate_left
  · rw [if_neg hc0] at hgo
    refine .go ?_; repeat constructor
    refine EL.move rfl rfl rfl ?_
    refine EL.gtr rfl rfl rfl rfl ?_
    refine EL.move rfl rfl rfl ?_
    refine EL.rew (d := 73) (v' := .bool false) rfl ((by rw [decide_eq_false (by omega)])) ?_
    refine EL.pass rfl rfl rfl ?_
    refine EL.pass rfl rfl rfl ?_
    refine EL.pass rfl rfl rfl ?_
    refine EL.pass rfl rfl rfl ?_
    refine EL.pass rfl rfl rfl ?_
    refine EL.pass rfl rfl rfl ?_
    refine EL.pickF rfl rfl rfl rfl ?_
    refine .go ?_; repeat constructor
    refine ES.condF rfl ?_
    refine .go ?_; repeat constructor
    refine .go ?_; repeat constructor
    refine EL.move rfl rfl rfl ?_
    refine EL.add1 rfl rfl rfl rfl (by omega) ?_
    refine EL.assign rfl rfl rfl ?_
    refine .go ?_; repeat constructor
    exact PX.loop ⟨n, i + 1, q, es, st, sp, cap, z⟩ ⟨by dsimp only; omega, hq1, hgo, hmem, hst⟩ (by dsimp only; omega) ⟨rfl, rfl, rfl, rfl, rfl, rfl, rfl, trivial⟩ (.i (by repeat constructor))
  rw [if_pos hc0] at hgo
  split at hgo
  · cases hgo
  rename_i hq00
  obtain ⟨q, rfl⟩ : ∃ q', q = q' + 1 := ⟨q - 1, by omega⟩
  rw [Nat.add_sub_cancel] at hgo
  cases hfr : fromB s F tree G i (endsM (makeM [tree]) s i 0).marks (s.length + 1 - i) q with
  | none => rw [hfr] at hgo; cases hgo
  | some rq =>
  obtain ⟨rs, q'⟩ := rq
  rw [hfr] at hgo
  have hfc := from10_c g54 gm s hs2 st F G q hG9 (by omega) top htop2 hst sp cap z es tree i hi2 w1 w1.heap.size g9 0 hn hpf hmem mk.1 mk.2 hcost rs q' hfr
  refine .go ?_; repeat constructor
  refine EL.move rfl rfl rfl ?_
  refine EL.gtr rfl rfl rfl rfl ?_
  refine EL.move rfl rfl rfl ?_
  refine EL.rew (d := 73) (v' := .bool true) rfl ((by rw [decide_eq_true (by omega)])) ?_
  refine EL.move rfl rfl rfl ?_
  refine EL.move rfl rfl rfl ?_
  refine EL.fieldAddr rfl rfl rfl rfl rfl rfl rfl rfl ?_
  refine EL.loadOld (j := 1) rfl rfl rfl rfl rfl hrd11 hgc ?_
  refine EL.move rfl rfl rfl ?_
  (refine EL.callMw rfl rfl rfl ent46 rfl hfc (by repeat constructor) ?_; rintro ⟨es2, st2, sp2, cap2, z2, y1, y2, y3⟩)
  refine EL.pickT rfl rfl rfl rfl ?_
  refine .go ?_; repeat constructor
  cases rs with
  | none =>
    dsimp only at hgo ⊢
    refine ES.condF rfl ?_
    refine .go ?_; repeat constructor
    refine .go ?_; repeat constructor
    refine EL.move rfl rfl rfl ?_
    refine EL.add1 rfl rfl rfl rfl (by omega) ?_
    refine EL.assign rfl rfl rfl ?_
    refine .go ?_; repeat constructor
    exact PX.loop ⟨n, i + 1, q', es2, st2, sp2, cap2, z2⟩ ⟨by dsimp only; omega, by have := from_le _ _ hfr; dsimp only; omega, hgo, y1, y2⟩ (by dsimp only; omega) ⟨rfl, rfl, rfl, rfl, rfl, rfl, rfl, trivial⟩ (.i (by repeat constructor))
  | some zf =>
    obtain rfl : z2 = zf := y3 zf rfl
    dsimp only at hgo ⊢
    cases hgo
    refine ES.condT rfl ?_
    refine .go ?_; repeat constructor
    refine EL.move rfl rfl rfl ?_
    refine EL.nilCheck rfl rfl rfl ?_
    refine EL.fieldAddr rfl rfl rfl rfl rfl rfl rfl rfl ?_
    (apply EL.loadB; exact rfl; exact rfl; exact rfl; exact rfl; exact rfl; (case hm => repeat constructor); exact rfl)
    refine EL.assign rfl rfl rfl ?_
    refine EL.assign rfl rfl rfl ?_
    refine EL.assign rfl rfl rfl ?_
    refine .go ?_; repeat constructor
    exact PX.ret rfl Try.results21 (.cons (.tmp rfl) (.cons (.tmp rfl) (.cons (.tmp rfl) .nil))) (fun w hs => ⟨(sp2, cap2), rfl, (hw1.join hs).ent (.i (by repeat constructor))⟩)
end Go.Proofs.Ytblpgpgbnlhjlaa
namespace Go.Proofs.Ytblpgpgbnlhjlaa
open Go Go.RowKit Sl
set_option maxRecDepth 100000
set_option maxHeartbeats 8000000
set_option linter.unusedVariables false
set_option linter.unusedSimpArgs false
attribute [local irreducible] ES EL PX wps
section
variable {C : Cx} {E : Env} {H : List HA} {d ty : Nat} {pos : String} {af : Array Edge} {gd : Option (Nat × Bool)} {x y : Operand}
end
theorem spsR_get : ∀ (l : List Spn) (i : Nat) (r : Spn), l[i]? = some r → ∀ j u, (spC r)[j]? = some u → (spsC l)[i * 2 + j]? = some u
  | [], i, r, h, _, _, _ => by simp at h
  | r' :: l, 0, r, h, j, u, hj => by
    simp only [List.getElem?_cons_zero, Option.some.injEq] at h
    subst h
    have hlt := (List.getElem?_eq_some_iff.1 hj).1
    rw [Nat.zero_mul, Nat.zero_add]
    show (spC r' ++ spsC l)[j]? = some u
    rw [List.getElem?_append_left hlt]; exact hj
  | r' :: l, i + 1, r, h, j, u, hj => by
    simp only [List.getElem?_cons_succ] at h
    have ih := spsR_get l i r h j u hj
    have hl : (spC r').length = 2 := rfl
    show (spC r' ++ spsC l)[(i + 1) * 2 + j]? = some u
    rw [List.getElem?_append_right (by omega), show (i + 1) * 2 + j - (spC r').length = i * 2 + j by omega]
    exact ih
theorem same08_r (xs : List Spn) (ad1 ad2 : Option Addr) (cap1 cap2 : Nat) (hlen : xs.length ≤ 4611686018427387904) (w : World) (h1 : Rd w w.heap.size ad1 (spsC xs)) (h2 : Rd w w.heap.size ad2 (spsC xs)) :
    Pure Try.prog 19 #[.slice ad1 xs.length cap1, .slice ad2 xs.length cap2] (fun _ : Unit => .bool true) (fun _ => []) w := by
  have hl := spsC_len xs
  refine calls_of_ES TB Try.func19 rfl _ Try.ntmps19 rfl (Sat.start w) ?_
  refine .go ?_; repeat constructor
  refine EL.assign rfl rfl rfl ?_
  refine .go ?_; repeat constructor
  refine EL.move rfl rfl rfl ?_
  refine EL.lenL rfl rfl rfl rfl rfl ?_
  refine EL.move rfl rfl rfl ?_
  refine EL.lenL rfl rfl rfl rfl rfl ?_
  refine EL.neqI rfl rfl rfl rfl ?_
  refine .go ?_; repeat constructor
  refine ES.condN rfl (fun h => absurd rfl h) (fun _ => ?_)
  refine .go ?_; repeat constructor
  refine EL.assign rfl rfl rfl ?_
  refine .go ?_; repeat constructor
  refine ES.loop (σ := Nat) (fun i => i ≤ xs.length) (fun i => [(0, .slice ad1 xs.length cap1), (1, .slice ad2 xs.length cap2), (5, Iv (i : Nat))]) (fun _ => []) (fun i => xs.length - i) 0 (Nat.zero_le _) ⟨rfl, rfl, rfl, trivial⟩ (.i (by repeat constructor)) ?_
  intro i hi
  refine .go ?_; repeat constructor
  refine EL.move rfl rfl rfl ?_
  refine EL.move rfl rfl rfl ?_
  refine EL.lenL rfl rfl rfl rfl rfl ?_
  refine EL.lss rfl rfl rfl rfl ?_
  refine .go ?_; repeat constructor
  refine ES.condD rfl (fun hlt => ?_) (fun hge => ?_)
  · have hlt' : i < xs.length := by omega
    obtain ⟨p, hp⟩ : ∃ p, xs[i]? = some p := ⟨_, List.getElem?_eq_getElem hlt'⟩
    have hne : spsC xs ≠ [] := fun e => by rw [e] at hl; simp at hl; omega
    obtain ⟨g1, o1, rfl, _⟩ := h1 hne
    obtain ⟨g2, o2, rfl, _⟩ := h2 hne
    refine .g0 ?_; repeat constructor
    refine ES.draw (X := Unit) (fun _ => [(0, .slice (some ⟨g1, o1, none⟩) xs.length cap1), (1, .slice (some ⟨g2, o2, none⟩) xs.length cap2), (5, Iv (i : Nat)), (25, .bool false)]) (fun _ => []) [] mixed (.i (by repeat constructor)) ?_ (fun _ => ?_)
    · refine ED.take 0 rfl (by decide +kernel) CutX.no_panic (by decide +kernel) rfl rfl rfl (RV.move rfl) ?_
      refine ED.take 1 rfl (by decide +kernel) CutX.no_panic (by decide +kernel) rfl rfl rfl (RV.move rfl) ?_
      refine ED.take 2 rfl (by decide +kernel) CutX.no_panic (by decide +kernel) rfl rfl rfl (RV.indexAddrL rfl rfl rfl rfl rfl (by omega)) ?_
      refine ED.take 3 rfl (by decide +kernel) CutX.no_panic (by decide +kernel) rfl rfl rfl (RV.loadOldA (j := i * 2) (vs := spC p) rfl rfl rfl rfl (by simp [spC]) h1 (spsR_get xs i p hp)) ?_
      refine ED.take 4 rfl (by decide +kernel) CutX.no_panic (by decide +kernel) rfl rfl rfl (RV.move rfl) ?_
      refine ED.take 5 rfl (by decide +kernel) CutX.no_panic (by decide +kernel) rfl rfl rfl (RV.move rfl) ?_
      refine ED.take 6 rfl (by decide +kernel) CutX.no_panic (by decide +kernel) rfl rfl rfl (RV.indexAddrL rfl rfl rfl rfl rfl (by omega)) ?_
      refine ED.take 7 rfl (by decide +kernel) CutX.no_panic (by decide +kernel) rfl rfl rfl (RV.loadOldA (j := i * 2) (vs := spC p) rfl rfl rfl rfl (by simp [spC]) h2 (spsR_get xs i p hp)) ?_
      refine ED.take 8 rfl (by decide +kernel) CutX.no_panic (by decide +kernel) rfl rfl rfl (RV.neqAgg (b := true) rfl rfl eqg33 (fun w => (run_equal_st2 TB rfl rfl sth33 rfl rfl rfl rfl rfl rfl rfl rfl p.1 p.2 p.1 p.2 w).trans (by simp))) ?_
      refine ED.done (by decide +kernel) ?_
      exact PX.cutX () ⟨rfl, rfl, rfl, rfl, trivial⟩ (.i (by repeat constructor))
    refine ES.condF rfl ?_
    refine .go ?_; repeat constructor
    refine EL.move rfl rfl rfl ?_
    refine EL.add1 rfl rfl rfl rfl (by omega) ?_
    refine EL.assign rfl rfl rfl ?_
    refine .go ?_; repeat constructor
    exact PX.loop (i + 1) (by omega) (by omega) ⟨rfl, rfl, rfl, trivial⟩ (.i (by repeat constructor))
  refine .go ?_; repeat constructor
  refine EL.assign rfl rfl rfl ?_
  refine .go ?_; repeat constructor
  exact PX.ret rfl Try.results19 (.cons (.tmp rfl) .nil) (fun w hs => ⟨(), rfl, hs.ent (.i (by repeat constructor))⟩)
end Go.Proofs.Ytblpgpgbnlhjlaa
namespace Go.Proofs.Ytblpgpgbnlhjlaa
open Go Go.RowKit Sl
set_option maxRecDepth 100000
set_option maxHeartbeats 8000000
set_option linter.unusedVariables false
set_option linter.unusedSimpArgs false
attribute [local irreducible] ES EL PX wps
def mfn (me : Me) : Nat := if me.back = true then 54 else 53
abbrev mbC (g : Nat) (t : List UInt8) (me : Me) (st : Int) : Array Value := #[Sv t, Iv me.pos, Iv me.grp, Iv me.least, Iv me.most, .bool me.back, .bool me.bol, .bool me.eol, Iv st, .func (.func (mfn me)) #[Pv g 0] #[]]
abbrev MB (g : Nat) (t : List UInt8) (me : Me) (st : Int) : HA := HA.blk g (.cells (mbC g t me st) 112)
abbrev meOf (t : List UInt8) : Me := measM (parseM t).tree
theorem newOk_c (t : List UInt8) (he : (parseM t).e = 0) (ht : t.length ≤ 4611686018427387904) (w : World) (hG : GR w w.heap.size) :
    Pure Try.prog 36 #[Sv t] (fun g : Nat => .tuple #[Pv g 0, .agg #[Iv 0, Iv 0]]) (fun g => [MB g t (meOf t) 0]) w := by
  have hpc := fun w hG => parse_c t ht w hG
  have hof : ofM t = (measM (parseM t).tree, 0, 0) := by unfold ofM; rw [if_neg (fun h => h he)]
  have hmc := fun w hG => measOf_c t ht w hG
  rw [hof] at hmc
  unfold meOf
  generalize parseM t = p at he hpc hmc
  obtain ⟨tree, pe, pat⟩ := p
  dsimp only at he hpc hmc ⊢
  subst he
  generalize measM tree = me at hmc
  refine calls_of_ES TB Try.func36 rfl _ Try.ntmps36 rfl (Sat.start w) ?_
  refine .go ?_; repeat constructor
  refine EL.assign rfl rfl rfl ?_
  (refine EL.alloc rfl rfl rfl ?_; intro g3)
  refine .go ?_; repeat constructor
  refine EL.move rfl rfl rfl ?_
  (refine EL.callXw rfl rfl rfl ent40 rfl (fun w hs => hpc w (GR.sat hG hs)) ?_; intro px)
  refine EL.move rfl rfl rfl ?_
  refine EL.extract rfl rfl rfl rfl ?_
  refine EL.extract rfl rfl rfl rfl ?_
  (refine EL.alloc rfl rfl rfl ?_; intro g4)
  (refine EL.alloc rfl rfl rfl ?_; intro g5)
  (apply EL.storeAll; exact rfl; exact rfl; exact rfl; exact rfl; exact rfl; (case p => repeat constructor); exact rfl; (case h1 => exact (by first | rfl | exact all1 rfl | (intro u hu; simp only [List.mem_cons, List.not_mem_nil, or_false] at hu; rcases hu with rfl | rfl | rfl | rfl <;> rfl) | (intro u hu; simp at hu; rcases hu with rfl | rfl | rfl | rfl <;> rfl) | (intro u hu; simp at hu; rcases hu with rfl | rfl | rfl <;> rfl) | (intro u hu; simp at hu; rcases hu with rfl | rfl <;> rfl) | (intro u hu; simp at hu; obtain ⟨_, _, rfl⟩ := hu; rfl))))
  (apply EL.storeAll; exact rfl; exact rfl; exact rfl; exact rfl; exact rfl; (case p => repeat constructor); exact rfl; (case h1 => exact (by first | rfl | exact all1 rfl | (intro u hu; simp only [List.mem_cons, List.not_mem_nil, or_false] at hu; rcases hu with rfl | rfl | rfl | rfl <;> rfl) | (intro u hu; simp at hu; rcases hu with rfl | rfl | rfl | rfl <;> rfl) | (intro u hu; simp at hu; rcases hu with rfl | rfl | rfl <;> rfl) | (intro u hu; simp at hu; rcases hu with rfl | rfl <;> rfl) | (intro u hu; simp at hu; obtain ⟨_, _, rfl⟩ := hu; rfl))))
  refine .go ?_; repeat constructor
  refine .go ?_; repeat constructor
  refine EL.fieldAddr rfl rfl rfl rfl rfl rfl rfl rfl ?_
  (apply EL.loadB; exact rfl; exact rfl; exact rfl; exact rfl; exact rfl; (case hm => repeat constructor); exact rfl)
  refine EL.neqI rfl rfl rfl rfl ?_
  refine .go ?_; repeat constructor
  refine ES.condF rfl ?_
  refine .go ?_; repeat constructor
  refine EL.move rfl rfl rfl ?_
  refine EL.buildS #[Sv t, Iv 0, Iv 0, Iv 0, Iv 0, .bool false, .bool false, .bool false, Iv 0, .nilFunc] rfl rfl rfl rfl rfl (by kernel_rfl) rfl ?_
  (refine EL.box rfl rfl rfl ?_; intro g18)
  refine EL.assign rfl rfl rfl ?_
  refine .go ?_; repeat constructor
  refine .go ?_; repeat constructor
  refine EL.move rfl rfl rfl ?_
  refine EL.move rfl rfl rfl ?_
  refine EL.callPw rfl rfl rfl ent42 rfl (fun w hs => hmc w (GR.sat hG hs)) ?_
  refine EL.move rfl rfl rfl ?_
  refine EL.extract rfl rfl rfl rfl ?_
  refine EL.extract rfl rfl rfl rfl ?_
  refine EL.nilCheck rfl rfl rfl ?_
  refine EL.fieldAddr rfl rfl rfl rfl rfl rfl rfl rfl ?_
  (refine EL.storeBA (vs := me.cells) rfl rfl rfl rfl rfl (by repeat constructor) (Nat.le_of_ble_eq_true rfl) (all1 rfl) ?_; refine EL.blkEq (g := g18) (o' := .cells #[Sv t, Iv me.pos, Iv me.grp, Iv me.least, Iv me.most, .bool me.back, .bool me.bol, .bool me.eol, Iv 0, .nilFunc] 112) (by repeat constructor) rfl ?_)
  refine .go ?_; repeat constructor
  refine .go ?_; repeat constructor
  refine EL.move rfl rfl rfl ?_
  refine EL.move rfl rfl rfl ?_
  refine EL.makeBound rfl rfl rfl ?_
  refine EL.nilCheck rfl rfl rfl ?_
  refine EL.fieldAddr rfl rfl rfl rfl rfl rfl rfl rfl ?_
  (apply EL.storeB; exact rfl; exact rfl; exact rfl; exact rfl; exact rfl; exact rfl; (case p => repeat constructor); exact (by first | decide | exact Nat.le_of_ble_eq_true rfl | simp))
  refine .go ?_; repeat constructor
  refine EL.move rfl rfl rfl ?_
  refine EL.nilCheck rfl rfl rfl ?_
  refine EL.fieldAddr rfl rfl rfl rfl rfl rfl rfl rfl ?_
  refine EL.fieldAddr rfl rfl rfl rfl rfl rfl rfl rfl ?_
  (apply EL.loadB; exact rfl; exact rfl; exact rfl; exact rfl; exact rfl; (case hm => repeat constructor); exact rfl)
  refine .go ?_; repeat constructor
  refine ES.cutC (X := Unit) (fun _ => [(3, Pv g3 0), (6, Pv g18 0)]) (fun _ => MB g18 t me 0 :: HA.blk g3 (.cells #[Iv 0, Iv 0] 67) :: []) ?_ (fun _ => ?_)
  · refine ES.cond rfl (fun hb => ?_) (fun hb => ?_)
    · have hb' : me.back = true := hb
      have hm : mfn me = 54 := if_pos hb'
      unfold MB mbC
      rw [hm]
      refine .go ?_; repeat constructor
      refine EL.move rfl rfl rfl ?_
      refine EL.move rfl rfl rfl ?_
      refine EL.makeBound rfl rfl rfl ?_
      refine EL.nilCheck rfl rfl rfl ?_
      refine EL.fieldAddr rfl rfl rfl rfl rfl rfl rfl rfl ?_
      (apply EL.storeB; exact rfl; exact rfl; exact rfl; exact rfl; exact rfl; exact rfl; (case p => repeat constructor); exact (by first | decide | exact Nat.le_of_ble_eq_true rfl | simp))
      refine .go ?_; repeat constructor
      exact PX.cutX () ⟨rfl, rfl, trivial⟩ (.i (by repeat constructor))
    · have hb' : me.back = false := hb
      have hm : mfn me = 53 := if_neg (by rw [hb']; simp)
      unfold MB mbC
      rw [hm]
      refine .go ?_; repeat constructor
      exact PX.cutX () ⟨rfl, rfl, trivial⟩ (.i (by repeat constructor))
  refine .go ?_; repeat constructor
  refine EL.move rfl rfl rfl ?_
  refine EL.buildZ rfl rfl rfl rfl rfl ?_
  refine EL.assign rfl rfl rfl ?_
  (apply EL.storeAll; exact rfl; exact rfl; exact rfl; exact rfl; exact rfl; (case p => repeat constructor); exact rfl; (case h1 => exact (by first | rfl | exact all1 rfl | (intro u hu; simp only [List.mem_cons, List.not_mem_nil, or_false] at hu; rcases hu with rfl | rfl | rfl | rfl <;> rfl) | (intro u hu; simp at hu; rcases hu with rfl | rfl | rfl | rfl <;> rfl) | (intro u hu; simp at hu; rcases hu with rfl | rfl | rfl <;> rfl) | (intro u hu; simp at hu; rcases hu with rfl | rfl <;> rfl) | (intro u hu; simp at hu; obtain ⟨_, _, rfl⟩ := hu; rfl))))
  refine .go ?_; repeat constructor
  exact PX.ret rfl Try.results36 (.cons (.tmp rfl) (.cons (.blkA rfl rfl rfl (by repeat constructor) rfl) .nil)) (fun w hs => ⟨g18, rfl, hs.ent (.i (by repeat constructor))⟩)
abbrev mrV (m : MR) (x : Option Addr × Nat) : Value := .tuple #[.slice x.1 m.spans.length x.2, .bool m.ok, Iv m.e]
abbrev McCt (f g : Nat) (t : List UInt8) (me : Me) (s : List UInt8) (a : Int) (m : MR) (w0 : World) (B : Nat) : Prop := ∀ st : Int,
  MutAt Try.prog f #[Pv g 0, Sv s, Iv a] [MB g t me st] (mrV m) (fun x => [PRow x.1 x.2 m.spans, MB g t me (w64 (st + (m.steps : Nat)))]) w0 B
theorem bySets_c (F g : Nat) (t : List UInt8) (ht : t.length ≤ 4611686018427387904) (me : Me) (s : List UInt8) (a : Int) (m : MR) (hm : setM F t s a = some m) (w0 : World) (B : Nat) (hG : GR w0 B) : McCt 53 g t me s a m w0 B := by
  intro st R w h
  replace h : Sat w0 B (MB g t me st :: R) w := h
  have hsc := fun w hG => setMatch_c F t s a m hm ht w hG
  refine calls_of_ES TB Try.func53 rfl _ Try.ntmps53 rfl h ?_
  refine .go ?_; repeat constructor
  refine EL.assign rfl rfl rfl ?_
  refine EL.assign rfl rfl rfl ?_
  refine EL.assign rfl rfl rfl ?_
  refine .go ?_; repeat constructor
  refine EL.move rfl rfl rfl ?_
  refine EL.nilCheck rfl rfl rfl ?_
  refine EL.fieldAddr rfl rfl rfl rfl rfl rfl rfl rfl ?_
  (apply EL.loadB; exact rfl; exact rfl; exact rfl; exact rfl; exact rfl; (case hm => repeat constructor); exact rfl)
  refine EL.move rfl rfl rfl ?_
  refine EL.move rfl rfl rfl ?_
  (refine EL.callXw rfl rfl rfl ent18 rfl (fun w hs => hsc w (GR.sat hG hs)) ?_; intro x)
  refine EL.move rfl rfl rfl ?_
  refine EL.extract rfl rfl rfl rfl ?_
  refine EL.extract rfl rfl rfl rfl ?_
  refine EL.extract rfl rfl rfl rfl ?_
  refine EL.extract rfl rfl rfl rfl ?_
  refine EL.assign rfl rfl rfl ?_
  refine EL.assign rfl rfl rfl ?_
  refine EL.assign rfl rfl rfl ?_
  refine EL.assign rfl rfl rfl ?_
  refine .go ?_; repeat constructor
  refine .go ?_; repeat constructor
  refine EL.move rfl rfl rfl ?_
  refine EL.nilCheck rfl rfl rfl ?_
  refine EL.fieldAddr rfl rfl rfl rfl rfl rfl rfl rfl ?_
  (apply EL.loadB; exact rfl; exact rfl; exact rfl; exact rfl; exact rfl; (case hm => repeat constructor); exact rfl)
  refine EL.move rfl rfl rfl ?_
  refine EL.add (w64 (st + (m.steps : Nat))) rfl rfl rfl rfl rfl ?_
  refine EL.nilCheck rfl rfl rfl ?_
  refine EL.fieldAddr rfl rfl rfl rfl rfl rfl rfl rfl ?_
  (apply EL.storeB; exact rfl; exact rfl; exact rfl; exact rfl; exact rfl; exact rfl; (case p => repeat constructor); exact (by first | decide | exact Nat.le_of_ble_eq_true rfl | simp))
  refine .go ?_; repeat constructor
  refine EL.move rfl rfl rfl ?_
  refine EL.move rfl rfl rfl ?_
  refine EL.move rfl rfl rfl ?_
  refine EL.assign rfl rfl rfl ?_
  refine EL.assign rfl rfl rfl ?_
  refine EL.assign rfl rfl rfl ?_
  refine .go ?_; repeat constructor
  exact PX.ret rfl Try.results53 (.cons (.tmp rfl) (.cons (.tmp rfl) (.cons (.tmp rfl) .nil))) (fun w hs => ⟨x, rfl, hs.ent (.i (by repeat constructor))⟩)
theorem matchNil_c (s : List UInt8) (a : Int) (w : World) : Pure Try.prog 22 #[.pointer none, Sv s, Iv a] (fun _ : Unit => .tuple #[.slice none 0 0, .bool false, Iv 25]) (fun _ => []) w := by
  refine calls_of_ES TB Try.func22 rfl _ Try.ntmps22 rfl (Sat.start w) ?_
  refine .go ?_; repeat constructor
  refine EL.assign rfl rfl rfl ?_
  refine EL.assign rfl rfl rfl ?_
  refine EL.assign rfl rfl rfl ?_
  refine .go ?_; repeat constructor
  refine EL.move rfl rfl rfl ?_
  refine EL.eqlPn rfl rfl rfl rfl rfl rfl ?_
  refine EL.move rfl rfl rfl ?_
  refine EL.rew (d := 11) (v' := .bool true) rfl (by first | rfl | (decide) | (simp)) ?_
  refine EL.pass rfl rfl rfl ?_
  refine EL.pass rfl rfl rfl ?_
  refine EL.pass rfl rfl rfl ?_
  refine EL.pass rfl rfl rfl ?_
  refine EL.pass rfl rfl rfl ?_
  refine EL.pickT rfl rfl rfl rfl ?_
  refine .go ?_; repeat constructor
  refine ES.condT rfl ?_
  refine .go ?_; repeat constructor
  refine EL.assign rfl rfl rfl ?_
  refine EL.assign rfl rfl rfl ?_
  refine EL.assign rfl rfl rfl ?_
  refine .go ?_; repeat constructor
  exact PX.ret rfl Try.results22 (.cons (.tmp rfl) (.cons (.tmp rfl) (.cons (.tmp rfl) .nil))) (fun w hs => ⟨(), rfl, hs.ent (.i (by repeat constructor))⟩)
theorem match_c (g : Nat) (t : List UInt8) (me : Me) (s : List UInt8) (a : Int) (m : MR) (w0 : World) (B : Nat) (he : Enters Try.prog (mfn me)) (hc : McCt (mfn me) g t me s a m w0 B) : McCt 22 g t me s a m w0 B := by
  intro st R w h
  replace h : Sat w0 B (MB g t me st :: R) w := h
  refine calls_of_ES TB Try.func22 rfl _ Try.ntmps22 rfl h ?_
  refine .go ?_; repeat constructor
  refine EL.assign rfl rfl rfl ?_
  refine EL.assign rfl rfl rfl ?_
  refine EL.assign rfl rfl rfl ?_
  refine .go ?_; repeat constructor
  refine EL.move rfl rfl rfl ?_
  refine EL.eqlPn rfl rfl rfl rfl rfl rfl ?_
  refine EL.move rfl rfl rfl ?_
  refine EL.rew (d := 11) (v' := .bool false) rfl (by first | rfl | (decide) | (simp)) ?_
  refine EL.move rfl rfl rfl ?_
  refine EL.nilCheck rfl rfl rfl ?_
  refine EL.fieldAddr rfl rfl rfl rfl rfl rfl rfl rfl ?_
  (apply EL.loadB; exact rfl; exact rfl; exact rfl; exact rfl; exact rfl; (case hm => repeat constructor); exact rfl)
  refine EL.eqlFt rfl rfl rfl rfl rfl rfl ?_
  refine EL.pickF rfl rfl rfl rfl ?_
  refine .go ?_; repeat constructor
  refine ES.condF rfl ?_
  refine .go ?_; repeat constructor
  refine EL.move rfl rfl rfl ?_
  refine EL.nilCheck rfl rfl rfl ?_
  refine EL.fieldAddr rfl rfl rfl rfl rfl rfl rfl rfl ?_
  (apply EL.loadB; exact rfl; exact rfl; exact rfl; exact rfl; exact rfl; (case hm => repeat constructor); exact rfl)
  refine EL.move rfl rfl rfl ?_
  refine EL.move rfl rfl rfl ?_
  (refine EL.callB (bs := [Pv g 0]) (vs := [Sv s, Iv a]) rfl rfl rfl he rfl (hc st) (by repeat constructor) ?_; intro x)
  refine EL.extract rfl rfl rfl rfl ?_
  refine EL.extract rfl rfl rfl rfl ?_
  refine EL.extract rfl rfl rfl rfl ?_
  refine EL.assign rfl rfl rfl ?_
  refine EL.assign rfl rfl rfl ?_
  refine EL.assign rfl rfl rfl ?_
  refine .go ?_; repeat constructor
  exact PX.ret rfl Try.results22 (.cons (.tmp rfl) (.cons (.tmp rfl) (.cons (.tmp rfl) .nil))) (fun w hs => ⟨x, rfl, hs.ent (.i (by repeat constructor))⟩)
theorem matchSets_c (F g : Nat) (t : List UInt8) (ht : t.length ≤ 4611686018427387904) (me : Me) (hb : me.back = false) (s : List UInt8) (a : Int) (m : MR) (hm : setM F t s a = some m) (w0 : World) (B : Nat) (hG : GR w0 B) : McCt 22 g t me s a m w0 B := by
  have e : mfn me = 53 := if_neg (by rw [hb]; simp)
  exact match_c g t me s a m w0 B (by rw [e]; exact ent53) (by rw [e]; exact bySets_c F g t ht me s a m hm w0 B hG)
end Go.Proofs.Ytblpgpgbnlhjlaa
namespace Go.Proofs.Ytblpgpgbnlhjlaa
open Go Go.RowKit Sl
set_option maxRecDepth 100000
set_option maxHeartbeats 8000000
set_option linter.unusedVariables false
set_option linter.unusedSimpArgs false
attribute [local irreducible] ES EL PX wps
theorem byWays_c (F g : Nat) (t : List UInt8) (ht : t.length ≤ 4611686018427387904) (me : Me) (s : List UInt8) (a : Int) (mb : MB10) (hm : backM F t s a = some mb) (k : Nat) (hk : ∃ (p q : Nat) (rest : List Spn), mb.spans = ((p : Int), (q : Int)) :: rest ∧ p ≤ q ∧ q ≤ 1048576 ∧ mb.ok = true ∧ k = q - p) (w0 : World) (B : Nat) (hG : GR w0 B) : McCt 54 g t me s a ⟨mb.spans, mb.ok, k, mb.e⟩ w0 B := by
  intro st R w h
  replace h : Sat w0 B (MB g t me st :: R) w := h
  have hsc := fun w hG => backMatch_c F t s a mb hm ht w hG
  obtain ⟨spans, ok, e⟩ := mb
  dsimp only at hk hsc ⊢
  refine calls_of_ES TB Try.func54 rfl _ Try.ntmps54 rfl h ?_
  refine .go ?_; repeat constructor
  refine EL.assign rfl rfl rfl ?_
  refine EL.assign rfl rfl rfl ?_
  refine EL.assign rfl rfl rfl ?_
  refine .go ?_; repeat constructor
  refine EL.move rfl rfl rfl ?_
  refine EL.nilCheck rfl rfl rfl ?_
  refine EL.fieldAddr rfl rfl rfl rfl rfl rfl rfl rfl ?_
  (apply EL.loadB; exact rfl; exact rfl; exact rfl; exact rfl; exact rfl; (case hm => repeat constructor); exact rfl)
  refine EL.move rfl rfl rfl ?_
  refine EL.move rfl rfl rfl ?_
  (refine EL.callXw rfl rfl rfl ent21 rfl (fun w hs => hsc w (GR.sat hG hs)) ?_; rintro ⟨xa, xc⟩)
  refine EL.move rfl rfl rfl ?_
  refine EL.extract rfl rfl rfl rfl ?_
  refine EL.extract rfl rfl rfl rfl ?_
  refine EL.extract rfl rfl rfl rfl ?_
  refine EL.assign rfl rfl rfl ?_
  refine EL.assign rfl rfl rfl ?_
  refine EL.assign rfl rfl rfl ?_
  refine .go ?_; repeat constructor
  dsimp only
  obtain ⟨p, q, rest, rfl, hpq, hq, rfl, rfl⟩ := hk
  refine EL.know (P := ∃ g, xa = some ⟨g, 0, none⟩) (fun w hs => (row_form (hs.all (PRow xa xc (((p : Int), (q : Int)) :: rest)) (by simp))).2.2.2.2 (Nat.zero_lt_succ _)) ?_
  rintro ⟨xg, rfl⟩
  refine .go ?_; repeat constructor
  refine EL.move rfl rfl rfl ?_
  repeat (first | apply EL.nil | apply ES.seq | apply ES.skip)
  refine ES.condT rfl ?_
  refine .g0 ?_; repeat constructor
  refine ES.draw (X := Unit) (fun _ => [(9, .slice (some ⟨xg, 0, none⟩) (rest.length + 1) xc), (10, .bool true), (11, Iv e)]) (fun _ => PRow (some ⟨xg, 0, none⟩) xc (((p : Int), (q : Int)) :: rest) :: MB g t me (w64 (st + ((q - p : Nat) : Int))) :: R) (PRow (some ⟨xg, 0, none⟩) xc (((p : Int), (q : Int)) :: rest) :: MB g t me st :: []) mixed (.i (by repeat constructor)) ?_ (fun _ => ?_)
  · refine ED.take 0 rfl (by decide +kernel) CutX.no_panic (by decide +kernel) rfl rfl rfl (RV.move rfl) ?_
    refine ED.take 1 rfl (by decide +kernel) CutX.no_panic (by decide +kernel) rfl rfl rfl (RV.nilCheck rfl) ?_
    refine ED.take 2 rfl (by decide +kernel) CutX.no_panic (by decide +kernel) rfl rfl rfl (RV.fieldAddr rfl rfl rfl rfl rfl rfl) ?_
    refine ED.take 3 rfl (by decide +kernel) CutX.no_panic (by decide +kernel) rfl rfl rfl (RV.loadB rfl rfl rfl (by repeat constructor) rfl) ?_
    refine ED.take 4 rfl (by decide +kernel) CutX.no_panic (by decide +kernel) rfl rfl rfl (RV.move rfl) ?_
    refine ED.take 5 rfl (by decide +kernel) CutX.no_panic (by decide +kernel) rfl rfl rfl (RV.indexAddrL (i := 0) rfl rfl rfl rfl rfl (Nat.zero_lt_succ _)) ?_
    refine ED.take 6 rfl (by decide +kernel) CutX.no_panic (by decide +kernel) rfl rfl rfl (RV.fieldAddr rfl rfl rfl rfl rfl rfl) ?_
    refine ED.take 7 rfl (by decide +kernel) CutX.no_panic (by decide +kernel) rfl rfl rfl (RV.loadR (v := Iv (q : Nat)) rfl rfl rfl (by repeat constructor) rfl) ?_
    refine ED.take 8 rfl (by decide +kernel) CutX.no_panic (by decide +kernel) rfl rfl rfl (RV.move rfl) ?_
    refine ED.take 9 rfl (by decide +kernel) CutX.no_panic (by decide +kernel) rfl rfl rfl (RV.indexAddrL (i := 0) rfl rfl rfl rfl rfl (Nat.zero_lt_succ _)) ?_
    refine ED.take 10 rfl (by decide +kernel) CutX.no_panic (by decide +kernel) rfl rfl rfl (RV.fieldAddr rfl rfl rfl rfl rfl rfl) ?_
    refine ED.take 11 rfl (by decide +kernel) CutX.no_panic (by decide +kernel) rfl rfl rfl (RV.loadR (v := Iv (p : Nat)) rfl rfl rfl (by repeat constructor) rfl) ?_
    refine ED.take 12 rfl (by decide +kernel) CutX.no_panic (by decide +kernel) rfl rfl rfl (RV.subN (m := q) (n := p) rfl rfl rfl hpq (by omega)) ?_
    refine ED.take 13 rfl (by decide +kernel) CutX.no_panic (by decide +kernel) rfl rfl rfl (RV.add (w64 (st + ((q - p : Nat) : Int))) rfl rfl rfl) ?_
    refine ED.take 14 rfl (by decide +kernel) CutX.no_panic (by decide +kernel) rfl rfl rfl (RV.nilCheck rfl) ?_
    refine ED.take 15 rfl (by decide +kernel) CutX.no_panic (by decide +kernel) rfl rfl rfl (RV.fieldAddr rfl rfl rfl rfl rfl rfl) ?_
    refine ED.last 16 rfl (by decide +kernel) (by decide +kernel) (by decide +kernel) ?_
    (apply EL.storeB; exact rfl; exact rfl; exact rfl; exact rfl; exact rfl; exact rfl; (case p => repeat constructor); exact (by first | decide | exact Nat.le_of_ble_eq_true rfl | simp))
    refine EL.endQ ?_
    exact PX.cutX () ⟨rfl, rfl, rfl, trivial⟩ (.i (by repeat constructor))
  refine .go ?_; repeat constructor
  refine EL.move rfl rfl rfl ?_
  refine EL.move rfl rfl rfl ?_
  refine EL.move rfl rfl rfl ?_
  refine EL.assign rfl rfl rfl ?_
  refine EL.assign rfl rfl rfl ?_
  refine EL.assign rfl rfl rfl ?_
  refine .go ?_; repeat constructor
  exact PX.ret rfl Try.results54 (.cons (.tmp rfl) (.cons (.tmp rfl) (.cons (.tmp rfl) .nil))) (fun w hs => ⟨(some ⟨xg, 0, none⟩, xc), rfl, hs.ent (.i (by repeat constructor))⟩)
theorem matchWays_c (F g : Nat) (t : List UInt8) (ht : t.length ≤ 4611686018427387904) (me : Me) (hb : me.back = true) (s : List UInt8) (a : Int) (mb : MB10) (hm : backM F t s a = some mb) (k : Nat) (hk : ∃ (p q : Nat) (rest : List Spn), mb.spans = ((p : Int), (q : Int)) :: rest ∧ p ≤ q ∧ q ≤ 1048576 ∧ mb.ok = true ∧ k = q - p) (w0 : World) (B : Nat) (hG : GR w0 B) :
    McCt 22 g t me s a ⟨mb.spans, mb.ok, k, mb.e⟩ w0 B := by
  have e : mfn me = 54 := if_pos hb
  exact match_c g t me s a _ w0 B (by rw [e]; exact ent54) (by rw [e]; exact byWays_c F g t ht me s a mb hm k hk w0 B hG)
theorem textNil_c (w : World) : Pure Try.prog 24 #[.pointer none] (fun _ : Unit => Sv []) (fun _ => []) w := by
  refine calls_of_ES TB Try.func24 rfl _ Try.ntmps24 rfl (Sat.start w) ?_
  refine .go ?_; repeat constructor
  refine EL.assign rfl rfl rfl ?_
  refine .go ?_; repeat constructor
  refine EL.move rfl rfl rfl ?_
  refine EL.eqlPn rfl rfl rfl rfl rfl rfl ?_
  refine .go ?_; repeat constructor
  refine ES.condT rfl ?_
  refine .go ?_; repeat constructor
  refine EL.assign rfl rfl rfl ?_
  refine .go ?_; repeat constructor
  exact PX.ret rfl Try.results24 (.cons (.tmp rfl) .nil) (fun w hs => ⟨(), rfl, hs.ent (.i (by repeat constructor))⟩)
theorem groupsNil_c (w : World) : Pure Try.prog 25 #[.pointer none] (fun _ : Unit => Iv 0) (fun _ => []) w := by
  refine calls_of_ES TB Try.func25 rfl _ Try.ntmps25 rfl (Sat.start w) ?_
  refine .go ?_; repeat constructor
  refine EL.assign rfl rfl rfl ?_
  refine .go ?_; repeat constructor
  refine EL.move rfl rfl rfl ?_
  refine EL.eqlPn rfl rfl rfl rfl rfl rfl ?_
  refine .go ?_; repeat constructor
  refine ES.condT rfl ?_
  refine .go ?_; repeat constructor
  refine EL.assign rfl rfl rfl ?_
  refine .go ?_; repeat constructor
  exact PX.ret rfl Try.results25 (.cons (.tmp rfl) .nil) (fun w hs => ⟨(), rfl, hs.ent (.i (by repeat constructor))⟩)
theorem groups_c (g : Nat) (t : List UInt8) (me : Me) (st : Int) (w0 : World) (B : Nat) : MutAt Try.prog 25 #[Pv g 0] [MB g t me st] (fun _ : Unit => Iv me.grp) (fun _ => [MB g t me st]) w0 B := by
  intro R w h
  replace h : Sat w0 B (MB g t me st :: R) w := h
  refine calls_of_ES TB Try.func25 rfl _ Try.ntmps25 rfl h ?_
  refine .go ?_; repeat constructor
  refine EL.assign rfl rfl rfl ?_
  refine .go ?_; repeat constructor
  refine EL.move rfl rfl rfl ?_
  refine EL.eqlPn rfl rfl rfl rfl rfl rfl ?_
  refine .go ?_; repeat constructor
  refine ES.condF rfl ?_
  refine .go ?_; repeat constructor
  refine EL.move rfl rfl rfl ?_
  refine EL.nilCheck rfl rfl rfl ?_
  refine EL.fieldAddr rfl rfl rfl rfl rfl rfl rfl rfl ?_
  refine EL.fieldAddr rfl rfl rfl rfl rfl rfl rfl rfl ?_
  (apply EL.loadB; exact rfl; exact rfl; exact rfl; exact rfl; exact rfl; (case hm => repeat constructor); exact rfl)
  refine EL.assign rfl rfl rfl ?_
  refine .go ?_; repeat constructor
  exact PX.ret rfl Try.results25 (.cons (.tmp rfl) .nil) (fun w hs => ⟨(), rfl, hs.ent (.i (by repeat constructor))⟩)
theorem stepsNil_c (w : World) : Pure Try.prog 26 #[.pointer none] (fun _ : Unit => Iv 0) (fun _ => []) w := by
  refine calls_of_ES TB Try.func26 rfl _ Try.ntmps26 rfl (Sat.start w) ?_
  refine .go ?_; repeat constructor
  refine EL.assign rfl rfl rfl ?_
  refine .go ?_; repeat constructor
  refine EL.move rfl rfl rfl ?_
  refine EL.eqlPn rfl rfl rfl rfl rfl rfl ?_
  refine .go ?_; repeat constructor
  refine ES.condT rfl ?_
  refine .go ?_; repeat constructor
  refine EL.assign rfl rfl rfl ?_
  refine .go ?_; repeat constructor
  exact PX.ret rfl Try.results26 (.cons (.tmp rfl) .nil) (fun w hs => ⟨(), rfl, hs.ent (.i (by repeat constructor))⟩)
theorem set_awake11 : (setM 60 [92, 40, 97, 92, 41, 42] [120, 97, 97] 1).map (fun m => (m.spans, m.ok, m.e)) = some ([(1, 3), (2, 3)], true, 0) := by decide +kernel
theorem me11a : (parseM [92, 40, 97, 92, 41, 42]).e = 0 ∧ (meOf [92, 40, 97, 92, 41, 42]).back = false ∧ (meOf [92, 40, 97, 92, 41, 42]).grp = 1 := by decide +kernel
theorem me11b : (parseM [92, 40, 46, 92, 41, 92, 49]).e = 0 ∧ (meOf [92, 40, 46, 92, 41, 92, 49]).back = true := by decide +kernel
theorem awake11_c (w : World) (hG : GR w w.heap.size) : Pure Try.prog 23 #[] (fun _ : Unit => .bool true) (fun _ => []) w := by
  obtain ⟨m, hm, hf⟩ := Option.map_eq_some_iff.1 set_awake11
  simp only [Prod.mk.injEq] at hf
  obtain ⟨f1, f2, f3⟩ := hf
  obtain ⟨mb, hmb, hfb⟩ := Option.map_eq_some_iff.1 back_awake2
  simp only [Prod.mk.injEq] at hfb
  obtain ⟨b1, b2, b3⟩ := hfb
  have n1 := fun w hG => newOk_c [92, 40, 97, 92, 41, 42] me11a.1 (by decide) w hG
  have n2 := fun w hG => newOk_c [92, 40, 46, 92, 41, 92, 49] me11b.1 (by decide) w hG
  have c1 := fun g w0 B hG => matchSets_c 60 g [92, 40, 97, 92, 41, 42] (by decide) (meOf [92, 40, 97, 92, 41, 42]) me11a.2.1 [120, 97, 97] 1 m hm w0 B hG 0
  have c2 := fun g w0 B hG => matchWays_c 60 g [92, 40, 46, 92, 41, 92, 49] (by decide) (meOf [92, 40, 46, 92, 41, 92, 49]) me11b.2 [97, 98, 99, 99, 100] 0 mb hmb 2 ⟨2, 4, [(2, 3)], b1, by decide, by decide, b2, rfl⟩ w0 B hG 0
  have cg := fun g w0 B => groups_c g [92, 40, 97, 92, 41, 42] (meOf [92, 40, 97, 92, 41, 42]) 0 w0 B
  rw [me11a.2.2] at cg
  obtain ⟨ms, mo, mst, me⟩ := m
  obtain ⟨bs, bo, be⟩ := mb
  dsimp only at f1 f2 f3 b1 b2 b3 c1 c2
  subst f1 f2 f3 b1 b2 b3
  generalize meOf [92, 40, 97, 92, 41, 42] = meA at n1 c1 cg
  generalize meOf [92, 40, 46, 92, 41, 92, 49] = meB at n2 c2
  refine calls_of_ES TB Try.func23 rfl _ Try.ntmps23 rfl (Sat.start w) ?_
  refine .go ?_; repeat constructor
  refine EL.assign rfl rfl rfl ?_
  refine .go ?_; repeat constructor
  (refine EL.callXw rfl rfl rfl ent36 rfl (fun w hs => n1 w (GR.sat hG hs)) ?_; intro ga)
  refine EL.move rfl rfl rfl ?_
  refine EL.extract rfl rfl rfl rfl ?_
  refine EL.extract rfl rfl rfl rfl ?_
  (refine EL.alloc rfl rfl rfl ?_; intro g2)
  refine EL.assign rfl rfl rfl ?_
  (apply EL.storeAll; exact rfl; exact rfl; exact rfl; exact rfl; exact rfl; (case p => repeat constructor); exact rfl; (case h1 => exact (by first | rfl | exact all1 rfl | (intro u hu; simp only [List.mem_cons, List.not_mem_nil, or_false] at hu; rcases hu with rfl | rfl | rfl | rfl <;> rfl) | (intro u hu; simp at hu; rcases hu with rfl | rfl | rfl | rfl <;> rfl) | (intro u hu; simp at hu; rcases hu with rfl | rfl | rfl <;> rfl) | (intro u hu; simp at hu; rcases hu with rfl | rfl <;> rfl) | (intro u hu; simp at hu; obtain ⟨_, _, rfl⟩ := hu; rfl))))
  refine .go ?_; repeat constructor
  (refine EL.callXw rfl rfl rfl ent36 rfl (fun w hs => n2 w (GR.sat hG hs)) ?_; intro gb)
  refine EL.move rfl rfl rfl ?_
  refine EL.extract rfl rfl rfl rfl ?_
  refine EL.extract rfl rfl rfl rfl ?_
  (refine EL.alloc rfl rfl rfl ?_; intro g4)
  refine EL.assign rfl rfl rfl ?_
  (apply EL.storeAll; exact rfl; exact rfl; exact rfl; exact rfl; exact rfl; (case p => repeat constructor); exact rfl; (case h1 => exact (by first | rfl | exact all1 rfl | (intro u hu; simp only [List.mem_cons, List.not_mem_nil, or_false] at hu; rcases hu with rfl | rfl | rfl | rfl <;> rfl) | (intro u hu; simp at hu; rcases hu with rfl | rfl | rfl | rfl <;> rfl) | (intro u hu; simp at hu; rcases hu with rfl | rfl | rfl <;> rfl) | (intro u hu; simp at hu; rcases hu with rfl | rfl <;> rfl) | (intro u hu; simp at hu; obtain ⟨_, _, rfl⟩ := hu; rfl))))
  refine .go ?_; repeat constructor
  refine .go ?_; repeat constructor
  refine EL.move rfl rfl rfl ?_
  refine EL.eqlPn rfl rfl rfl rfl rfl rfl ?_
  refine EL.move rfl rfl rfl ?_
  refine EL.rew (d := 21) (v' := .bool false) rfl (by first | rfl | (decide) | (simp)) ?_
  refine EL.move rfl rfl rfl ?_
  refine EL.eqlPn rfl rfl rfl rfl rfl rfl ?_
  refine EL.pickF rfl rfl rfl rfl ?_
  refine EL.move rfl rfl rfl ?_
  refine EL.rew (d := 25) (v' := .bool false) rfl (by first | rfl | (decide) | (simp)) ?_
  refine EL.fieldAddr rfl rfl rfl rfl rfl rfl rfl rfl ?_
  (apply EL.loadB; exact rfl; exact rfl; exact rfl; exact rfl; exact rfl; (case hm => repeat constructor); exact rfl)
  refine EL.neqI rfl rfl rfl rfl ?_
  refine EL.pickF rfl rfl rfl rfl ?_
  refine EL.move rfl rfl rfl ?_
  refine EL.rew (d := 30) (v' := .bool false) rfl (by first | rfl | (decide) | (simp)) ?_
  refine EL.fieldAddr rfl rfl rfl rfl rfl rfl rfl rfl ?_
  (apply EL.loadB; exact rfl; exact rfl; exact rfl; exact rfl; exact rfl; (case hm => repeat constructor); exact rfl)
  refine EL.neqI rfl rfl rfl rfl ?_
  refine EL.pickF rfl rfl rfl rfl ?_
  refine EL.move rfl rfl rfl ?_
  refine EL.rew (d := 35) (v' := .bool false) rfl (by first | rfl | (decide) | (simp)) ?_
  refine EL.move rfl rfl rfl ?_
  (refine EL.callMw rfl rfl rfl ent25 rfl (cg ga w w.heap.size) (by repeat constructor) ?_; intro u)
  refine EL.neqI rfl rfl rfl rfl ?_
  refine EL.pickF rfl rfl rfl rfl ?_
  refine .go ?_; repeat constructor
  refine ES.condN rfl (fun h => absurd rfl h) (fun _ => ?_)
  refine .go ?_; repeat constructor
  refine EL.move rfl rfl rfl ?_
  (refine EL.callMw rfl rfl rfl ent22 rfl (c1 ga w w.heap.size hG) (by repeat constructor) ?_; rintro ⟨xa, xc⟩)
  refine EL.move rfl rfl rfl ?_
  refine EL.extract rfl rfl rfl rfl ?_
  refine EL.extract rfl rfl rfl rfl ?_
  refine EL.extract rfl rfl rfl rfl ?_
  refine EL.assign rfl rfl rfl ?_
  refine EL.assign rfl rfl rfl ?_
  refine EL.assign rfl rfl rfl ?_
  refine .go ?_; repeat constructor
  refine EL.move rfl rfl rfl ?_
  (refine EL.callMw rfl rfl rfl ent22 rfl (c2 gb w w.heap.size hG) (by repeat constructor) ?_; rintro ⟨ya, yc⟩)
  refine EL.move rfl rfl rfl ?_
  refine EL.extract rfl rfl rfl rfl ?_
  refine EL.extract rfl rfl rfl rfl ?_
  refine EL.extract rfl rfl rfl rfl ?_
  refine EL.assign rfl rfl rfl ?_
  refine EL.assign rfl rfl rfl ?_
  refine EL.assign rfl rfl rfl ?_
  refine .go ?_; repeat constructor
  refine .go ?_; repeat constructor
  refine EL.move rfl rfl rfl ?_
  refine EL.move rfl rfl rfl ?_
  refine EL.rew (d := 53) (v' := .bool true) rfl (by first | rfl | (decide) | (simp)) ?_
  refine EL.move rfl rfl rfl ?_
  refine EL.pickT rfl rfl rfl rfl ?_
  refine EL.move rfl rfl rfl ?_
  refine EL.rew (d := 56) (v' := .bool true) rfl (by first | rfl | (decide) | (simp)) ?_
  refine EL.move rfl rfl rfl ?_
  refine EL.eqlI rfl rfl rfl rfl ?_
  refine EL.pickT rfl rfl rfl rfl ?_
  refine EL.move rfl rfl rfl ?_
  refine EL.rew (d := 60) (v' := .bool true) rfl (by first | rfl | (decide) | (simp)) ?_
  refine EL.move rfl rfl rfl ?_
  refine EL.eqlI rfl rfl rfl rfl ?_
  refine EL.pickT rfl rfl rfl rfl ?_
  refine EL.move rfl rfl rfl ?_
  refine EL.rew (d := 64) (v' := .bool true) rfl (by first | rfl | (decide) | (simp)) ?_
  refine EL.move rfl rfl rfl ?_
  (apply EL.build2; exact rfl; exact rfl; exact rfl; exact rfl; exact rfl; exact rfl; exact rfl; exact rfl; exact rfl; exact rfl)
  (apply EL.build2; exact rfl; exact rfl; exact rfl; exact rfl; exact rfl; exact rfl; exact rfl; exact rfl; exact rfl; exact rfl)
  (refine EL.buildSliceC (spsC [(1, 3), (2, 3)]).toArray rfl rfl rfl rfl rfl rfl (by kernel_rfl) rfl rfl rfl rfl ?_; intro b68)
  refine EL.callPw rfl rfl rfl ent19 rfl (fun w hs => same08_r [(1, 3), (2, 3)] _ _ _ _ (by decide) w (Rd.row hs (by repeat constructor) (by decide)) (Rd.row hs (by repeat constructor) (by decide))) ?_
  refine EL.pickT rfl rfl rfl rfl ?_
  refine EL.move rfl rfl rfl ?_
  refine EL.rew (d := 71) (v' := .bool true) rfl (by first | rfl | (decide) | (simp)) ?_
  refine EL.move rfl rfl rfl ?_
  (apply EL.build2; exact rfl; exact rfl; exact rfl; exact rfl; exact rfl; exact rfl; exact rfl; exact rfl; exact rfl; exact rfl)
  (apply EL.build2; exact rfl; exact rfl; exact rfl; exact rfl; exact rfl; exact rfl; exact rfl; exact rfl; exact rfl; exact rfl)
  (refine EL.buildSliceC (spsC [(2, 4), (2, 3)]).toArray rfl rfl rfl rfl rfl rfl (by kernel_rfl) rfl rfl rfl rfl ?_; intro b75)
  refine EL.callPw rfl rfl rfl ent19 rfl (fun w hs => same08_r [(2, 4), (2, 3)] _ _ _ _ (by decide) w (Rd.row hs (by repeat constructor) (by decide)) (Rd.row hs (by repeat constructor) (by decide))) ?_
  refine EL.pickT rfl rfl rfl rfl ?_
  refine EL.assign rfl rfl rfl ?_
  refine .go ?_; repeat constructor
  exact PX.ret rfl Try.results23 (.cons (.tmp rfl) .nil) (fun w hs => ⟨(), rfl, hs.ent (.nil _)⟩)
end Go.Proofs.Ytblpgpgbnlhjlaa
namespace Go.Proofs.Ytblpgpgbnlhjlaa.Sl
open Go Go.RowKit Go.ChangeShapes Go.WideShapes Go.ChangeAt
set_option linter.unusedVariables false
set_option linter.unusedSimpArgs false
def rowedB (P : Program) (ts : List TypeId) : Bool := ts.all fun t => P.readableRec t && decide (t < P.types.size)
theorem trodAll_below {H : Type} {enc : TypeId × Value → H} {P : Program} (hl : laidOutB P = true) {W W' : World} (hb : Below W.heap.size W W') :
    ∀ {ts : List TypeId} {vs : List Value} {ds : List (DataW H)} {ps : List MemPlace}, rowedB P ts = true → (∀ x ∈ ps, x.block < W.heap.size) → DataW.TrodAll enc P W 0 (fun _ => true) true ts vs ds ps → DataW.TrodAll enc P W' 0 (fun b => decide (b < W.heap.size)) true ts vs ds ps
  | [], [], [], _, _, _, h => h
  | t :: ts, v :: vs, d :: ds, ps, hr, hlt, h => by
    obtain ⟨p, q, h1, h2, rfl⟩ := h
    simp only [rowedB, List.all_cons, Bool.and_eq_true, decide_eq_true_eq] at hr
    exact ⟨p, q, Below.trod hl hr.1.1 hr.1.2 h1 hb (fun x hx => hlt x (by simp [hx])), trodAll_below hl hb (by simpa [rowedB] using hr.2) (fun x hx => hlt x (by simp [hx])) h2, rfl⟩
theorem law_true {H : Type} {enc : TypeId × Value → H} {P : Program} (hl : laidOutB P = true) {f : Func} {tb : TypeId} {s : ChangeSpec} {W W' : World} {args : Array Value} {ds gs : List (DataW H)} {before : List MemPlace}
    (hres : f.resultTypes = #[tb]) (hu : P.underlying tb = some .bool) (hts : rowedB P f.params.toList = true) (hv : varsRowed P s.vars = true) (apart : Bool)
    (hR : (s.fn H (ds ++ gs)).results = [.lit (.bool true)]) (hA : (s.fn H (ds ++ gs)).args = ds) (hV : (s.fn H (ds ++ gs)).vars = gs)
    (hW : DataW.Whole enc P f.params.toList s.vars apart W args.toList ds gs before) (hb : Below W.heap.size W W') : s.post enc P f apart true false false W args (.bool true) W' := by
  have hlt := hW.lt
  have hW' := hW
  obtain ⟨p, q, h1, h2, rfl, h4, h5⟩ := hW
  refine ⟨ds, gs, p ++ q, [], p, q, hW', ?_, ?_, ?_, hb.frame _, fun h => by cases h⟩
  · rw [hres, hR]
    exact trodAll_mk1 (shut_bool hu true)
  · rw [hA]
    exact trodAll_below hl hb hts (fun x hx => hlt x (by simp [hx])) h1
  · rw [hV]
    exact Below.trodVars hl hb hv h2
theorem open_sv {H : Type} {enc : TypeId × Value → H} {P : Program} {w : World} {base : Nat} {sp : Nat → Bool} {held : Bool} {r : Reach} {b0 : Nat} {t : TypeId} {v : Value} {d : DataW H} {ps : List MemPlace} (ht : P.underlying t = some .string) (hval : Value.okWide P w r b0 t v) (hd : DataW.Trod enc P w base sp held t v d ps) :
    ∃ l : List UInt8, v = Sv l ∧ d = .lit (.string l) := by
  obtain ⟨s, rfl, rfl, _, _⟩ := ChangeMaps.open_string ht hval hd
  exact ⟨s.data.toList, Sv_eta s, rfl⟩
theorem w_str {H : Type} {P : Program} {t : TypeId} {l : List UInt8} : DataW.weights (H := H) P t (.lit (.string l)) = [l.length] := by simp [DataW.weights]
theorem w_int {H : Type} {P : Program} {t : TypeId} {k : IntKind} {n : Int} : DataW.weights (H := H) P t (.lit (.int k n)) = [] := by simp [DataW.weights]
end Go.Proofs.Ytblpgpgbnlhjlaa.Sl
namespace Go.Proofs.Ytblpgpgbnlhjlaa
theorem own : Go.ownKnob Try.prog.godebug = none := by kernel_rfl
theorem laidOut : Go.laidOutB Try.prog = true := by kernel_rfl
end Go.Proofs.Ytblpgpgbnlhjlaa
namespace Go.Proofs.Ytblpgpgbnlhjlaa.Sl
open Go Go.RowKit Go.ChangeShapes Go.WideShapes Go.ChangeAt
theorem open_iv {H : Type} {enc : TypeId × Value → H} {P : Program} {w : World} {base : Nat} {sp : Nat → Bool} {held : Bool} {r : Reach} {b0 : Nat} {t : TypeId} {v : Value} {d : DataW H} {ps : List MemPlace} (ht : P.underlying t = some (.int .i64)) (hval : Value.okWide P w r b0 t v) (hd : DataW.Trod enc P w base sp held t v d ps) :
    ∃ n : Int, v = Iv n ∧ d = .lit (.int .i64 n) ∧ -9223372036854775808 ≤ n ∧ n ≤ 9223372036854775807 := by
  obtain ⟨n, rfl, rfl, _, hw⟩ := open_int ht hval hd
  have hx : -9223372036854775808 ≤ n ∧ n ≤ 9223372036854775807 := by simpa [Lit.wf, IntKind.min, IntKind.max, IntKind.signed, IntKind.bits] using hw
  exact ⟨n, rfl, rfl, hx.1, hx.2⟩
end Go.Proofs.Ytblpgpgbnlhjlaa.Sl
