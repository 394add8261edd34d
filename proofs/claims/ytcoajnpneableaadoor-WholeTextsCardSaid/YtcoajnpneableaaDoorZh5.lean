/- Texts of this claim, bundled. -/
import Derived.Test.YtcoajnpneableaaDoorZh4
namespace Go.Proofs.YtcoajnpneableaaDoor
open Go Go.RowKit Sl
set_option maxRecDepth 100000
set_option maxHeartbeats 8000000
set_option linter.unusedVariables false
set_option linter.unusedSimpArgs false
attribute [local irreducible] ES EL PX wps
abbrev PP (g fg fcap : Nat) (p : PS) (tv : FV) (rv : List (Frame × FV)) : HA := HA.pack (PH g fg fcap p tv rv)
theorem Sat.packL {w0 w : World} {B : Nat} {T R : List HA} (h : Sat w0 B (T ++ R) w) : Sat w0 B (HA.pack T :: R) w := Sl.Sat.pack h
theorem Sat.unpackL {w0 w : World} {B : Nat} {T R : List HA} (h : Sat w0 B (HA.pack T :: R) w) : Sat w0 B (T ++ R) w := Sl.Sat.unpack h
def tkH1 (g : Nat) (r : PS × Int) (x : TXs r.1) : List HA := if r.2 = 0 then [PP g x.1.fg x.1.fcap r.1 x.1.tv x.1.rv] else []
theorem take1_c (g fg fcap : Nat) (p : PS) (tv : FV) (rv : List (Frame × FV)) (hrv : rv.map Prod.fst = p.rest) (N : Nat) (hN : N ≤ 60000) (hp : POk p N) (k : Tok) (hk : TokOk p k) :
    Mut Tryd.prog 9 #[Pv g 0, tokV k] [PP g fg fcap p tv rv] (fun _ : TXs (takeM p k).1 => Iv (takeM p k).2) (fun x => tkH1 g (takeM p k) x) := by
  intro w0 B R w h
  refine (take_c g fg fcap p tv rv hrv N hN hp k hk w0 B R w (Sat.unpackL h)).mono ?_
  rintro e w' ⟨x, he, hs⟩
  refine ⟨x, he, ?_⟩
  unfold tkH at hs
  show Sat w0 B (tkH1 g (takeM p k) x ++ R) w'
  unfold tkH1
  by_cases h0 : (takeM p k).2 = 0
  · rw [if_pos h0]
    simp only [if_pos h0] at hs
    exact Sat.packL hs
  · rw [if_neg h0]
    simp only [if_neg h0] at hs
    exact hs
structure PX0 where
  ad : Option Addr
  cap : Nat
  fp : List Nat
abbrev zeroRe : Array Value := (reCells (.cat []) (.slice none 0 0)).toArray
structure PSt where
  p : PS
  fg : Nat
  fcap : Nat
  tv : FV
  rv : List (Frame × FV)
theorem parse_c (t : List UInt8) (ht0 : t.length ≤ 4611686018427387904) (w : World) (hG : GR w w.heap.size) :
    Pure Tryd.prog 4 #[Sv t] (fun x : PX0 => .tuple #[.agg (reCells (parseM t).tree (.slice x.ad (parseM t).tree.kids.length x.cap)).toArray, .agg #[Iv (parseM t).e, Iv ((parseM t).at_ : Nat)]])
      (fun x => [HA.forest x.fp [(parseM t).tree] (reCells (parseM t).tree (.slice x.ad (parseM t).tree.kids.length x.cap))]) w := by
  have hpm : parseM t = if 512 < t.length then ⟨.cat [], 2, 0⟩ else parseGo (toksM t) ps0 := rfl
  have hfin : ∀ {w0 w' : World} {B : Nat} {R : List HA}, Sat w0 B R w' → Sat w0 B [HA.forest [] [RE.cat []] (reCells (.cat []) (.slice none 0 0))] w' := fun {w0 w' B R} h => by
    have h0 : Sat w0 B [] w' := Sat.tailL (A := R) (by rw [List.append_nil]; exact h)
    exact Sat.forest0 h0 _ _ (fun _ _ => Forest.leaf (.cat []) rfl)
  refine calls_of_ESM TB Tryd.func4 rfl _ Tryd.ntmps4 rfl (Sat.start w) ?_
  refine .gr ?_; repeat constructor
  (refine EL.alloc rfl rfl rfl ?_; intro g2)
  (refine EL.alloc rfl rfl rfl ?_; intro g3)
  refine .gr ?_; repeat constructor
  refine EL.move rfl rfl rfl ?_
  refine EL.lenS rfl rfl rfl rfl rfl ?_
  refine EL.gtr rfl rfl rfl rfl ?_
  refine .gr ?_; repeat constructor
  refine ES.condD rfl (fun hlong => ?_) (fun hshort => ?_)
  · rw [if_pos (by omega)] at hpm
    rw [hpm]
    refine .gr ?_; repeat constructor
    refine EL.buildZ rfl rfl rfl rfl rfl ?_
    refine EL.buildS #[_, .int .i64 0] rfl rfl rfl rfl rfl rfl rfl ?_
    (apply EL.storeAll; exact rfl; exact rfl; exact rfl; exact rfl; exact rfl; (case p => repeat constructor); exact rfl; (case h1 => exact (by first | rfl | exact all1 rfl | (intro u hu; simp only [List.mem_cons, List.not_mem_nil, or_false] at hu; rcases hu with rfl | rfl | rfl | rfl <;> rfl) | (intro u hu; simp at hu; rcases hu with rfl | rfl | rfl | rfl <;> rfl) | (intro u hu; simp at hu; rcases hu with rfl | rfl | rfl <;> rfl) | (intro u hu; simp at hu; rcases hu with rfl | rfl <;> rfl) | (intro u hu; simp at hu; obtain ⟨_, _, rfl⟩ := hu; rfl))))
    (apply EL.storeAll; exact rfl; exact rfl; exact rfl; exact rfl; exact rfl; (case p => repeat constructor); exact rfl; (case h1 => exact (by first | rfl | exact all1 rfl | (intro u hu; simp only [List.mem_cons, List.not_mem_nil, or_false] at hu; rcases hu with rfl | rfl | rfl | rfl <;> rfl) | (intro u hu; simp at hu; rcases hu with rfl | rfl | rfl | rfl <;> rfl) | (intro u hu; simp at hu; rcases hu with rfl | rfl | rfl <;> rfl) | (intro u hu; simp at hu; rcases hu with rfl | rfl <;> rfl) | (intro u hu; simp at hu; obtain ⟨_, _, rfl⟩ := hu; rfl))))
    refine .gr ?_; repeat constructor
    exact PX.retM [] rfl (.nil _) Tryd.results4 (.cons (.blkA rfl rfl rfl (by repeat constructor) rfl) (.cons (.blkA rfl rfl rfl (by repeat constructor) rfl) .nil)) (fun w hs => ⟨⟨none, 0, []⟩, rfl, hfin hs⟩)
  rw [if_neg (by omega)] at hpm
  have hlen : t.length ≤ 512 := by omega
  have ht : t.length ≤ 1073741824 := by omega
  have htl : (toksM t).length ≤ 512 := Nat.le_trans (toks_len t t.length 0 true true) hlen
  have hall := parse_toks_ok t
  refine .gr ?_; repeat constructor
  refine EL.buildZ rfl rfl rfl rfl rfl ?_
  (refine EL.buildSlice1 rfl rfl rfl rfl rfl rfl rfl rfl rfl rfl ?_; intro b13)
  refine EL.buildS #[_, .int .i64 0, .bool false, .bool false, .bool false, .bool false, .bool false, .bool false, .bool false, .bool false, .bool false, .bool false, .int .i64 0] rfl rfl rfl rfl rfl rfl rfl ?_
  (refine EL.box rfl rfl rfl ?_; intro g15)
  (refine EL.alloc rfl rfl rfl ?_; intro g4)
  (apply EL.storeB; exact rfl; exact rfl; exact rfl; exact rfl; exact rfl; exact rfl; (case p => repeat constructor); exact (by first | decide | exact Nat.le_of_ble_eq_true rfl | simp))
  refine .gr ?_; repeat constructor
  refine EL.move rfl rfl rfl ?_
  (refine EL.callX rfl rfl rfl ent8 rfl (tokens_c t) ?_; intro gs)
  refine .gr ?_; repeat constructor
  refine ES.imp (H' := HA.blk gs (.cells #[Sv t] 9) :: HA.blk g4 (.cells #[Pv g15 0] 41) :: PP g15 b13 1 ps0 ⟨none, 0, none, 0, [], []⟩ [] :: HA.blk g2 (.cells zeroRe 27) :: HA.blk g3 (.cells #[Iv 0, Iv 0] 30) :: []) (fun w hs => ?_) ?_
  · have h1 := Sat.forest0 ((hs.nilRow 3 1).nilRow 27 9) [] [] (fun _ _ => .nil)
    have h2 := h1.ent (H' := PB g15 b13 1 1 (PR 0 (List.replicate 10 false) 0) :: FB b13 1 1 (frC none 0 0 none 0 0 0 0) :: KR none 0 0 [] :: ZR none 0 [] :: HA.forest [] [] [] :: HA.blk gs (.cells #[Sv t] 9) :: HA.blk g4 (.cells #[Pv g15 0] 41) :: HA.blk g2 (.cells zeroRe 27) :: HA.blk g3 (.cells #[Iv 0, Iv 0] 30) :: []) (.i (by repeat constructor))
    exact (Sat.packL (T := PH g15 b13 1 ps0 ⟨none, 0, none, 0, [], []⟩ []) h2).ent (.i (by repeat constructor))
  refine ES.rangeFunc (σ := PSt) (τ := Int × Nat) (fun i s => i ≤ (toksM t).length ∧ s.rv.map Prod.fst = s.p.rest ∧ POk s.p i ∧ TksOk ((toksM t).drop i) s.p ∧ parseGo ((toksM t).drop i) s.p = parseM t)
    (fun s => [HA.blk g4 (.cells #[Pv g15 0] 41), PP g15 s.fg s.fcap s.p s.tv s.rv, HA.blk g2 (.cells zeroRe 27), HA.blk g3 (.cells #[Iv 0, Iv 0] 30)])
    (fun c _ r => c = .ret ∧ parseM t = ⟨.cat [], r.1, r.2⟩) (fun r => [HA.blk g2 (.cells zeroRe 27), HA.blk g3 (.cells #[Iv r.1, Iv (r.2 : Nat)] 30)]) ⟨ps0, b13, 1, ⟨none, 0, none, 0, [], []⟩, []⟩ ⟨Nat.zero_le _, rfl, ps0_pok, hall, hpm.symm⟩
    rfl rfl ent14 (tok1_iter gs t ht _ _ hG) (by repeat constructor) (by repeat constructor) (by intro x hx; obtain ⟨_, _, rfl⟩ := List.mem_map.1 hx; rfl) rfl ?_ (fun D s hs => ?_) (fun D c i r hc => ?_)
  · rintro l i ⟨p, fg, fcap, tv, rv⟩ x R1 ⟨hi, hrv, hpo, htk, hgo⟩ hx
    dsimp only at hi hrv hpo htk hgo hx ⊢
    obtain ⟨k, hk, rfl⟩ : ∃ k, (toksM t)[i]? = some k ∧ x = [tokV k] := by
      rw [List.getElem?_map] at hx
      obtain ⟨k, h1, h2⟩ := Option.map_eq_some_iff.1 hx
      exact ⟨k, h1, h2.symm⟩
    have hlt : i < (toksM t).length := (List.getElem?_eq_some_iff.1 hk).1
    have hdrop : (toksM t).drop i = k :: (toksM t).drop (i + 1) := by
      rw [List.drop_eq_getElem_cons hlt, (List.getElem?_eq_some_iff.1 hk).2]
    rw [hdrop] at htk hgo
    obtain ⟨hk1, hk2, hk3, hk4⟩ := htk
    rw [parseGo] at hgo
    refine .gr ?_; repeat constructor
    (refine EL.alloc rfl rfl rfl ?_; intro g5)
    (apply EL.storeAll; exact rfl; exact rfl; exact rfl; exact rfl; exact rfl; (case p => repeat constructor); exact rfl; (case h1 => exact (by first | rfl | exact all1 rfl | (intro u hu; simp only [List.mem_cons, List.not_mem_nil, or_false] at hu; rcases hu with rfl | rfl | rfl | rfl <;> rfl) | (intro u hu; simp at hu; rcases hu with rfl | rfl | rfl | rfl <;> rfl) | (intro u hu; simp at hu; rcases hu with rfl | rfl | rfl <;> rfl) | (intro u hu; simp at hu; rcases hu with rfl | rfl <;> rfl) | (intro u hu; simp at hu; obtain ⟨_, _, rfl⟩ := hu; rfl))))
    refine .gr ?_; repeat constructor
    refine PX.assigned [(2, Pv g2 0), (3, Pv g3 0), (4, Pv g4 0), (5, Pv g5 0)] [HA.blk g5 (.cells (tokCells k) 53), HA.blk g4 (.cells #[Pv g15 0] 41), PP g15 fg fcap p tv rv, HA.blk g2 (.cells zeroRe 27), HA.blk g3 (.cells #[Iv 0, Iv 0] 30)] ⟨rfl, rfl, rfl, rfl, trivial⟩ (.i (by repeat constructor)) (fun R2 => ?_)
    refine .gr ?_; repeat constructor
    (apply EL.loadB; exact rfl; exact rfl; exact rfl; exact rfl; exact rfl; (case hm => repeat constructor); exact rfl)
    (apply EL.loadAggB; exact rfl; exact rfl; exact rfl; exact rfl; exact rfl; (case hm => repeat constructor); exact rfl)
    (refine EL.callM rfl rfl rfl ent9 rfl (take1_c g15 fg fcap p tv rv hrv i (by omega) hpo k hk1) (by repeat constructor) ?_; intro x)
    refine EL.assign rfl rfl rfl ?_
    refine .gr ?_; repeat constructor
    refine EL.move rfl rfl rfl ?_
    refine EL.neqI rfl rfl rfl rfl ?_
    refine .gr ?_; repeat constructor
    refine ES.condN rfl (fun hne => ?_) (fun he => ?_)
    · rw [if_pos hne] at hgo
      have hx0 : tkH1 g15 (takeM p k) x = [] := if_neg hne
      rw [hx0]
      refine .gs ?_; repeat constructor
      refine ES.draw (X := Unit) (fun _ => [(2, Pv g2 0), (3, Pv g3 0), (4, Pv g4 0)]) (fun _ => HA.blk g2 (.cells zeroRe 27) :: HA.blk g3 (.cells #[Iv (takeM p k).2, Iv (k.at_ : Nat)] 30) :: R2) (HA.blk g5 (.cells (tokCells k) 53) :: R2) mixed (.i (by repeat constructor)) ?_ (fun _ => ?_)
      · refine ED.take 1 rfl (by decide +kernel) CutX.no_panic (by decide +kernel) rfl rfl rfl (RV.move rfl) ?_
        refine ED.take 2 rfl (by decide +kernel) CutX.no_panic (by decide +kernel) rfl rfl rfl (RV.fieldAddr rfl rfl rfl rfl rfl rfl) ?_
        refine ED.take 3 rfl (by decide +kernel) CutX.no_panic (by decide +kernel) rfl rfl rfl (RV.loadB rfl rfl rfl (by repeat constructor) rfl) ?_
        refine ED.fork 0 [4] (by decide +kernel) ⟨⟨_, rfl, ?_⟩, ⟨_, rfl, ?_⟩, trivial⟩
        · refine EL.buildZ rfl rfl rfl rfl rfl ?_
          refine ED.next (.i (by repeat constructor)) ?_
          refine ED.fork 4 [5] (by decide +kernel) ⟨⟨_, rfl, ?_⟩, ⟨_, rfl, ?_⟩, trivial⟩
          · (apply EL.build2; exact rfl; exact rfl; exact rfl; exact rfl; exact rfl; exact rfl; exact rfl; exact rfl; exact rfl; exact rfl)
            refine ED.next (.i (by repeat constructor)) ?_
            refine ED.loud 5 rfl (by decide +kernel) ?_
            (apply EL.storeAll; exact rfl; exact rfl; exact rfl; exact rfl; exact rfl; (case p => repeat constructor); exact rfl; (case h1 => exact (by first | rfl | exact all1 rfl | (intro u hu; simp only [List.mem_cons, List.not_mem_nil, or_false] at hu; rcases hu with rfl | rfl | rfl | rfl <;> rfl) | (intro u hu; simp at hu; rcases hu with rfl | rfl | rfl | rfl <;> rfl) | (intro u hu; simp at hu; rcases hu with rfl | rfl | rfl <;> rfl) | (intro u hu; simp at hu; rcases hu with rfl | rfl <;> rfl) | (intro u hu; simp at hu; obtain ⟨_, _, rfl⟩ := hu; rfl))))
            refine ED.next (.i (by repeat constructor)) ?_
            refine ED.last 6 rfl (by decide +kernel) (by decide +kernel) (by decide +kernel) ?_
            (apply EL.storeAll; exact rfl; exact rfl; exact rfl; exact rfl; exact rfl; (case p => repeat constructor); exact rfl; (case h1 => exact (by first | rfl | exact all1 rfl | (intro u hu; simp only [List.mem_cons, List.not_mem_nil, or_false] at hu; rcases hu with rfl | rfl | rfl | rfl <;> rfl) | (intro u hu; simp at hu; rcases hu with rfl | rfl | rfl | rfl <;> rfl) | (intro u hu; simp at hu; rcases hu with rfl | rfl | rfl <;> rfl) | (intro u hu; simp at hu; rcases hu with rfl | rfl <;> rfl) | (intro u hu; simp at hu; obtain ⟨_, _, rfl⟩ := hu; rfl))))
            refine EL.endQ ?_
            exact PX.cutX () ⟨rfl, rfl, rfl, trivial⟩ (.i (by repeat constructor))
          · (apply EL.storeAll; exact rfl; exact rfl; exact rfl; exact rfl; exact rfl; (case p => repeat constructor); exact rfl; (case h1 => exact (by first | rfl | exact all1 rfl | (intro u hu; simp only [List.mem_cons, List.not_mem_nil, or_false] at hu; rcases hu with rfl | rfl | rfl | rfl <;> rfl) | (intro u hu; simp at hu; rcases hu with rfl | rfl | rfl | rfl <;> rfl) | (intro u hu; simp at hu; rcases hu with rfl | rfl | rfl <;> rfl) | (intro u hu; simp at hu; rcases hu with rfl | rfl <;> rfl) | (intro u hu; simp at hu; obtain ⟨_, _, rfl⟩ := hu; rfl))))
            refine ED.next (.i (by repeat constructor)) ?_
            refine ED.loud 4 rfl (by decide +kernel) ?_
            (apply EL.build2; exact rfl; exact rfl; exact rfl; exact rfl; exact rfl; exact rfl; exact rfl; exact rfl; exact rfl; exact rfl)
            refine ED.next (.i (by repeat constructor)) ?_
            refine ED.last 6 rfl (by decide +kernel) (by decide +kernel) (by decide +kernel) ?_
            (apply EL.storeAll; exact rfl; exact rfl; exact rfl; exact rfl; exact rfl; (case p => repeat constructor); exact rfl; (case h1 => exact (by first | rfl | exact all1 rfl | (intro u hu; simp only [List.mem_cons, List.not_mem_nil, or_false] at hu; rcases hu with rfl | rfl | rfl | rfl <;> rfl) | (intro u hu; simp at hu; rcases hu with rfl | rfl | rfl | rfl <;> rfl) | (intro u hu; simp at hu; rcases hu with rfl | rfl | rfl <;> rfl) | (intro u hu; simp at hu; rcases hu with rfl | rfl <;> rfl) | (intro u hu; simp at hu; obtain ⟨_, _, rfl⟩ := hu; rfl))))
            refine EL.endQ ?_
            exact PX.cutX () ⟨rfl, rfl, rfl, trivial⟩ (.i (by repeat constructor))
        · (apply EL.build2; exact rfl; exact rfl; exact rfl; exact rfl; exact rfl; exact rfl; exact rfl; exact rfl; exact rfl; exact rfl)
          refine ED.next (.i (by repeat constructor)) ?_
          refine ED.loud 0 rfl (by decide +kernel) ?_
          refine EL.buildZ rfl rfl rfl rfl rfl ?_
          refine ED.next (.i (by repeat constructor)) ?_
          refine ED.loud 5 rfl (by decide +kernel) ?_
          (apply EL.storeAll; exact rfl; exact rfl; exact rfl; exact rfl; exact rfl; (case p => repeat constructor); exact rfl; (case h1 => exact (by first | rfl | exact all1 rfl | (intro u hu; simp only [List.mem_cons, List.not_mem_nil, or_false] at hu; rcases hu with rfl | rfl | rfl | rfl <;> rfl) | (intro u hu; simp at hu; rcases hu with rfl | rfl | rfl | rfl <;> rfl) | (intro u hu; simp at hu; rcases hu with rfl | rfl | rfl <;> rfl) | (intro u hu; simp at hu; rcases hu with rfl | rfl <;> rfl) | (intro u hu; simp at hu; obtain ⟨_, _, rfl⟩ := hu; rfl))))
          refine ED.next (.i (by repeat constructor)) ?_
          refine ED.last 6 rfl (by decide +kernel) (by decide +kernel) (by decide +kernel) ?_
          (apply EL.storeAll; exact rfl; exact rfl; exact rfl; exact rfl; exact rfl; (case p => repeat constructor); exact rfl; (case h1 => exact (by first | rfl | exact all1 rfl | (intro u hu; simp only [List.mem_cons, List.not_mem_nil, or_false] at hu; rcases hu with rfl | rfl | rfl | rfl <;> rfl) | (intro u hu; simp at hu; rcases hu with rfl | rfl | rfl | rfl <;> rfl) | (intro u hu; simp at hu; rcases hu with rfl | rfl | rfl <;> rfl) | (intro u hu; simp at hu; rcases hu with rfl | rfl <;> rfl) | (intro u hu; simp at hu; obtain ⟨_, _, rfl⟩ := hu; rfl))))
          refine EL.endQ ?_
          exact PX.cutX () ⟨rfl, rfl, rfl, trivial⟩ (.i (by repeat constructor))
      refine .gr ?_; repeat constructor
      exact PX.roundR ((takeM p k).2, k.at_) ⟨rfl, hgo.symm⟩ (.i (by repeat constructor))
    · rw [if_neg (fun h => h he)] at hgo
      have h6 : k.kind ≤ 6 := by
        rcases Nat.lt_or_ge k.kind 7 with h | h
        · omega
        · rw [takeM_7 h] at he; exact absurd he (hk3 (by omega))
      have hx1 : tkH1 g15 (takeM p k) x = [PP g15 x.1.fg x.1.fcap (takeM p k).1 x.1.tv x.1.rv] := if_pos he
      rw [hx1]
      refine .gr ?_; repeat constructor
      exact PX.round ⟨(takeM p k).1, x.1.fg, x.1.fcap, x.1.tv, x.1.rv⟩ ⟨hlt, x.2, takeM_ok hpo hk1 he h6, hk4 he, hgo⟩ (.i (by repeat constructor))
  · obtain ⟨p, fg, fcap, tv, rv⟩ := s
    obtain ⟨_, hrv, hpo, _, hgo⟩ := hs
    rw [List.length_map, List.drop_length] at hgo
    rw [List.length_map] at hpo
    dsimp only at hrv hpo hgo ⊢
    rw [parseGo] at hgo
    have hrl : rv.length = p.rest.length := by rw [← hrv, List.length_map]
    have hr9 : rv.length ≤ 9 := by have := hpo.deep; have := hpo.ok.groups; omega
    have htop := top_c g15 fg rv.length fcap (PR p.groups p.shut p.size) (preC rv ++ tv.cells p.top) (by omega)
    refine ES.imp (H' := markB D :: HA.blk g4 (.cells #[Pv g15 0] 41) :: HA.blk g2 (.cells zeroRe 27) :: HA.blk g3 (.cells #[Iv 0, Iv 0] 30) :: PB g15 fg (rv.length + 1) fcap (PR p.groups p.shut p.size) :: FB fg (rv.length + 1) fcap (preC rv ++ tv.cells p.top) :: KR tv.kad p.top.kids.length tv.kcap tv.kcs :: ZR tv.sad tv.scap p.top.sizes :: HA.forest tv.fp p.top.kids tv.kcs :: restH rv) (fun w hs => ?_) ?_
    · have h1 := hs.ent (H' := PP g15 fg fcap p tv rv :: markB D :: HA.blk g4 (.cells #[Pv g15 0] 41) :: HA.blk g2 (.cells zeroRe 27) :: HA.blk g3 (.cells #[Iv 0, Iv 0] 30) :: []) (.i (by repeat constructor))
      have h2 := (Sat.unpackL h1).perm List.perm_append_comm
      exact h2
    refine .gr ?_; repeat constructor
    (apply EL.loadB; exact rfl; exact rfl; exact rfl; exact rfl; exact rfl; (case hm => repeat constructor); exact rfl)
    refine EL.nilCheck rfl rfl rfl ?_
    refine EL.fieldAddr rfl rfl rfl rfl rfl rfl rfl rfl ?_
    (apply EL.loadB; exact rfl; exact rfl; exact rfl; exact rfl; exact rfl; (case hm => repeat constructor); exact rfl)
    refine EL.lenL rfl rfl rfl rfl rfl ?_
    refine EL.gtr rfl rfl rfl rfl ?_
    refine .gr ?_; repeat constructor
    refine ES.condD rfl (fun hgt => ?_) (fun hle => ?_)
    · have hpe : parseM t = ⟨.cat [], 10, p.top.at_⟩ := by
        rw [← hgo]
        unfold endM
        split
        · rename_i h; rw [h] at hrl; simp only [List.length_nil] at hrl; omega
        · rfl
      rw [hpe]
      refine .gs ?_; repeat constructor
      refine ES.draw (X := Unit) (fun _ => [(2, Pv g2 0), (3, Pv g3 0), (4, Pv g4 0)]) (fun _ => markB D :: HA.blk g2 (.cells zeroRe 27) :: HA.blk g3 (.cells #[Iv 10, Iv (p.top.at_ : Nat)] 30) :: restH rv) (HA.blk g4 (.cells #[Pv g15 0] 41) :: FB fg (rv.length + 1) fcap (preC rv ++ tv.cells p.top) :: restH rv) mixed (.i (by repeat constructor)) ?_ (fun _ => ?_)
      · refine ED.take 1 rfl (by decide +kernel) CutX.no_panic (by decide +kernel) rfl rfl rfl (RV.loadB rfl rfl rfl (by repeat constructor) rfl) ?_
        refine ED.fork 0 [2] (by decide +kernel) ⟨⟨_, rfl, ?_⟩, ⟨_, rfl, ?_⟩, trivial⟩
        · refine EL.buildZ rfl rfl rfl rfl rfl ?_
          refine ED.next (.i (by repeat constructor)) ?_
          refine ED.loud 2 rfl (by decide +kernel) ?_
          (refine EL.callM1 rfl rfl rfl ent10 rfl htop (by repeat constructor) ?_)
          refine ED.next (.i (by repeat constructor)) ?_
          refine ED.take 3 rfl (by decide +kernel) CutX.no_panic (by decide +kernel) rfl rfl rfl (RV.nilCheck rfl) ?_
          refine ED.take 4 rfl (by decide +kernel) CutX.no_panic (by decide +kernel) rfl rfl rfl (RV.fieldAddr rfl rfl rfl rfl rfl rfl) ?_
          refine ED.take 5 rfl (by decide +kernel) CutX.no_panic (by decide +kernel) rfl rfl rfl (RV.loadR rfl rfl rfl (by repeat constructor) (pre_at (preC rv) _ (rv.length * 4) 3 (preC_len rv))) ?_
          refine ED.fork 6 [7] (by decide +kernel) ⟨⟨_, rfl, ?_⟩, ⟨_, rfl, ?_⟩, trivial⟩
          · (apply EL.build2; exact rfl; exact rfl; exact rfl; exact rfl; exact rfl; exact rfl; exact rfl; exact rfl; exact rfl; exact rfl)
            refine ED.next (.i (by repeat constructor)) ?_
            refine ED.loud 7 rfl (by decide +kernel) ?_
            (apply EL.storeAll; exact rfl; exact rfl; exact rfl; exact rfl; exact rfl; (case p => repeat constructor); exact rfl; (case h1 => exact (by first | rfl | exact all1 rfl | (intro u hu; simp only [List.mem_cons, List.not_mem_nil, or_false] at hu; rcases hu with rfl | rfl | rfl | rfl <;> rfl) | (intro u hu; simp at hu; rcases hu with rfl | rfl | rfl | rfl <;> rfl) | (intro u hu; simp at hu; rcases hu with rfl | rfl | rfl <;> rfl) | (intro u hu; simp at hu; rcases hu with rfl | rfl <;> rfl) | (intro u hu; simp at hu; obtain ⟨_, _, rfl⟩ := hu; rfl))))
            refine ED.next (.i (by repeat constructor)) ?_
            refine ED.last 8 rfl (by decide +kernel) (by decide +kernel) (by decide +kernel) ?_
            (apply EL.storeAll; exact rfl; exact rfl; exact rfl; exact rfl; exact rfl; (case p => repeat constructor); exact rfl; (case h1 => exact (by first | rfl | exact all1 rfl | (intro u hu; simp only [List.mem_cons, List.not_mem_nil, or_false] at hu; rcases hu with rfl | rfl | rfl | rfl <;> rfl) | (intro u hu; simp at hu; rcases hu with rfl | rfl | rfl | rfl <;> rfl) | (intro u hu; simp at hu; rcases hu with rfl | rfl | rfl <;> rfl) | (intro u hu; simp at hu; rcases hu with rfl | rfl <;> rfl) | (intro u hu; simp at hu; obtain ⟨_, _, rfl⟩ := hu; rfl))))
            refine EL.endQ ?_
            exact PX.cutX () ⟨rfl, rfl, rfl, trivial⟩ (.i (by repeat constructor))
          · (apply EL.storeAll; exact rfl; exact rfl; exact rfl; exact rfl; exact rfl; (case p => repeat constructor); exact rfl; (case h1 => exact (by first | rfl | exact all1 rfl | (intro u hu; simp only [List.mem_cons, List.not_mem_nil, or_false] at hu; rcases hu with rfl | rfl | rfl | rfl <;> rfl) | (intro u hu; simp at hu; rcases hu with rfl | rfl | rfl | rfl <;> rfl) | (intro u hu; simp at hu; rcases hu with rfl | rfl | rfl <;> rfl) | (intro u hu; simp at hu; rcases hu with rfl | rfl <;> rfl) | (intro u hu; simp at hu; obtain ⟨_, _, rfl⟩ := hu; rfl))))
            refine ED.next (.i (by repeat constructor)) ?_
            refine ED.loud 6 rfl (by decide +kernel) ?_
            (apply EL.build2; exact rfl; exact rfl; exact rfl; exact rfl; exact rfl; exact rfl; exact rfl; exact rfl; exact rfl; exact rfl)
            refine ED.next (.i (by repeat constructor)) ?_
            refine ED.last 8 rfl (by decide +kernel) (by decide +kernel) (by decide +kernel) ?_
            (apply EL.storeAll; exact rfl; exact rfl; exact rfl; exact rfl; exact rfl; (case p => repeat constructor); exact rfl; (case h1 => exact (by first | rfl | exact all1 rfl | (intro u hu; simp only [List.mem_cons, List.not_mem_nil, or_false] at hu; rcases hu with rfl | rfl | rfl | rfl <;> rfl) | (intro u hu; simp at hu; rcases hu with rfl | rfl | rfl | rfl <;> rfl) | (intro u hu; simp at hu; rcases hu with rfl | rfl | rfl <;> rfl) | (intro u hu; simp at hu; rcases hu with rfl | rfl <;> rfl) | (intro u hu; simp at hu; obtain ⟨_, _, rfl⟩ := hu; rfl))))
            refine EL.endQ ?_
            exact PX.cutX () ⟨rfl, rfl, rfl, trivial⟩ (.i (by repeat constructor))
        · (refine EL.callM1 rfl rfl rfl ent10 rfl htop (by repeat constructor) ?_)
          refine ED.next (.i (by repeat constructor)) ?_
          refine ED.take 3 rfl (by decide +kernel) CutX.no_panic (by decide +kernel) rfl rfl rfl (RV.nilCheck rfl) ?_
          refine ED.take 4 rfl (by decide +kernel) CutX.no_panic (by decide +kernel) rfl rfl rfl (RV.fieldAddr rfl rfl rfl rfl rfl rfl) ?_
          refine ED.take 5 rfl (by decide +kernel) CutX.no_panic (by decide +kernel) rfl rfl rfl (RV.loadR rfl rfl rfl (by repeat constructor) (pre_at (preC rv) _ (rv.length * 4) 3 (preC_len rv))) ?_
          refine ED.fork 0 [6] (by decide +kernel) ⟨⟨_, rfl, ?_⟩, ⟨_, rfl, ?_⟩, trivial⟩
          · refine EL.buildZ rfl rfl rfl rfl rfl ?_
            refine ED.next (.i (by repeat constructor)) ?_
            refine ED.fork 6 [7] (by decide +kernel) ⟨⟨_, rfl, ?_⟩, ⟨_, rfl, ?_⟩, trivial⟩
            · (apply EL.build2; exact rfl; exact rfl; exact rfl; exact rfl; exact rfl; exact rfl; exact rfl; exact rfl; exact rfl; exact rfl)
              refine ED.next (.i (by repeat constructor)) ?_
              refine ED.loud 7 rfl (by decide +kernel) ?_
              (apply EL.storeAll; exact rfl; exact rfl; exact rfl; exact rfl; exact rfl; (case p => repeat constructor); exact rfl; (case h1 => exact (by first | rfl | exact all1 rfl | (intro u hu; simp only [List.mem_cons, List.not_mem_nil, or_false] at hu; rcases hu with rfl | rfl | rfl | rfl <;> rfl) | (intro u hu; simp at hu; rcases hu with rfl | rfl | rfl | rfl <;> rfl) | (intro u hu; simp at hu; rcases hu with rfl | rfl | rfl <;> rfl) | (intro u hu; simp at hu; rcases hu with rfl | rfl <;> rfl) | (intro u hu; simp at hu; obtain ⟨_, _, rfl⟩ := hu; rfl))))
              refine ED.next (.i (by repeat constructor)) ?_
              refine ED.last 8 rfl (by decide +kernel) (by decide +kernel) (by decide +kernel) ?_
              (apply EL.storeAll; exact rfl; exact rfl; exact rfl; exact rfl; exact rfl; (case p => repeat constructor); exact rfl; (case h1 => exact (by first | rfl | exact all1 rfl | (intro u hu; simp only [List.mem_cons, List.not_mem_nil, or_false] at hu; rcases hu with rfl | rfl | rfl | rfl <;> rfl) | (intro u hu; simp at hu; rcases hu with rfl | rfl | rfl | rfl <;> rfl) | (intro u hu; simp at hu; rcases hu with rfl | rfl | rfl <;> rfl) | (intro u hu; simp at hu; rcases hu with rfl | rfl <;> rfl) | (intro u hu; simp at hu; obtain ⟨_, _, rfl⟩ := hu; rfl))))
              refine EL.endQ ?_
              exact PX.cutX () ⟨rfl, rfl, rfl, trivial⟩ (.i (by repeat constructor))
            · (apply EL.storeAll; exact rfl; exact rfl; exact rfl; exact rfl; exact rfl; (case p => repeat constructor); exact rfl; (case h1 => exact (by first | rfl | exact all1 rfl | (intro u hu; simp only [List.mem_cons, List.not_mem_nil, or_false] at hu; rcases hu with rfl | rfl | rfl | rfl <;> rfl) | (intro u hu; simp at hu; rcases hu with rfl | rfl | rfl | rfl <;> rfl) | (intro u hu; simp at hu; rcases hu with rfl | rfl | rfl <;> rfl) | (intro u hu; simp at hu; rcases hu with rfl | rfl <;> rfl) | (intro u hu; simp at hu; obtain ⟨_, _, rfl⟩ := hu; rfl))))
              refine ED.next (.i (by repeat constructor)) ?_
              refine ED.loud 6 rfl (by decide +kernel) ?_
              (apply EL.build2; exact rfl; exact rfl; exact rfl; exact rfl; exact rfl; exact rfl; exact rfl; exact rfl; exact rfl; exact rfl)
              refine ED.next (.i (by repeat constructor)) ?_
              refine ED.last 8 rfl (by decide +kernel) (by decide +kernel) (by decide +kernel) ?_
              (apply EL.storeAll; exact rfl; exact rfl; exact rfl; exact rfl; exact rfl; (case p => repeat constructor); exact rfl; (case h1 => exact (by first | rfl | exact all1 rfl | (intro u hu; simp only [List.mem_cons, List.not_mem_nil, or_false] at hu; rcases hu with rfl | rfl | rfl | rfl <;> rfl) | (intro u hu; simp at hu; rcases hu with rfl | rfl | rfl | rfl <;> rfl) | (intro u hu; simp at hu; rcases hu with rfl | rfl | rfl <;> rfl) | (intro u hu; simp at hu; rcases hu with rfl | rfl <;> rfl) | (intro u hu; simp at hu; obtain ⟨_, _, rfl⟩ := hu; rfl))))
              refine EL.endQ ?_
              exact PX.cutX () ⟨rfl, rfl, rfl, trivial⟩ (.i (by repeat constructor))
          · (apply EL.build2; exact rfl; exact rfl; exact rfl; exact rfl; exact rfl; exact rfl; exact rfl; exact rfl; exact rfl; exact rfl)
            refine ED.next (.i (by repeat constructor)) ?_
            refine ED.loud 0 rfl (by decide +kernel) ?_
            refine EL.buildZ rfl rfl rfl rfl rfl ?_
            refine ED.next (.i (by repeat constructor)) ?_
            refine ED.loud 7 rfl (by decide +kernel) ?_
            (apply EL.storeAll; exact rfl; exact rfl; exact rfl; exact rfl; exact rfl; (case p => repeat constructor); exact rfl; (case h1 => exact (by first | rfl | exact all1 rfl | (intro u hu; simp only [List.mem_cons, List.not_mem_nil, or_false] at hu; rcases hu with rfl | rfl | rfl | rfl <;> rfl) | (intro u hu; simp at hu; rcases hu with rfl | rfl | rfl | rfl <;> rfl) | (intro u hu; simp at hu; rcases hu with rfl | rfl | rfl <;> rfl) | (intro u hu; simp at hu; rcases hu with rfl | rfl <;> rfl) | (intro u hu; simp at hu; obtain ⟨_, _, rfl⟩ := hu; rfl))))
            refine ED.next (.i (by repeat constructor)) ?_
            refine ED.last 8 rfl (by decide +kernel) (by decide +kernel) (by decide +kernel) ?_
            (apply EL.storeAll; exact rfl; exact rfl; exact rfl; exact rfl; exact rfl; (case p => repeat constructor); exact rfl; (case h1 => exact (by first | rfl | exact all1 rfl | (intro u hu; simp only [List.mem_cons, List.not_mem_nil, or_false] at hu; rcases hu with rfl | rfl | rfl | rfl <;> rfl) | (intro u hu; simp at hu; rcases hu with rfl | rfl | rfl | rfl <;> rfl) | (intro u hu; simp at hu; rcases hu with rfl | rfl | rfl <;> rfl) | (intro u hu; simp at hu; rcases hu with rfl | rfl <;> rfl) | (intro u hu; simp at hu; obtain ⟨_, _, rfl⟩ := hu; rfl))))
            refine EL.endQ ?_
            exact PX.cutX () ⟨rfl, rfl, rfl, trivial⟩ (.i (by repeat constructor))
      refine .gr ?_; repeat constructor
      exact PX.retM [D] rfl (by repeat constructor) Tryd.results4 (.cons (.blkA rfl rfl rfl (by repeat constructor) rfl) (.cons (.blkA rfl rfl rfl (by repeat constructor) rfl) .nil)) (fun w hs => ⟨⟨none, 0, []⟩, rfl, hfin hs⟩)
    · have hpe : parseM t = ⟨.cat p.top.kids, 0, 0⟩ := by
        rw [← hgo]
        unfold endM
        split
        · rfl
        · rename_i h; have : p.rest ≠ [] := h; have : 0 < p.rest.length := List.length_pos_iff.2 this; omega
      rw [hpe]
      refine .gr ?_; repeat constructor
      (apply EL.loadB; exact rfl; exact rfl; exact rfl; exact rfl; exact rfl; (case hm => repeat constructor); exact rfl)
      (refine EL.callM1 rfl rfl rfl ent10 rfl htop (by repeat constructor) ?_)
      refine EL.nilCheck rfl rfl rfl ?_
      refine EL.fieldAddr rfl rfl rfl rfl rfl rfl rfl rfl ?_
      refine EL.loadR rfl rfl rfl rfl rfl (by repeat constructor) (pre_at (preC rv) _ (rv.length * 4) 0 (preC_len rv)) ?_
      refine EL.buildS (reCells (.cat p.top.kids) (.slice tv.kad p.top.kids.length tv.kcap)).toArray rfl rfl rfl rfl rfl rfl rfl ?_
      refine EL.buildZ rfl rfl rfl rfl rfl ?_
      (apply EL.storeAll; exact rfl; exact rfl; exact rfl; exact rfl; exact rfl; (case p => repeat constructor); exact rfl; (case h1 => exact (by first | rfl | exact all1 rfl | (intro u hu; simp only [List.mem_cons, List.not_mem_nil, or_false] at hu; rcases hu with rfl | rfl | rfl | rfl <;> rfl) | (intro u hu; simp at hu; rcases hu with rfl | rfl | rfl | rfl <;> rfl) | (intro u hu; simp at hu; rcases hu with rfl | rfl | rfl <;> rfl) | (intro u hu; simp at hu; rcases hu with rfl | rfl <;> rfl) | (intro u hu; simp at hu; obtain ⟨_, _, rfl⟩ := hu; rfl))))
      (apply EL.storeAll; exact rfl; exact rfl; exact rfl; exact rfl; exact rfl; (case p => repeat constructor); exact rfl; (case h1 => exact (by first | rfl | exact all1 rfl | (intro u hu; simp only [List.mem_cons, List.not_mem_nil, or_false] at hu; rcases hu with rfl | rfl | rfl | rfl <;> rfl) | (intro u hu; simp at hu; rcases hu with rfl | rfl | rfl | rfl <;> rfl) | (intro u hu; simp at hu; rcases hu with rfl | rfl | rfl <;> rfl) | (intro u hu; simp at hu; rcases hu with rfl | rfl <;> rfl) | (intro u hu; simp at hu; obtain ⟨_, _, rfl⟩ := hu; rfl))))
      refine .gr ?_; repeat constructor
      refine PX.retM [D] rfl (by repeat constructor) Tryd.results4 (.cons (.blkA rfl rfl rfl (by repeat constructor) rfl) (.cons (.blkA rfl rfl rfl (by repeat constructor) rfl) .nil)) (fun w hs => ⟨⟨tv.kad, tv.kcap, (Value.slice tv.kad p.top.kids.length tv.kcap).ownBlock.toList ++ tv.fp⟩, rfl, ?_⟩)
      exact Sat.ent (Sat.seal (.cat p.top.kids) rfl (hs.ent (H' := KR tv.kad p.top.kids.length tv.kcap tv.kcs :: HA.forest tv.fp p.top.kids tv.kcs :: restH rv) (.i (by repeat constructor)))) (.i (by repeat constructor))
  · obtain ⟨rfl, hc⟩ := hc
    rw [hc]
    refine .gr ?_; repeat constructor
    exact PX.retM [D] rfl (by repeat constructor) Tryd.results4 (.cons (.blkA rfl rfl rfl (by repeat constructor) rfl) (.cons (.blkA rfl rfl rfl (by repeat constructor) rfl) .nil)) (fun w hs => ⟨⟨none, 0, []⟩, rfl, hfin hs⟩)
end Go.Proofs.YtcoajnpneableaaDoor
namespace Go.Proofs.YtcoajnpneableaaDoor
open Go Go.RowKit Sl
set_option maxRecDepth 100000
set_option maxHeartbeats 8000000
set_option linter.unusedVariables false
set_option linter.unusedSimpArgs false
attribute [local irreducible] ES EL PX wps
end Go.Proofs.YtcoajnpneableaaDoor
namespace Go.Proofs.YtcoajnpneableaaDoor
open Go Go.RowKit Sl
set_option maxRecDepth 100000
set_option maxHeartbeats 8000000
set_option linter.unusedVariables false
set_option linter.unusedSimpArgs false
attribute [local irreducible] ES EL PX wps
def Node (S : Nat → Prop) (w : World) (g off : Nat) (r : RE) : Prop :=
  ∃ ad cap cs0, Reads S w (some ⟨g, off, none⟩) (reCells r (.slice ad r.kids.length cap)) ∧ Forest S w r.kids cs0 ∧ Reads S w ad cs0 ∧ r.kids.length ≤ cap
abbrev NodeRd (w : World) (B g off : Nat) (r : RE) : Prop := Node (· < B) w g off r
theorem Node.mono {S S' : Nat → Prop} {w : World} {g off : Nat} {r : RE} (h : Node S w g off r) (hs : ∀ g, S g → S' g) : Node S' w g off r := by
  obtain ⟨ad, cap, cs0, h1, h2, h3, h4⟩ := h
  exact ⟨ad, cap, cs0, h1.mono hs, h2.mono hs, h3.mono hs, h4⟩
theorem Node.loc {S : Nat → Prop} {w w' : World} {g off : Nat} {r : RE} (h : Node S w g off r) (hl : ∀ g, S g → w'.heap[g]? = w.heap[g]?) : Node S w' g off r := by
  obtain ⟨ad, cap, cs0, h1, h2, h3, h4⟩ := h
  exact ⟨ad, cap, cs0, h1.loc hl, h2.loc hl, h3.loc hl, h4⟩
theorem NodeRd.beneath {w0 w : World} {B B' g off : Nat} {r : RE} (h : NodeRd w0 B g off r) (hb : Below B w0 w) (hB : B ≤ B') : NodeRd w B' g off r :=
  (h.loc (fun g hg => hb.block g hg)).mono (fun g hg => Nat.lt_of_lt_of_le hg hB)
theorem NodeRd.sat {w0 w : World} {B g off : Nat} {H : List HA} {r : RE} (h : NodeRd w0 B g off r) (hs : Sat w0 B H w) : NodeRd w w.heap.size g off r := h.beneath hs.below hs.base
theorem Reads.take9 {S : Nat → Prop} {w : World} {g off : Nat} {cs : List Value} (h : Reads S w (some ⟨g, off, none⟩) cs) (i : Nat) (hi : i * 9 < cs.length) : Reads S w (some ⟨g, off + i * 9, none⟩) ((cs.drop (i * 9)).take 9) := by
  intro _
  obtain ⟨g', off', h1, h2, ca, ta, h3, h4⟩ := h (fun e => by subst e; simp at hi)
  simp only [Option.some.injEq, Addr.mk.injEq] at h1
  obtain ⟨rfl, rfl, _⟩ := h1
  refine ⟨g, off + i * 9, rfl, h2, ca, ta, h3, fun j v hj => ?_⟩
  rw [List.getElem?_take] at hj
  split at hj
  · rw [List.getElem?_drop] at hj
    have := h4 _ v hj
    rwa [← Nat.add_assoc] at this
  · cases hj
theorem Node.of_row {S : Nat → Prop} {w : World} {g off i : Nat} {ks : List RE} {cs : List Value} {k : RE} (hf : Forest S w ks cs) (hr : Reads S w (some ⟨g, off, none⟩) cs) (hi : ks[i]? = some k) : Node S w g (off + i * 9) k := by
  obtain ⟨ad, cap, cs0, h1, h2, h3, h4⟩ := hf.get i k hi
  have hlt : i < ks.length := (List.getElem?_eq_some_iff.1 hi).1
  have hr9 := hr.take9 i (by rw [hf.len]; omega)
  rw [h1] at hr9
  exact ⟨ad, cap, cs0, hr9, h2, h3, h4⟩
theorem Node.kids {S : Nat → Prop} {w : World} {g off : Nat} {r : RE} (h : Node S w g off r) : ∃ ad cap, Reads S w (some ⟨g, off, none⟩) (reCells r (.slice ad r.kids.length cap)) ∧ (r.kids ≠ [] → ∃ g' o', ad = some ⟨g', o', none⟩ ∧ ∀ i k, r.kids[i]? = some k → Node S w g' (o' + i * 9) k) := by
  obtain ⟨ad, cap, cs0, h1, h2, h3, _⟩ := h
  refine ⟨ad, cap, h1, fun hne => ?_⟩
  have hl := h2.len
  have hpos : 0 < r.kids.length := List.length_pos_iff.2 hne
  obtain ⟨g', o', rfl, _⟩ := h3 (fun e => by rw [e] at hl; simp at hl; omega)
  exact ⟨g', o', rfl, fun i k hi => Node.of_row h2 h3 hi⟩
abbrev KidsRd (w : World) (B : Nat) (ks : List RE) (ad : Option Addr) : Prop := ∀ i k, ks[i]? = some k → ∃ g o, ad = some ⟨g, o, none⟩ ∧ NodeRd w B g (o + i * 9) k
theorem kids_of {w0 w : World} {B : Nat} {H : List HA} {r : RE} {ad : Option Addr} {cap : Nat} {fp : List Nat} (hs : Sat w0 B H w) (h2 : Mem H (HA.forest fp [r] (reCells r (.slice ad r.kids.length cap)))) : KidsRd w w.heap.size r.kids ad := by
  have hf := Forest.sat hs h2
  obtain ⟨ad', cap', cs0, e1, e2, e3, _⟩ := hf.get 0 r rfl
  have e4 : reCells r (.slice ad r.kids.length cap) = reCells r (.slice ad' r.kids.length cap') := by
    rw [← e1]; simp [reCells]
  simp only [reCells, List.cons.injEq, Value.slice.injEq, and_true, true_and] at e4
  obtain ⟨rfl, rfl⟩ := e4
  intro i k hi
  have hl := e2.len
  have hlt : i < r.kids.length := (List.getElem?_eq_some_iff.1 hi).1
  obtain ⟨g, o, rfl, _⟩ := e3 (fun e => by rw [e] at hl; simp at hl; omega)
  exact ⟨g, o, rfl, Node.of_row e2 e3 hi⟩
mutual
def RE.sz : RE → Nat
  | .cat ks => szL ks + 1
  | .group _ k => k.sz + 1
  | .rep _ _ k => k.sz + 1
  | _ => 1
def szL : List RE → Nat
  | [] => 0
  | k :: ks => k.sz + szL ks
end
theorem sz_mem : ∀ {ks : List RE} {k : RE}, k ∈ ks → k.sz ≤ szL ks
  | k' :: ks, k, h => by
    rw [szL]
    rcases List.mem_cons.1 h with rfl | h
    · omega
    · have := sz_mem h; omega
theorem sz_pos (r : RE) : 0 < r.sz := by cases r <;> simp [RE.sz]
theorem kids_lt {r k : RE} (h : k ∈ r.kids) : k.sz < r.sz := by
  cases r <;> simp only [RE.kids, List.mem_cons, List.not_mem_nil, or_false] at h
  · have := sz_mem h
    simp only [RE.sz]; omega
  · subst h; simp only [RE.sz]; omega
  · subst h; simp only [RE.sz]; omega
theorem wv_inj {x y : UInt64} (h : Wv x = Wv y) : x = y := by
  simp only [Value.int.injEq, true_and] at h
  exact UInt64.toNat_inj.1 (by omega)
theorem iv_inj {x y : Nat} (h : Iv (x : Nat) = Iv (y : Nat)) : x = y := by
  simp only [Value.int.injEq, true_and] at h
  omega
theorem bs_inj {s t : BS} (ha : s.a = t.a) (hb : s.b = t.b) (hc : s.c = t.c) (hd : s.d = t.d) : s = t := by
  cases s; cases t; simp_all
theorem re_ext {r r' : RE} (h1 : r.kind = r'.kind) (h2 : r.set = r'.set) (h3 : r.lo = r'.lo) (h4 : r.hi = r'.hi) (h5 : r.num = r'.num) (h6 : r.kids = r'.kids) : r = r' := by
  cases r <;> cases r' <;> simp_all [RE.kind, RE.set, RE.lo, RE.hi, RE.num, RE.kids]
theorem Reads.one {S S' : Nat → Prop} {w : World} {g off : Nat} {cs cs' : List Value} (h : Reads S w (some ⟨g, off, none⟩) cs) (h' : Reads S' w (some ⟨g, off, none⟩) cs') (hl : cs.length = cs'.length) : cs = cs' := by
  apply List.ext_getElem hl
  intro i h1 h2
  have e1 := h.cell i _ (List.getElem?_eq_getElem h1)
  have e2 := h'.cell i _ (List.getElem?_eq_getElem h2)
  rw [e1] at e2
  exact Option.some.inj e2
theorem node_inj {S S' : Nat → Prop} {w : World} (n : Nat) : ∀ (g off : Nat) (r r' : RE), r.sz ≤ n → Node S w g off r → Node S' w g off r' → r = r' := by
  induction n with
  | zero => intro g off r r' hr; exact absurd (sz_pos r) (by omega)
  | succ n ih =>
    intro g off r r' hr h h'
    obtain ⟨ad, cap, hrd, hk⟩ := h.kids
    obtain ⟨ad', cap', hrd', hk'⟩ := h'.kids
    have he := hrd.one hrd' rfl
    simp only [reCells, List.cons.injEq, and_true] at he
    obtain ⟨h1, h2, h3, h4, h5, h6, h7, h8, h9⟩ := he
    simp only [Value.slice.injEq] at h9
    obtain ⟨rfl, hl, rfl⟩ := h9
    refine re_ext (iv_inj h1) (bs_inj (wv_inj h2) (wv_inj h3) (wv_inj h4) (wv_inj h5)) (iv_inj h6) (by simpa using h7) (iv_inj h8) ?_
    apply List.ext_getElem hl
    intro i a1 a2
    obtain ⟨g1, o1, e1, q1⟩ := hk (by intro e; rw [e] at a1; simp at a1)
    obtain ⟨g2, o2, e2, q2⟩ := hk' (by intro e; rw [e] at a2; simp at a2)
    rw [e1] at e2
    simp only [Option.some.injEq, Addr.mk.injEq] at e2
    obtain ⟨rfl, rfl, _⟩ := e2
    refine ih g1 (o1 + i * 9) _ _ ?_ (q1 i _ (List.getElem?_eq_getElem a1)) (q2 i _ (List.getElem?_eq_getElem a2))
    have := kids_lt (List.getElem_mem a1)
    omega
theorem Node.inj {S S' : Nat → Prop} {w : World} {g off : Nat} {r r' : RE} (h : Node S w g off r) (h' : Node S' w g off r') : r = r' := node_inj r.sz g off r r' (Nat.le_refl _) h h'
mutual
def RE.fine : RE → Prop
  | .cat ks => ks.length ≤ 1024 ∧ fineL ks
  | .group n k => n ≤ 9 ∧ k.fine
  | .rep lo hi k => lo ≤ 255 ∧ -1 ≤ hi ∧ hi ≤ 255 ∧ (0 ≤ hi → (lo : Int) ≤ hi) ∧ k.fine
  | .back n => 1 ≤ n ∧ n ≤ 9
  | _ => True
def fineL : List RE → Prop
  | [] => True
  | k :: ks => k.fine ∧ fineL ks
end
theorem fineL_iff : ∀ ks : List RE, fineL ks ↔ ∀ k ∈ ks, k.fine
  | [] => by simp [fineL]
  | k :: ks => by rw [fineL, fineL_iff ks]; simp
theorem fine_kid {r k : RE} (h : r.fine) (hk : k ∈ r.kids) : k.fine := by
  cases r <;> simp only [RE.kids, List.mem_cons, List.not_mem_nil, or_false] at hk
  · exact (fineL_iff _).1 h.2 k hk
  · subst hk; exact h.2
  · subst hk; exact h.2.2.2.2
theorem fine_len {r : RE} (h : r.fine) : r.kids.length ≤ 1024 := by
  cases r <;> simp only [RE.kids, List.length_nil, List.length_singleton] <;> first | omega | exact h.1
end Go.Proofs.YtcoajnpneableaaDoor
namespace Go.Proofs.YtcoajnpneableaaDoor
open Go Go.RowKit Sl
set_option maxRecDepth 100000
set_option maxHeartbeats 8000000
set_option linter.unusedVariables false
set_option linter.unusedSimpArgs false
attribute [local irreducible] ES EL PX wps
def kidsFine (p : PS) : Prop := ∀ f ∈ p.top :: p.rest, ∀ k ∈ f.kids, k.fine
theorem put_fine {p : PS} {r : RE} {n : Nat} {sz : Nat} (h : kidsFine p) (hr : r.fine) : kidsFine { p with top := p.top.put r n, size := sz } := by
  intro f hf k hk
  rcases List.mem_cons.1 hf with rfl | hf
  · simp only [put_kids, List.mem_append, List.mem_singleton] at hk
    rcases hk with hk | rfl
    · exact h p.top (by simp) k hk
    · exact hr
  · exact h f (by simp [hf]) k hk
theorem takeM_fine {p : PS} {N : Nat} (hN : N ≤ 1024) {k : Tok} (hp : POk p N) (hk : TokOk p k) (h6 : k.kind ≤ 6) (he : (takeM p k).2 = 0) (h : kidsFine p) : kidsFine (takeM p k).1 := by
  rcases (by omega : k.kind = 0 ∨ k.kind = 1 ∨ k.kind = 2 ∨ k.kind = 3 ∨ k.kind = 4 ∨ k.kind = 5 ∨ k.kind = 6) with h0 | h0 | h0 | h0 | h0 | h0 | h0
  · rw [takeM_0 h0]
    exact put_fine h (by simp [RE.fine])
  · rw [takeM_1 h0]
    exact put_fine h (by simp [RE.fine])
  · rw [takeM_2 h0]
    exact put_fine h (by simp [RE.fine])
  · rw [takeM_3 h0] at he ⊢
    split at he
    · cases he
    · rename_i hg
      rw [if_neg hg]
      intro f hf
      rcases List.mem_cons.1 hf with rfl | hf
      · simp
      · exact h f hf
  · rw [takeM_4 h0] at he ⊢
    obtain ⟨top, rest, groups, shut, size⟩ := p
    cases rest with
    | nil => cases he
    | cons f r =>
      dsimp only
      have hn := hp.ok.num top (by simp)
      have hkl := hp.kids top (by simp)
      intro f' hf k' hk'
      rcases List.mem_cons.1 hf with rfl | hf
      · simp only [put_kids, List.mem_append, List.mem_singleton] at hk'
        rcases hk' with hk' | rfl
        · exact h f (by simp) k' hk'
        · refine ⟨hn, by omega, (fineL_iff _).2 (fun k2 hk2 => h top (by simp) k2 hk2)⟩
      · exact h f' (by simp [hf]) k' hk'
  · rw [takeM_5 h0] at he ⊢
    obtain ⟨hne, q1, q2, q3, q4, q5⟩ := hk.rep h0
    dsimp only
    have hl := dropLast_last p.top.kids .bol hne
    intro f hf k' hk'
    rcases List.mem_cons.1 hf with rfl | hf
    · simp only [List.mem_append, List.mem_singleton] at hk'
      rcases hk' with hk' | rfl
      · exact h p.top (by simp) k' (by rw [hl]; exact List.mem_append_left _ hk')
      · have hlast : p.top.kids.getLastD .bol ∈ p.top.kids := by
          have hm : p.top.kids.getLastD .bol ∈ p.top.kids.dropLast ++ [p.top.kids.getLastD .bol] := List.mem_append_right _ List.mem_cons_self
          rwa [← hl] at hm
        refine ⟨by omega, q3, q4, fun hh => ?_, h p.top (by simp) _ hlast⟩
        have := q5 hh
        omega
    · exact h f (by simp [hf]) k' hk'
  · rw [takeM_6 h0] at he ⊢
    split at he
    · rename_i hs
      rw [if_pos hs]
      have := hk.back h0
      exact put_fine h ⟨by omega, by omega⟩
    · cases he
theorem parseGo_fine : ∀ (ks : List Tok) (p : PS) (N : Nat), N + ks.length ≤ 1024 → POk p N → TksOk ks p → kidsFine p → (parseGo ks p).tree.fine
  | [], p, N, hN, hp, _, h => by
    rw [parseGo]
    unfold endM
    split
    · exact ⟨by have := hp.kids p.top (by simp); omega, (fineL_iff _).2 (fun k hk => h p.top (by simp) k hk)⟩
    · exact ⟨by simp, trivial⟩
  | k :: ks, p, N, hN, hp, hk, h => by
    rw [parseGo]
    simp only [List.length_cons] at hN
    obtain ⟨h1, h2, h3, h4⟩ := hk
    split
    · exact ⟨by simp, trivial⟩
    · rename_i he
      have he := Classical.not_not.1 he
      have h6 : k.kind ≤ 6 := by
        rcases Nat.lt_or_ge k.kind 7 with hh | hh
        · omega
        · rw [takeM_7 hh] at he; exact absurd he (h3 (by omega))
      exact parseGo_fine ks _ (N + 1) (by omega) (takeM_ok hp h1 he h6) (h4 he) (takeM_fine (by omega) hp h1 h6 he h)
theorem parse_fine (t : List UInt8) : (parseM t).tree.fine := by
  unfold parseM
  split
  · exact ⟨by simp, trivial⟩
  · rename_i ht
    have := toks_len t t.length 0 true true
    exact parseGo_fine _ _ 0 (by unfold toksM; omega) ps0_pok (parse_toks_ok t) (by intro f hf k hk; simp [ps0] at hf; subst hf; simp at hk)
end Go.Proofs.YtcoajnpneableaaDoor
namespace Go.Proofs.YtcoajnpneableaaDoor.Sl
open Go Go.RowKit
set_option linter.unusedVariables false
set_option linter.unusedSimpArgs false
structure MK where
  g : Nat
  off : Nat
  is : List Int
deriving DecidableEq
def MK.cells (k : MK) : Array Value := (Pv k.g k.off :: k.is.map fun i : Int => Iv i).toArray
abbrev MK.val (k : MK) : Value := .agg k.cells
section eq
variable {P : Program} (T : TyTab P)
end eq
theorem Sat.rules {w0 w : World} {B : Nat} {Hs Hs' R : List HA} (h : Sat w0 B (Hs ++ R) w) (hf : (fps Hs).Perm (fps Hs')) (hA : (∀ X ∈ Hs, X.holds w) → ∀ Y ∈ Hs', Y.holds w) : Sat w0 B (Hs' ++ R) w := by
  have hp : (fps (Hs ++ R)).Perm (fps (Hs' ++ R)) := by rw [fps_append, fps_append]; exact hf.append_right _
  refine ⟨h.below, h.base, hp.nodup_iff.1 h.nodup, fun g hg => h.lo g (hp.mem_iff.2 hg), fun X hX => ?_⟩
  rcases List.mem_append.1 hX with hX | hX
  · exact hA (fun Y hY => h.all Y (by simp [hY])) X hX
  · exact h.all X (by simp [hX])
section maps
variable {C : Cx} {all : Array Oper} {ops : List Oper} {Q : Qt} {E : Env} {H H' R : List HA} {d ty t t' : Nat} {pos : String} {af : Array Edge} {gd : Option (Nat × Bool)} {x y z : Operand}
theorem RV.loadOldA {ti : TI} {g off j : Nat} {cs vs : List Value} (hx : E.ev x = some (Pv g (off + j))) (ht : C.T.f t = some ti) (hu : ti.agg = true) (hl : ti.size = vs.length) (hpos : 0 < vs.length) (hr : Rd C.w0 C.B (some ⟨g, off, none⟩) cs) (hc : ∀ i u, vs[i]? = some u → cs[j + i]? = some u) : RunV C E H ⟨some d, .load t x, ty, pos, af, gd⟩ (.agg vs.toArray) :=
  RV.loadAgg (cs := vs) hx ht hu hl (fun w hs i u hi => by
    have hci := hc i u hi
    have hne : cs ≠ [] := fun e => by rw [e] at hci; simp at hci
    obtain ⟨g', off', h1, h2, h3⟩ := hr.sat hs hne
    simp only [Option.some.injEq, Addr.mk.injEq] at h1
    obtain ⟨rfl, rfl, _⟩ := h1
    have := h3 (j + i) u hci
    rw [add_n, Nat.add_assoc]
    exact this)
end maps
end Go.Proofs.YtcoajnpneableaaDoor.Sl
namespace Go.Proofs.YtcoajnpneableaaDoor.Sl
open Go Go.RowKit
set_option linter.unusedVariables false
set_option linter.unusedSimpArgs false
section cuts
variable {C : Cx} {cs : List Code} {Q : Qt} {E E' : Env} {H H' : List HA}
end cuts
section slices
variable {C : Cx} {E : Env} {H : List HA} {d ty t : Nat} {pos : String} {af : Array Edge} {gd : Option (Nat × Bool)} {x y z : Operand}
end slices
section funcs
variable {C : Cx} {all : Array Oper} {ops : List Oper} {Q : Qt} {E : Env} {H R : List HA} {d ty t t' : Nat} {pos : String} {af : Array Edge} {gd : Option (Nat × Bool)} {x y : Operand}
end funcs
end Go.Proofs.YtcoajnpneableaaDoor.Sl
namespace Go.Proofs.YtcoajnpneableaaDoor
open Go Go.RowKit Sl
set_option maxRecDepth 100000
set_option maxHeartbeats 8000000
set_option linter.unusedVariables false
set_option linter.unusedSimpArgs false
attribute [local irreducible] ES EL PX wps
abbrev w64 (x : Int) : Int := IntKind.i64.wrap x
structure Me where
  pos : Int
  grp : Int
  least : Int
  most : Int
  back : Bool
  bol : Bool
  eol : Bool
def Me.cells (m : Me) : List Value := [Iv m.pos, Iv m.grp, Iv m.least, Iv m.most, .bool m.back, .bool m.bol, .bool m.eol]
def Me.zero : Me := ⟨0, 0, 0, 0, false, false, false⟩
def moreM (a b : Int) : Int := if a < 0 ∨ b < 0 then -1 else w64 (a + b)
def manyM (a h : Int) : Int := if a = 0 ∨ h = 0 then 0 else if a < 0 ∨ h < 0 then -1 else w64 (a * h)
def Me.plus (m n : Me) : Me := ⟨w64 (m.pos + n.pos), w64 (m.grp + n.grp), w64 (m.least + n.least), moreM m.most n.most, m.back || n.back, m.bol || n.bol, m.eol || n.eol⟩
def timesI (lo : Nat) (hi : Int) : Int := if hi < 0 then max (lo : Int) 1 else hi
def finM (k lo : Nat) (hi : Int) (m : Me) : Me :=
  if k = 1 then { m with pos := 1, least := 1, most := 1 }
  else if k = 2 then { m with bol := true }
  else if k = 3 then { m with eol := true }
  else if k = 4 then { m with grp := w64 (m.grp + 1) }
  else if k = 6 then { m with pos := 1, most := -1, back := true }
  else if k = 5 then { m with pos := w64 (m.pos * timesI lo hi), least := w64 (m.least * lo), most := manyM m.most hi }
  else m
mutual
def measM : RE → Me
  | .byte _ => finM 1 0 0 Me.zero
  | .bol => finM 2 0 0 Me.zero
  | .eol => finM 3 0 0 Me.zero
  | .back _ => finM 6 0 0 Me.zero
  | .cat ks => measL ks Me.zero
  | .group _ k => finM 4 0 0 (Me.zero.plus (measM k))
  | .rep lo hi k => finM 5 lo hi (Me.zero.plus (measM k))
def measL : List RE → Me → Me
  | [], m => m
  | k :: ks, m => measL ks (m.plus (measM k))
end
theorem meas_eq (r : RE) : measM r = finM r.kind r.lo r.hi (measL r.kids Me.zero) := by
  cases r <;> simp only [RE.kind, RE.lo, RE.hi, RE.kids] <;> rw [measM] <;> first | rfl | (rw [measL]; rfl) | (rw [measL, measL])
theorem more_c (a b : Int) (w : World) : Pure Tryd.prog 21 #[Iv a, Iv b] (fun _ : Unit => Iv (moreM a b)) (fun _ => []) w := by
  refine calls_of_ES TB Tryd.func21 rfl _ Tryd.ntmps21 rfl (Sat.start w) ?_
  refine .go ?_; repeat constructor
  refine EL.assign rfl rfl rfl ?_
  refine .go ?_; repeat constructor
  refine EL.cutX (X := Unit) (fun _ => [(0, Iv a), (1, Iv b), (10, .bool (decide (a < 0 ∨ b < 0)))]) (fun _ => []) ?_ (fun _ => ?_)
  · refine .go ?_; repeat constructor
    refine EL.move rfl rfl rfl ?_
    refine EL.lss rfl rfl rfl rfl ?_
    refine EL.move rfl rfl rfl ?_
    first | refine EL.splitD (d := 7) rfl (fun hp7 => ?_) (fun hp7 => ?_) | refine EL.splitN (d := 7) rfl (fun hp7 => ?_) (fun hp7 => ?_) | refine EL.splitB (d := 7) rfl (fun hp7 => ?_) (fun hp7 => ?_)
    · refine EL.pass rfl rfl rfl ?_
      refine EL.pass rfl rfl rfl ?_
      refine EL.pickT rfl rfl rfl rfl ?_
      exact EL.endX () ⟨rfl, rfl, getA rfl (congrArg Value.bool (by rw [Bool.eq_iff_iff]; simp only [decide_eq_true_eq, true_iff]; omega)), trivial⟩ (.i (by repeat constructor))
    · refine EL.move rfl rfl rfl ?_
      refine EL.lss rfl rfl rfl rfl ?_
      refine EL.pickF rfl rfl rfl rfl ?_
      exact EL.endX () ⟨rfl, rfl, getA rfl (congrArg Value.bool (by rw [Bool.eq_iff_iff]; simp only [decide_eq_true_eq, true_iff]; omega)), trivial⟩ (.i (by repeat constructor))
  refine ES.condD rfl (fun h => ?_) (fun h => ?_)
  · refine .go ?_; repeat constructor
    refine EL.assign rfl rfl rfl ?_
    refine .go ?_; repeat constructor
    exact PX.ret rfl Tryd.results21 (.cons (.tmp rfl) .nil) (fun w hs => ⟨(), by unfold moreM; rw [if_pos h]; rfl, hs.ent (.i (by repeat constructor))⟩)
  · refine .go ?_; repeat constructor
    refine EL.move rfl rfl rfl ?_
    refine EL.move rfl rfl rfl ?_
    refine EL.add (w64 (a + b)) rfl rfl rfl rfl rfl ?_
    refine EL.assign rfl rfl rfl ?_
    refine .go ?_; repeat constructor
    exact PX.ret rfl Tryd.results21 (.cons (.tmp rfl) .nil) (fun w hs => ⟨(), by unfold moreM; rw [if_neg h]; rfl, hs.ent (.i (by repeat constructor))⟩)
theorem many_c (a b : Int) (w : World) : Pure Tryd.prog 22 #[Iv a, Iv b] (fun _ : Unit => Iv (manyM a b)) (fun _ => []) w := by
  refine calls_of_ES TB Tryd.func22 rfl _ Tryd.ntmps22 rfl (Sat.start w) ?_
  refine .go ?_; repeat constructor
  refine EL.assign rfl rfl rfl ?_
  refine .go ?_; repeat constructor
  refine EL.cutX (X := Unit) (fun _ => [(0, Iv a), (1, Iv b), (5, .bool (decide (a = 0 ∨ b = 0)))]) (fun _ => []) ?_ (fun _ => ?_)
  · refine .go ?_; repeat constructor
    refine EL.move rfl rfl rfl ?_
    refine EL.eqlI rfl rfl rfl rfl ?_
    refine EL.move rfl rfl rfl ?_
    first | refine EL.splitD (d := 8) rfl (fun hp8 => ?_) (fun hp8 => ?_) | refine EL.splitN (d := 8) rfl (fun hp8 => ?_) (fun hp8 => ?_) | refine EL.splitB (d := 8) rfl (fun hp8 => ?_) (fun hp8 => ?_)
    · refine EL.pass rfl rfl rfl ?_
      refine EL.pass rfl rfl rfl ?_
      refine EL.pickT rfl rfl rfl rfl ?_
      refine EL.assign rfl rfl rfl ?_
      exact EL.endX () ⟨rfl, rfl, getA rfl (congrArg Value.bool (by rw [Bool.eq_iff_iff]; simp only [decide_eq_true_eq, true_iff]; omega)), trivial⟩ (.i (by repeat constructor))
    · refine EL.move rfl rfl rfl ?_
      refine EL.eqlI rfl rfl rfl rfl ?_
      refine EL.pickF rfl rfl rfl rfl ?_
      refine EL.assign rfl rfl rfl ?_
      exact EL.endX () ⟨rfl, rfl, getA rfl (congrArg Value.bool (by rw [Bool.eq_iff_iff]; simp only [decide_eq_true_eq, true_iff]; omega)), trivial⟩ (.i (by repeat constructor))
  refine ES.condD rfl (fun h => ?_) (fun h => ?_)
  · refine .go ?_; repeat constructor
    refine EL.assign rfl rfl rfl ?_
    refine .go ?_; repeat constructor
    exact PX.ret rfl Tryd.results22 (.cons (.tmp rfl) .nil) (fun w hs => ⟨(), by unfold manyM; rw [if_pos h]; rfl, hs.ent (.i (by repeat constructor))⟩)
  refine .go ?_; repeat constructor
  refine EL.cutX (X := Unit) (fun _ => [(0, Iv a), (1, Iv b), (12, .bool (decide (a < 0 ∨ b < 0)))]) (fun _ => []) ?_ (fun _ => ?_)
  · refine .go ?_; repeat constructor
    refine EL.move rfl rfl rfl ?_
    refine EL.lss rfl rfl rfl rfl ?_
    refine EL.move rfl rfl rfl ?_
    first | refine EL.splitD (d := 15) rfl (fun hp15 => ?_) (fun hp15 => ?_) | refine EL.splitN (d := 15) rfl (fun hp15 => ?_) (fun hp15 => ?_) | refine EL.splitB (d := 15) rfl (fun hp15 => ?_) (fun hp15 => ?_)
    · refine EL.pass rfl rfl rfl ?_
      refine EL.pass rfl rfl rfl ?_
      refine EL.pickT rfl rfl rfl rfl ?_
      refine EL.assign rfl rfl rfl ?_
      exact EL.endX () ⟨rfl, rfl, getA rfl (congrArg Value.bool (by rw [Bool.eq_iff_iff]; simp only [decide_eq_true_eq, true_iff]; omega)), trivial⟩ (.i (by repeat constructor))
    · refine EL.move rfl rfl rfl ?_
      refine EL.lss rfl rfl rfl rfl ?_
      refine EL.pickF rfl rfl rfl rfl ?_
      refine EL.assign rfl rfl rfl ?_
      exact EL.endX () ⟨rfl, rfl, getA rfl (congrArg Value.bool (by rw [Bool.eq_iff_iff]; simp only [decide_eq_true_eq, true_iff]; omega)), trivial⟩ (.i (by repeat constructor))
  refine ES.condD rfl (fun h2 => ?_) (fun h2 => ?_)
  · refine .go ?_; repeat constructor
    refine EL.assign rfl rfl rfl ?_
    refine .go ?_; repeat constructor
    exact PX.ret rfl Tryd.results22 (.cons (.tmp rfl) .nil) (fun w hs => ⟨(), by unfold manyM; rw [if_neg h, if_pos h2]; rfl, hs.ent (.i (by repeat constructor))⟩)
  · refine .go ?_; repeat constructor
    refine EL.move rfl rfl rfl ?_
    refine EL.move rfl rfl rfl ?_
    refine EL.mul (w64 (a * b)) rfl rfl rfl rfl rfl ?_
    refine EL.assign rfl rfl rfl ?_
    refine .go ?_; repeat constructor
    exact PX.ret rfl Tryd.results22 (.cons (.tmp rfl) .nil) (fun w hs => ⟨(), by unfold manyM; rw [if_neg h, if_neg h2]; rfl, hs.ent (.i (by repeat constructor))⟩)
structure MS where
  i : Nat
  m : Me
theorem of_n (n : Nat) : ∀ r : RE, r.sz ≤ n → r.fine → ∀ (ad : Option Addr) (cap : Nat) (w : World), KidsRd w w.heap.size r.kids ad →
    Pure Tryd.prog 11 #[.agg (reCells r (.slice ad r.kids.length cap)).toArray] (fun _ : Unit => .agg (measM r).cells.toArray) (fun _ => []) w := by
  induction n with
  | zero => intro r hr; exact absurd (sz_pos r) (by omega)
  | succ n ih =>
    intro r hsz hfine ad cap w hkids
    have hkl := fine_len hfine
    rw [meas_eq r]
    obtain ⟨KM, hKM⟩ : ∃ KM, KM = measL r.kids Me.zero := ⟨_, rfl⟩
    rw [← hKM]
    refine calls_of_ES TB Tryd.func11 rfl _ Tryd.ntmps11 rfl (Sat.start w) ?_
    refine .go ?_; repeat constructor
    (refine EL.box rfl rfl rfl ?_; intro g1)
    (refine EL.alloc rfl rfl rfl ?_; intro g2)
    refine .go ?_; repeat constructor
    (refine EL.alloc rfl rfl rfl ?_; intro g3)
    refine .go ?_; repeat constructor
    refine EL.fieldAddr rfl rfl rfl rfl rfl rfl rfl rfl ?_
    (apply EL.loadB; exact rfl; exact rfl; exact rfl; exact rfl; exact rfl; (case hm => repeat constructor); exact rfl)
    refine EL.lenL rfl rfl rfl rfl rfl ?_
    refine EL.move rfl rfl rfl ?_
    refine .go ?_; repeat constructor
    refine ES.loop (σ := MS) (fun z => z.i ≤ r.kids.length ∧ measL (r.kids.drop z.i) z.m = KM) (fun z => [(1, Pv g1 0), (2, Pv g2 0), (3, Pv g3 0), (9, .slice ad r.kids.length cap), (10, Iv (r.kids.length : Nat)), (11, Iv (z.i : Nat))])
      (fun z => HA.blk g3 (.cells z.m.cells.toArray 34) :: HA.blk g2 (.cells Me.zero.cells.toArray 34) :: HA.blk g1 (.cells (reCells r (.slice ad r.kids.length cap)).toArray 27) :: []) (fun z => r.kids.length - z.i) ⟨0, Me.zero⟩ ⟨Nat.zero_le _, by rw [List.drop_zero]; exact hKM.symm⟩ ⟨rfl, rfl, rfl, rfl, rfl, rfl, trivial⟩ (.i (by repeat constructor)) ?_
    rintro ⟨i, m⟩ ⟨hi, hgo⟩
    dsimp only at hi hgo ⊢
    refine .go ?_; repeat constructor
    refine EL.lss rfl rfl rfl rfl ?_
    refine .go ?_; repeat constructor
    refine ES.condD rfl (fun hlt => ?_) (fun hge => ?_)
    · have hlt' : i < r.kids.length := by omega
      obtain ⟨k, hki⟩ : ∃ k, r.kids[i]? = some k := ⟨_, List.getElem?_eq_getElem hlt'⟩
      have hmem := List.mem_of_getElem? hki
      have hks := kids_lt hmem
      obtain ⟨kg, ko, rfl, hkn⟩ := hkids i k hki
      obtain ⟨kad, kcap, hkrd, hkk⟩ := hkn.kids
      have hkrd2 : Rd w w.heap.size (some ⟨kg, ko + i * 9, none⟩) (reCells k (.slice kad k.kids.length kcap)) := hkrd.rd
      rw [List.drop_eq_getElem_cons hlt', show r.kids[i] = k from (List.getElem?_eq_some_iff.1 hki).2, measL] at hgo
      have hrec := ih k (by omega) (fine_kid hfine hmem) kad kcap
      generalize measM k = n at hgo hrec
      refine .go ?_; repeat constructor
      refine EL.indexAddrL rfl rfl rfl rfl rfl rfl rfl (by omega) ?_
      refine EL.loadOldA (j := 0) (vs := reCells k (.slice kad k.kids.length kcap)) rfl rfl rfl rfl rfl (by simp [reCells]) rfl hkrd2 (fun i u hi => by rw [Nat.zero_add]; exact hi) ?_
      (refine EL.alloc rfl rfl rfl ?_; intro g5)
      (apply EL.storeAll; exact rfl; exact rfl; exact rfl; exact rfl; exact rfl; (case p => repeat constructor); exact rfl; (case h1 => exact (by first | rfl | exact all1 rfl | (intro u hu; simp only [List.mem_cons, List.not_mem_nil, or_false] at hu; rcases hu with rfl | rfl | rfl | rfl <;> rfl) | (intro u hu; simp at hu; rcases hu with rfl | rfl | rfl | rfl <;> rfl) | (intro u hu; simp at hu; rcases hu with rfl | rfl | rfl <;> rfl) | (intro u hu; simp at hu; rcases hu with rfl | rfl <;> rfl) | (intro u hu; simp at hu; obtain ⟨_, _, rfl⟩ := hu; rfl))))
      refine .go ?_; repeat constructor
      refine .go ?_; repeat constructor
      (apply EL.loadAggB; exact rfl; exact rfl; exact rfl; exact rfl; exact rfl; (case hm => repeat constructor); exact rfl)
      refine EL.callPw rfl rfl rfl ent11 rfl (fun w' hs => hrec w' (fun i' k' hi' => by obtain ⟨g', o', e1, e2⟩ := hkk (by intro e; rw [e] at hi'; simp at hi'); exact ⟨g', o', e1, NodeRd.sat (e2 i' k' hi') hs⟩)) ?_
      (refine EL.alloc rfl rfl rfl ?_; intro g6)
      (apply EL.storeAll; exact rfl; exact rfl; exact rfl; exact rfl; exact rfl; (case p => repeat constructor); exact rfl; (case h1 => exact (by first | rfl | exact all1 rfl | (intro u hu; simp only [List.mem_cons, List.not_mem_nil, or_false] at hu; rcases hu with rfl | rfl | rfl | rfl <;> rfl) | (intro u hu; simp at hu; rcases hu with rfl | rfl | rfl | rfl <;> rfl) | (intro u hu; simp at hu; rcases hu with rfl | rfl | rfl <;> rfl) | (intro u hu; simp at hu; rcases hu with rfl | rfl <;> rfl) | (intro u hu; simp at hu; obtain ⟨_, _, rfl⟩ := hu; rfl))))
      refine .go ?_; repeat constructor
      refine .go ?_; repeat constructor
      refine EL.fieldAddr rfl rfl rfl rfl rfl rfl rfl rfl ?_
      (apply EL.loadB; exact rfl; exact rfl; exact rfl; exact rfl; exact rfl; (case hm => repeat constructor); exact rfl)
      refine EL.fieldAddr rfl rfl rfl rfl rfl rfl rfl rfl ?_
      (apply EL.loadB; exact rfl; exact rfl; exact rfl; exact rfl; exact rfl; (case hm => repeat constructor); exact rfl)
      refine EL.add (w64 (m.pos + n.pos)) rfl rfl rfl rfl rfl ?_
      refine EL.fieldAddr rfl rfl rfl rfl rfl rfl rfl rfl ?_
      (apply EL.storeB; exact rfl; exact rfl; exact rfl; exact rfl; exact rfl; exact rfl; (case p => repeat constructor); exact (by first | decide | exact Nat.le_of_ble_eq_true rfl | simp))
      refine .go ?_; repeat constructor
      refine EL.fieldAddr rfl rfl rfl rfl rfl rfl rfl rfl ?_
      (apply EL.loadB; exact rfl; exact rfl; exact rfl; exact rfl; exact rfl; (case hm => repeat constructor); exact rfl)
      refine EL.fieldAddr rfl rfl rfl rfl rfl rfl rfl rfl ?_
      (apply EL.loadB; exact rfl; exact rfl; exact rfl; exact rfl; exact rfl; (case hm => repeat constructor); exact rfl)
      refine EL.add (w64 (m.grp + n.grp)) rfl rfl rfl rfl rfl ?_
      refine EL.fieldAddr rfl rfl rfl rfl rfl rfl rfl rfl ?_
      (apply EL.storeB; exact rfl; exact rfl; exact rfl; exact rfl; exact rfl; exact rfl; (case p => repeat constructor); exact (by first | decide | exact Nat.le_of_ble_eq_true rfl | simp))
      refine .go ?_; repeat constructor
      refine EL.fieldAddr rfl rfl rfl rfl rfl rfl rfl rfl ?_
      (apply EL.loadB; exact rfl; exact rfl; exact rfl; exact rfl; exact rfl; (case hm => repeat constructor); exact rfl)
      refine EL.fieldAddr rfl rfl rfl rfl rfl rfl rfl rfl ?_
      (apply EL.loadB; exact rfl; exact rfl; exact rfl; exact rfl; exact rfl; (case hm => repeat constructor); exact rfl)
      refine EL.add (w64 (m.least + n.least)) rfl rfl rfl rfl rfl ?_
      refine EL.fieldAddr rfl rfl rfl rfl rfl rfl rfl rfl ?_
      (apply EL.storeB; exact rfl; exact rfl; exact rfl; exact rfl; exact rfl; exact rfl; (case p => repeat constructor); exact (by first | decide | exact Nat.le_of_ble_eq_true rfl | simp))
      refine .go ?_; repeat constructor
      refine EL.fieldAddr rfl rfl rfl rfl rfl rfl rfl rfl ?_
      (apply EL.loadB; exact rfl; exact rfl; exact rfl; exact rfl; exact rfl; (case hm => repeat constructor); exact rfl)
      refine EL.fieldAddr rfl rfl rfl rfl rfl rfl rfl rfl ?_
      (apply EL.loadB; exact rfl; exact rfl; exact rfl; exact rfl; exact rfl; (case hm => repeat constructor); exact rfl)
      refine EL.callP rfl rfl rfl ent21 rfl (more_c m.most n.most) ?_
      refine EL.fieldAddr rfl rfl rfl rfl rfl rfl rfl rfl ?_
      (apply EL.storeB; exact rfl; exact rfl; exact rfl; exact rfl; exact rfl; exact rfl; (case p => repeat constructor); exact (by first | decide | exact Nat.le_of_ble_eq_true rfl | simp))
      refine .go ?_; repeat constructor
      refine EL.cutX (X := Unit) (fun _ => [(1, Pv g1 0), (2, Pv g2 0), (3, Pv g3 0), (9, .slice (some ⟨kg, ko, none⟩) r.kids.length cap), (10, Iv (r.kids.length : Nat)), (11, Iv (i : Nat)), (6, Pv g6 0)]) (fun _ => HA.blk g3 (.cells #[Iv (w64 (m.pos + n.pos)), Iv (w64 (m.grp + n.grp)), Iv (w64 (m.least + n.least)), Iv (moreM m.most n.most), .bool (m.back || n.back), .bool (m.bol), .bool (m.eol)] 34) :: HA.blk g6 (.cells n.cells.toArray 34) :: HA.blk g2 (.cells Me.zero.cells.toArray 34) :: HA.blk g1 (.cells (reCells r (.slice (some ⟨kg, ko, none⟩) r.kids.length cap)).toArray 27) :: []) ?_ (fun _ => ?_)
      · refine .go ?_; repeat constructor
        refine EL.fieldAddr rfl rfl rfl rfl rfl rfl rfl rfl ?_
        (apply EL.loadB; exact rfl; exact rfl; exact rfl; exact rfl; exact rfl; (case hm => repeat constructor); exact rfl)
        refine EL.move rfl rfl rfl ?_
        first | refine EL.splitD (d := 43) rfl (fun hp43 => ?_) (fun hp43 => ?_) | refine EL.splitN (d := 43) rfl (fun hp43 => ?_) (fun hp43 => ?_) | refine EL.splitB (d := 43) rfl (fun hp43 => ?_) (fun hp43 => ?_)
        · refine EL.pass rfl rfl rfl ?_
          refine EL.pass rfl rfl rfl ?_
          refine EL.pickT rfl rfl rfl rfl ?_
          refine EL.fieldAddr rfl rfl rfl rfl rfl rfl rfl rfl ?_
          (apply EL.storeB; exact rfl; exact rfl; exact rfl; exact rfl; exact rfl; exact rfl; (case p => repeat constructor); exact (by first | decide | exact Nat.le_of_ble_eq_true rfl | simp))
          exact EL.endX () ⟨rfl, rfl, rfl, rfl, rfl, rfl, rfl, trivial⟩ (by rw [hp43]; exact (.i (by repeat constructor)))
        · refine EL.fieldAddr rfl rfl rfl rfl rfl rfl rfl rfl ?_
          (apply EL.loadB; exact rfl; exact rfl; exact rfl; exact rfl; exact rfl; (case hm => repeat constructor); exact rfl)
          refine EL.pickF rfl rfl rfl rfl ?_
          refine EL.fieldAddr rfl rfl rfl rfl rfl rfl rfl rfl ?_
          (apply EL.storeB; exact rfl; exact rfl; exact rfl; exact rfl; exact rfl; exact rfl; (case p => repeat constructor); exact (by first | decide | exact Nat.le_of_ble_eq_true rfl | simp))
          exact EL.endX () ⟨rfl, rfl, rfl, rfl, rfl, rfl, rfl, trivial⟩ (by rw [hp43]; exact (.i (by repeat constructor)))
      refine .go ?_; repeat constructor
      refine EL.cutX (X := Unit) (fun _ => [(1, Pv g1 0), (2, Pv g2 0), (3, Pv g3 0), (9, .slice (some ⟨kg, ko, none⟩) r.kids.length cap), (10, Iv (r.kids.length : Nat)), (11, Iv (i : Nat)), (6, Pv g6 0)]) (fun _ => HA.blk g3 (.cells #[Iv (w64 (m.pos + n.pos)), Iv (w64 (m.grp + n.grp)), Iv (w64 (m.least + n.least)), Iv (moreM m.most n.most), .bool (m.back || n.back), .bool (m.bol || n.bol), .bool (m.eol)] 34) :: HA.blk g6 (.cells n.cells.toArray 34) :: HA.blk g2 (.cells Me.zero.cells.toArray 34) :: HA.blk g1 (.cells (reCells r (.slice (some ⟨kg, ko, none⟩) r.kids.length cap)).toArray 27) :: []) ?_ (fun _ => ?_)
      · refine .go ?_; repeat constructor
        refine EL.fieldAddr rfl rfl rfl rfl rfl rfl rfl rfl ?_
        (apply EL.loadB; exact rfl; exact rfl; exact rfl; exact rfl; exact rfl; (case hm => repeat constructor); exact rfl)
        refine EL.move rfl rfl rfl ?_
        first | refine EL.splitD (d := 50) rfl (fun hp50 => ?_) (fun hp50 => ?_) | refine EL.splitN (d := 50) rfl (fun hp50 => ?_) (fun hp50 => ?_) | refine EL.splitB (d := 50) rfl (fun hp50 => ?_) (fun hp50 => ?_)
        · refine EL.pass rfl rfl rfl ?_
          refine EL.pass rfl rfl rfl ?_
          refine EL.pickT rfl rfl rfl rfl ?_
          refine EL.fieldAddr rfl rfl rfl rfl rfl rfl rfl rfl ?_
          (apply EL.storeB; exact rfl; exact rfl; exact rfl; exact rfl; exact rfl; exact rfl; (case p => repeat constructor); exact (by first | decide | exact Nat.le_of_ble_eq_true rfl | simp))
          exact EL.endX () ⟨rfl, rfl, rfl, rfl, rfl, rfl, rfl, trivial⟩ (by rw [hp50]; exact (.i (by repeat constructor)))
        · refine EL.fieldAddr rfl rfl rfl rfl rfl rfl rfl rfl ?_
          (apply EL.loadB; exact rfl; exact rfl; exact rfl; exact rfl; exact rfl; (case hm => repeat constructor); exact rfl)
          refine EL.pickF rfl rfl rfl rfl ?_
          refine EL.fieldAddr rfl rfl rfl rfl rfl rfl rfl rfl ?_
          (apply EL.storeB; exact rfl; exact rfl; exact rfl; exact rfl; exact rfl; exact rfl; (case p => repeat constructor); exact (by first | decide | exact Nat.le_of_ble_eq_true rfl | simp))
          exact EL.endX () ⟨rfl, rfl, rfl, rfl, rfl, rfl, rfl, trivial⟩ (by rw [hp50]; exact (.i (by repeat constructor)))
      refine .go ?_; repeat constructor
      refine EL.cutX (X := Unit) (fun _ => [(1, Pv g1 0), (2, Pv g2 0), (3, Pv g3 0), (9, .slice (some ⟨kg, ko, none⟩) r.kids.length cap), (10, Iv (r.kids.length : Nat)), (11, Iv (i : Nat)), (6, Pv g6 0)]) (fun _ => HA.blk g3 (.cells #[Iv (w64 (m.pos + n.pos)), Iv (w64 (m.grp + n.grp)), Iv (w64 (m.least + n.least)), Iv (moreM m.most n.most), .bool (m.back || n.back), .bool (m.bol || n.bol), .bool (m.eol || n.eol)] 34) :: HA.blk g6 (.cells n.cells.toArray 34) :: HA.blk g2 (.cells Me.zero.cells.toArray 34) :: HA.blk g1 (.cells (reCells r (.slice (some ⟨kg, ko, none⟩) r.kids.length cap)).toArray 27) :: []) ?_ (fun _ => ?_)
      · refine .go ?_; repeat constructor
        refine EL.fieldAddr rfl rfl rfl rfl rfl rfl rfl rfl ?_
        (apply EL.loadB; exact rfl; exact rfl; exact rfl; exact rfl; exact rfl; (case hm => repeat constructor); exact rfl)
        refine EL.move rfl rfl rfl ?_
        first | refine EL.splitD (d := 57) rfl (fun hp57 => ?_) (fun hp57 => ?_) | refine EL.splitN (d := 57) rfl (fun hp57 => ?_) (fun hp57 => ?_) | refine EL.splitB (d := 57) rfl (fun hp57 => ?_) (fun hp57 => ?_)
        · refine EL.pass rfl rfl rfl ?_
          refine EL.pass rfl rfl rfl ?_
          refine EL.pickT rfl rfl rfl rfl ?_
          refine EL.fieldAddr rfl rfl rfl rfl rfl rfl rfl rfl ?_
          (apply EL.storeB; exact rfl; exact rfl; exact rfl; exact rfl; exact rfl; exact rfl; (case p => repeat constructor); exact (by first | decide | exact Nat.le_of_ble_eq_true rfl | simp))
          exact EL.endX () ⟨rfl, rfl, rfl, rfl, rfl, rfl, rfl, trivial⟩ (by rw [hp57]; exact (.i (by repeat constructor)))
        · refine EL.fieldAddr rfl rfl rfl rfl rfl rfl rfl rfl ?_
          (apply EL.loadB; exact rfl; exact rfl; exact rfl; exact rfl; exact rfl; (case hm => repeat constructor); exact rfl)
          refine EL.pickF rfl rfl rfl rfl ?_
          refine EL.fieldAddr rfl rfl rfl rfl rfl rfl rfl rfl ?_
          (apply EL.storeB; exact rfl; exact rfl; exact rfl; exact rfl; exact rfl; exact rfl; (case p => repeat constructor); exact (by first | decide | exact Nat.le_of_ble_eq_true rfl | simp))
          exact EL.endX () ⟨rfl, rfl, rfl, rfl, rfl, rfl, rfl, trivial⟩ (by rw [hp57]; exact (.i (by repeat constructor)))
      refine .go ?_; repeat constructor
      refine EL.add1 rfl rfl rfl rfl (by omega) ?_
      refine EL.move rfl rfl rfl ?_
      refine .go ?_; repeat constructor
      exact PX.loop ⟨i + 1, m.plus n⟩ ⟨hlt', hgo⟩ (by simp only; omega) ⟨rfl, rfl, rfl, rfl, rfl, rfl, trivial⟩ (.i (by repeat constructor))
    · obtain rfl : i = r.kids.length := by omega
      rw [List.drop_length, measL] at hgo
      subst hgo
      refine .go ?_; repeat constructor
      refine EL.fieldAddr rfl rfl rfl rfl rfl rfl rfl rfl ?_
      (apply EL.loadB; exact rfl; exact rfl; exact rfl; exact rfl; exact rfl; (case hm => repeat constructor); exact rfl)
      repeat (first | apply EL.nil | apply ES.seq | apply ES.skip)
      refine ES.cutC (X := Unit) (fun _ => [(1, Pv g1 0), (2, Pv g2 0), (3, Pv g3 0)]) (fun _ => HA.blk g3 (.cells (finM r.kind r.lo r.hi m).cells.toArray 34) :: HA.blk g2 (.cells Me.zero.cells.toArray 34) :: HA.blk g1 (.cells (reCells r (.slice ad r.kids.length cap)).toArray 27) :: []) ?_ (fun _ => ?_)
      · refine .go ?_; repeat constructor
        refine EL.eqlI rfl rfl rfl rfl ?_
        refine EL.assign rfl rfl rfl ?_
        refine .go ?_; repeat constructor
        refine ES.condD rfl (fun h1 => ?_) (fun h1 => ?_)
        · have hk : r.kind = 1 := by have h : ((r.kind : Nat) : Int) = 1 := h1; omega
          have e : finM r.kind r.lo r.hi m = { m with pos := 1, least := 1, most := 1 } := by rw [hk]; rfl
          rw [e]
          refine .go ?_; repeat constructor
          refine EL.fieldAddr rfl rfl rfl rfl rfl rfl rfl rfl ?_
          (apply EL.storeB; exact rfl; exact rfl; exact rfl; exact rfl; exact rfl; exact rfl; (case p => repeat constructor); exact (by first | decide | exact Nat.le_of_ble_eq_true rfl | simp))
          refine EL.fieldAddr rfl rfl rfl rfl rfl rfl rfl rfl ?_
          (apply EL.storeB; exact rfl; exact rfl; exact rfl; exact rfl; exact rfl; exact rfl; (case p => repeat constructor); exact (by first | decide | exact Nat.le_of_ble_eq_true rfl | simp))
          refine EL.fieldAddr rfl rfl rfl rfl rfl rfl rfl rfl ?_
          (apply EL.storeB; exact rfl; exact rfl; exact rfl; exact rfl; exact rfl; exact rfl; (case p => repeat constructor); exact (by first | decide | exact Nat.le_of_ble_eq_true rfl | simp))
          refine .go ?_; repeat constructor
          exact PX.cutX () ⟨rfl, rfl, rfl, trivial⟩ (.i (by repeat constructor))
        have hk1 : ¬ r.kind = 1 := by have h : ¬ ((r.kind : Nat) : Int) = 1 := h1; omega
        refine .go ?_; repeat constructor
        refine EL.eqlI rfl rfl rfl rfl ?_
        refine EL.assign rfl rfl rfl ?_
        refine .go ?_; repeat constructor
        refine ES.condD rfl (fun h2 => ?_) (fun h2 => ?_)
        · have hk : r.kind = 2 := by have h : ((r.kind : Nat) : Int) = 2 := h2; omega
          have e : finM r.kind r.lo r.hi m = { m with bol := true } := by rw [hk]; rfl
          rw [e]
          refine .go ?_; repeat constructor
          refine EL.fieldAddr rfl rfl rfl rfl rfl rfl rfl rfl ?_
          (apply EL.storeB; exact rfl; exact rfl; exact rfl; exact rfl; exact rfl; exact rfl; (case p => repeat constructor); exact (by first | decide | exact Nat.le_of_ble_eq_true rfl | simp))
          refine .go ?_; repeat constructor
          exact PX.cutX () ⟨rfl, rfl, rfl, trivial⟩ (.i (by repeat constructor))
        have hk2 : ¬ r.kind = 2 := by have h : ¬ ((r.kind : Nat) : Int) = 2 := h2; omega
        refine .go ?_; repeat constructor
        refine EL.eqlI rfl rfl rfl rfl ?_
        refine EL.assign rfl rfl rfl ?_
        refine .go ?_; repeat constructor
        refine ES.condD rfl (fun h3 => ?_) (fun h3 => ?_)
        · have hk : r.kind = 3 := by have h : ((r.kind : Nat) : Int) = 3 := h3; omega
          have e : finM r.kind r.lo r.hi m = { m with eol := true } := by rw [hk]; rfl
          rw [e]
          refine .go ?_; repeat constructor
          refine EL.fieldAddr rfl rfl rfl rfl rfl rfl rfl rfl ?_
          (apply EL.storeB; exact rfl; exact rfl; exact rfl; exact rfl; exact rfl; exact rfl; (case p => repeat constructor); exact (by first | decide | exact Nat.le_of_ble_eq_true rfl | simp))
          refine .go ?_; repeat constructor
          exact PX.cutX () ⟨rfl, rfl, rfl, trivial⟩ (.i (by repeat constructor))
        have hk3 : ¬ r.kind = 3 := by have h : ¬ ((r.kind : Nat) : Int) = 3 := h3; omega
        refine .go ?_; repeat constructor
        refine EL.eqlI rfl rfl rfl rfl ?_
        refine EL.assign rfl rfl rfl ?_
        refine .go ?_; repeat constructor
        refine ES.condD rfl (fun h4 => ?_) (fun h4 => ?_)
        · have hk : r.kind = 4 := by have h : ((r.kind : Nat) : Int) = 4 := h4; omega
          have e : finM r.kind r.lo r.hi m = { m with grp := w64 (m.grp + 1) } := by rw [hk]; rfl
          rw [e]
          refine .go ?_; repeat constructor
          refine EL.fieldAddr rfl rfl rfl rfl rfl rfl rfl rfl ?_
          (apply EL.loadB; exact rfl; exact rfl; exact rfl; exact rfl; exact rfl; (case hm => repeat constructor); exact rfl)
          refine EL.add (w64 (m.grp + 1)) rfl rfl rfl rfl rfl ?_
          refine EL.fieldAddr rfl rfl rfl rfl rfl rfl rfl rfl ?_
          (apply EL.storeB; exact rfl; exact rfl; exact rfl; exact rfl; exact rfl; exact rfl; (case p => repeat constructor); exact (by first | decide | exact Nat.le_of_ble_eq_true rfl | simp))
          refine .go ?_; repeat constructor
          exact PX.cutX () ⟨rfl, rfl, rfl, trivial⟩ (.i (by repeat constructor))
        have hk4 : ¬ r.kind = 4 := by have h : ¬ ((r.kind : Nat) : Int) = 4 := h4; omega
        refine .go ?_; repeat constructor
        refine EL.eqlI rfl rfl rfl rfl ?_
        refine EL.assign rfl rfl rfl ?_
        refine .go ?_; repeat constructor
        refine ES.condD rfl (fun h6 => ?_) (fun h6 => ?_)
        · have hk : r.kind = 6 := by have h : ((r.kind : Nat) : Int) = 6 := h6; omega
          have e : finM r.kind r.lo r.hi m = { m with pos := 1, most := -1, back := true } := by rw [hk]; rfl
          rw [e]
          refine .go ?_; repeat constructor
          refine EL.fieldAddr rfl rfl rfl rfl rfl rfl rfl rfl ?_
          (apply EL.storeB; exact rfl; exact rfl; exact rfl; exact rfl; exact rfl; exact rfl; (case p => repeat constructor); exact (by first | decide | exact Nat.le_of_ble_eq_true rfl | simp))
          refine EL.fieldAddr rfl rfl rfl rfl rfl rfl rfl rfl ?_
          (apply EL.storeB; exact rfl; exact rfl; exact rfl; exact rfl; exact rfl; exact rfl; (case p => repeat constructor); exact (by first | decide | exact Nat.le_of_ble_eq_true rfl | simp))
          refine EL.fieldAddr rfl rfl rfl rfl rfl rfl rfl rfl ?_
          (apply EL.storeB; exact rfl; exact rfl; exact rfl; exact rfl; exact rfl; exact rfl; (case p => repeat constructor); exact (by first | decide | exact Nat.le_of_ble_eq_true rfl | simp))
          refine .go ?_; repeat constructor
          exact PX.cutX () ⟨rfl, rfl, rfl, trivial⟩ (.i (by repeat constructor))
        have hk6 : ¬ r.kind = 6 := by have h : ¬ ((r.kind : Nat) : Int) = 6 := h6; omega
        refine .go ?_; repeat constructor
        refine EL.eqlI rfl rfl rfl rfl ?_
        refine EL.assign rfl rfl rfl ?_
        refine .go ?_; repeat constructor
        refine ES.condD rfl (fun h5 => ?_) (fun h5 => ?_)
        rotate_left
        · have hk5 : ¬ r.kind = 5 := by have h : ¬ ((r.kind : Nat) : Int) = 5 := h5; omega
          have e : finM r.kind r.lo r.hi m = m := by unfold finM; rw [if_neg hk1, if_neg hk2, if_neg hk3, if_neg hk4, if_neg hk6, if_neg hk5]
          rw [e]
          refine .go ?_; repeat constructor
          exact PX.cutX () ⟨rfl, rfl, rfl, trivial⟩ (.i (by repeat constructor))
        have hk : r.kind = 5 := by have h : ((r.kind : Nat) : Int) = 5 := h5; omega
        have e : finM r.kind r.lo r.hi m = { m with pos := w64 (m.pos * timesI r.lo r.hi), least := w64 (m.least * r.lo), most := manyM m.most r.hi } := by rw [hk]; rfl
        rw [e]
        refine .go ?_; repeat constructor
        refine EL.fieldAddr rfl rfl rfl rfl rfl rfl rfl rfl ?_
        (apply EL.loadB; exact rfl; exact rfl; exact rfl; exact rfl; exact rfl; (case hm => repeat constructor); exact rfl)
        refine EL.assign rfl rfl rfl ?_
        refine .go ?_; repeat constructor
        refine EL.move rfl rfl rfl ?_
        refine EL.lss rfl rfl rfl rfl ?_
        refine .go ?_; repeat constructor
        refine ES.cutC (X := Unit) (fun _ => [(1, Pv g1 0), (2, Pv g2 0), (3, Pv g3 0), (7, Iv (timesI r.lo r.hi))]) (fun _ => HA.blk g3 (.cells m.cells.toArray 34) :: HA.blk g2 (.cells Me.zero.cells.toArray 34) :: HA.blk g1 (.cells (reCells r (.slice ad r.kids.length cap)).toArray 27) :: []) ?_ (fun _ => ?_)
        · refine ES.condD rfl (fun hneg => ?_) (fun hpos => ?_)
          · refine .go ?_; repeat constructor
            refine EL.fieldAddr rfl rfl rfl rfl rfl rfl rfl rfl ?_
            (apply EL.loadB; exact rfl; exact rfl; exact rfl; exact rfl; exact rfl; (case hm => repeat constructor); exact rfl)
            refine EL.ofRV (RV.maxI rfl rfl) rfl rfl rfl (by intro c h; cases h) ?_
            refine EL.assign rfl rfl rfl ?_
            refine .go ?_; repeat constructor
            exact PX.cutX () ⟨rfl, rfl, rfl, getA rfl (congrArg Iv (by unfold timesI; rw [if_pos hneg])), trivial⟩ (.i (by repeat constructor))
          · refine .go ?_; repeat constructor
            exact PX.cutX () ⟨rfl, rfl, rfl, getA rfl (congrArg Iv (by unfold timesI; rw [if_neg hpos])), trivial⟩ (.i (by repeat constructor))
        refine .go ?_; repeat constructor
        refine EL.fieldAddr rfl rfl rfl rfl rfl rfl rfl rfl ?_
        (apply EL.loadB; exact rfl; exact rfl; exact rfl; exact rfl; exact rfl; (case hm => repeat constructor); exact rfl)
        refine EL.move rfl rfl rfl ?_
        refine EL.mul (w64 (m.pos * timesI r.lo r.hi)) rfl rfl rfl rfl rfl ?_
        refine EL.fieldAddr rfl rfl rfl rfl rfl rfl rfl rfl ?_
        (apply EL.storeB; exact rfl; exact rfl; exact rfl; exact rfl; exact rfl; exact rfl; (case p => repeat constructor); exact (by first | decide | exact Nat.le_of_ble_eq_true rfl | simp))
        refine .go ?_; repeat constructor
        refine EL.fieldAddr rfl rfl rfl rfl rfl rfl rfl rfl ?_
        (apply EL.loadB; exact rfl; exact rfl; exact rfl; exact rfl; exact rfl; (case hm => repeat constructor); exact rfl)
        refine EL.fieldAddr rfl rfl rfl rfl rfl rfl rfl rfl ?_
        (apply EL.loadB; exact rfl; exact rfl; exact rfl; exact rfl; exact rfl; (case hm => repeat constructor); exact rfl)
        refine EL.mul (w64 (m.least * r.lo)) rfl rfl rfl rfl rfl ?_
        refine EL.fieldAddr rfl rfl rfl rfl rfl rfl rfl rfl ?_
        (apply EL.storeB; exact rfl; exact rfl; exact rfl; exact rfl; exact rfl; exact rfl; (case p => repeat constructor); exact (by first | decide | exact Nat.le_of_ble_eq_true rfl | simp))
        refine .go ?_; repeat constructor
        refine EL.fieldAddr rfl rfl rfl rfl rfl rfl rfl rfl ?_
        (apply EL.loadB; exact rfl; exact rfl; exact rfl; exact rfl; exact rfl; (case hm => repeat constructor); exact rfl)
        refine EL.fieldAddr rfl rfl rfl rfl rfl rfl rfl rfl ?_
        (apply EL.loadB; exact rfl; exact rfl; exact rfl; exact rfl; exact rfl; (case hm => repeat constructor); exact rfl)
        refine EL.callP rfl rfl rfl ent22 rfl (many_c m.most r.hi) ?_
        refine EL.fieldAddr rfl rfl rfl rfl rfl rfl rfl rfl ?_
        (apply EL.storeB; exact rfl; exact rfl; exact rfl; exact rfl; exact rfl; exact rfl; (case p => repeat constructor); exact (by first | decide | exact Nat.le_of_ble_eq_true rfl | simp))
        refine .go ?_; repeat constructor
        exact PX.cutX () ⟨rfl, rfl, rfl, trivial⟩ (.i (by repeat constructor))
      refine .go ?_; repeat constructor
      (apply EL.loadAggB; exact rfl; exact rfl; exact rfl; exact rfl; exact rfl; (case hm => repeat constructor); exact rfl)
      (apply EL.storeAll; exact rfl; exact rfl; exact rfl; exact rfl; exact rfl; (case p => repeat constructor); exact rfl; (case h1 => exact (by first | rfl | exact all1 rfl | (intro u hu; simp only [List.mem_cons, List.not_mem_nil, or_false] at hu; rcases hu with rfl | rfl | rfl | rfl <;> rfl) | (intro u hu; simp at hu; rcases hu with rfl | rfl | rfl | rfl <;> rfl) | (intro u hu; simp at hu; rcases hu with rfl | rfl | rfl <;> rfl) | (intro u hu; simp at hu; rcases hu with rfl | rfl <;> rfl) | (intro u hu; simp at hu; obtain ⟨_, _, rfl⟩ := hu; rfl))))
      refine .go ?_; repeat constructor
      exact PX.ret rfl Tryd.results11 (.cons (.blkA rfl rfl rfl (by repeat constructor) rfl) .nil) (fun w hs => ⟨(), rfl, hs.ent (.i (by repeat constructor))⟩)
theorem meas_c (r : RE) (hf : r.fine) (ad : Option Addr) (cap : Nat) (w : World) (h : KidsRd w w.heap.size r.kids ad) : Pure Tryd.prog 11 #[.agg (reCells r (.slice ad r.kids.length cap)).toArray] (fun _ : Unit => .agg (measM r).cells.toArray) (fun _ => []) w := of_n r.sz r (Nat.le_refl _) hf ad cap w h
def ofM (t : List UInt8) : Me × Int × Nat := if (parseM t).e ≠ 0 then (Me.zero, (parseM t).e, (parseM t).at_) else (measM (parseM t).tree, 0, 0)
theorem measOf_c (t : List UInt8) (ht : t.length ≤ 4611686018427387904) (w : World) (hG : GR w w.heap.size) :
    Pure Tryd.prog 5 #[Sv t] (fun _ : Unit => .tuple #[.agg (ofM t).1.cells.toArray, .agg #[Iv (ofM t).2.1, Iv ((ofM t).2.2 : Nat)]]) (fun _ => []) w := by
  have hw : ofM t = if (parseM t).e ≠ 0 then (Me.zero, (parseM t).e, (parseM t).at_) else (measM (parseM t).tree, 0, 0) := rfl
  have hpf := parse_fine t
  have hpc := fun w hG => parse_c t ht w hG
  generalize parseM t = p at hw hpf hpc
  obtain ⟨tree, pe, pat⟩ := p
  dsimp only at hw hpf hpc
  refine calls_of_ES TB Tryd.func5 rfl _ Tryd.ntmps5 rfl (Sat.start w) ?_
  refine .go ?_; repeat constructor
  (refine EL.alloc rfl rfl rfl ?_; intro g2)
  (refine EL.alloc rfl rfl rfl ?_; intro g3)
  refine .go ?_; repeat constructor
  refine EL.move rfl rfl rfl ?_
  (refine EL.callXw rfl rfl rfl ent4 rfl (fun w hs => hpc w (GR.sat hG hs)) ?_; intro px)
  refine EL.move rfl rfl rfl ?_
  refine EL.extract rfl rfl rfl rfl ?_
  refine EL.extract rfl rfl rfl rfl ?_
  (refine EL.alloc rfl rfl rfl ?_; intro g4)
  (refine EL.alloc rfl rfl rfl ?_; intro g5)
  (apply EL.storeAll; exact rfl; exact rfl; exact rfl; exact rfl; exact rfl; (case p => repeat constructor); exact rfl; (case h1 => exact (by first | rfl | exact all1 rfl | (intro u hu; simp only [List.mem_cons, List.not_mem_nil, or_false] at hu; rcases hu with rfl | rfl | rfl | rfl <;> rfl) | (intro u hu; simp at hu; rcases hu with rfl | rfl | rfl | rfl <;> rfl) | (intro u hu; simp at hu; rcases hu with rfl | rfl | rfl <;> rfl) | (intro u hu; simp at hu; rcases hu with rfl | rfl <;> rfl) | (intro u hu; simp at hu; obtain ⟨_, _, rfl⟩ := hu; rfl))))
  (apply EL.storeAll; exact rfl; exact rfl; exact rfl; exact rfl; exact rfl; (case p => repeat constructor); exact rfl; (case h1 => exact (by first | rfl | exact all1 rfl | (intro u hu; simp only [List.mem_cons, List.not_mem_nil, or_false] at hu; rcases hu with rfl | rfl | rfl | rfl <;> rfl) | (intro u hu; simp at hu; rcases hu with rfl | rfl | rfl | rfl <;> rfl) | (intro u hu; simp at hu; rcases hu with rfl | rfl | rfl <;> rfl) | (intro u hu; simp at hu; rcases hu with rfl | rfl <;> rfl) | (intro u hu; simp at hu; obtain ⟨_, _, rfl⟩ := hu; rfl))))
  refine .go ?_; repeat constructor
  refine .go ?_; repeat constructor
  refine EL.fieldAddr rfl rfl rfl rfl rfl rfl rfl rfl ?_
  (apply EL.loadB; exact rfl; exact rfl; exact rfl; exact rfl; exact rfl; (case hm => repeat constructor); exact rfl)
  refine EL.neqI rfl rfl rfl rfl ?_
  refine .go ?_; repeat constructor
  refine ES.condN rfl (fun hne => ?_) (fun he => ?_)
  · rw [if_pos hne] at hw
    rw [hw]
    refine .g0 ?_; repeat constructor
    refine ES.draw (X := Unit) (fun _ => [(2, Pv g2 0), (3, Pv g3 0)]) (fun _ => HA.blk g2 (.cells Me.zero.cells.toArray 34) :: HA.blk g3 (.cells #[Iv pe, Iv (pat : Nat)] 30) :: []) (HA.blk g5 (.cells #[Iv pe, Iv (pat : Nat)] 30) :: []) mixed (.i (by repeat constructor)) ?_ (fun _ => ?_)
    · refine ED.take 1 rfl (by decide +kernel) CutX.no_panic (by decide +kernel) rfl rfl rfl (RV.loadAggB rfl rfl rfl (by repeat constructor) rfl) ?_
      refine ED.loud 0 rfl (by decide +kernel) ?_
      refine EL.buildZ rfl rfl rfl rfl rfl ?_
      refine ED.next (.i (by repeat constructor)) ?_
      refine ED.loud 2 rfl (by decide +kernel) ?_
      (apply EL.storeAll; exact rfl; exact rfl; exact rfl; exact rfl; exact rfl; (case p => repeat constructor); exact rfl; (case h1 => exact (by first | rfl | exact all1 rfl | (intro u hu; simp only [List.mem_cons, List.not_mem_nil, or_false] at hu; rcases hu with rfl | rfl | rfl | rfl <;> rfl) | (intro u hu; simp at hu; rcases hu with rfl | rfl | rfl | rfl <;> rfl) | (intro u hu; simp at hu; rcases hu with rfl | rfl | rfl <;> rfl) | (intro u hu; simp at hu; rcases hu with rfl | rfl <;> rfl) | (intro u hu; simp at hu; obtain ⟨_, _, rfl⟩ := hu; rfl))))
      refine ED.next (.i (by repeat constructor)) ?_
      refine ED.last 3 rfl (by decide +kernel) (by decide +kernel) (by decide +kernel) ?_
      (apply EL.storeAll; exact rfl; exact rfl; exact rfl; exact rfl; exact rfl; (case p => repeat constructor); exact rfl; (case h1 => exact (by first | rfl | exact all1 rfl | (intro u hu; simp only [List.mem_cons, List.not_mem_nil, or_false] at hu; rcases hu with rfl | rfl | rfl | rfl <;> rfl) | (intro u hu; simp at hu; rcases hu with rfl | rfl | rfl | rfl <;> rfl) | (intro u hu; simp at hu; rcases hu with rfl | rfl | rfl <;> rfl) | (intro u hu; simp at hu; rcases hu with rfl | rfl <;> rfl) | (intro u hu; simp at hu; obtain ⟨_, _, rfl⟩ := hu; rfl))))
      refine EL.endQ ?_
      exact PX.cutX () ⟨rfl, rfl, trivial⟩ (.i (by repeat constructor))
    refine .go ?_; repeat constructor
    exact PX.ret rfl Tryd.results5 (.cons (.blkA rfl rfl rfl (by repeat constructor) rfl) (.cons (.blkA rfl rfl rfl (by repeat constructor) rfl) .nil)) (fun w hs => ⟨(), rfl, hs.ent (.i (by repeat constructor))⟩)
  rw [if_neg (fun h => h he)] at hw
  rw [hw]
  refine .go ?_; repeat constructor
  (apply EL.loadAggB; exact rfl; exact rfl; exact rfl; exact rfl; exact rfl; (case hm => repeat constructor); exact rfl)
  refine EL.callPw rfl rfl rfl ent11 rfl (fun w hs => meas_c tree hpf px.ad px.cap w (kids_of hs (by repeat constructor))) ?_
  refine EL.buildZ rfl rfl rfl rfl rfl ?_
  (apply EL.storeAll; exact rfl; exact rfl; exact rfl; exact rfl; exact rfl; (case p => repeat constructor); exact rfl; (case h1 => exact (by first | rfl | exact all1 rfl | (intro u hu; simp only [List.mem_cons, List.not_mem_nil, or_false] at hu; rcases hu with rfl | rfl | rfl | rfl <;> rfl) | (intro u hu; simp at hu; rcases hu with rfl | rfl | rfl | rfl <;> rfl) | (intro u hu; simp at hu; rcases hu with rfl | rfl | rfl <;> rfl) | (intro u hu; simp at hu; rcases hu with rfl | rfl <;> rfl) | (intro u hu; simp at hu; obtain ⟨_, _, rfl⟩ := hu; rfl))))
  (apply EL.storeAll; exact rfl; exact rfl; exact rfl; exact rfl; exact rfl; (case p => repeat constructor); exact rfl; (case h1 => exact (by first | rfl | exact all1 rfl | (intro u hu; simp only [List.mem_cons, List.not_mem_nil, or_false] at hu; rcases hu with rfl | rfl | rfl | rfl <;> rfl) | (intro u hu; simp at hu; rcases hu with rfl | rfl | rfl | rfl <;> rfl) | (intro u hu; simp at hu; rcases hu with rfl | rfl | rfl <;> rfl) | (intro u hu; simp at hu; rcases hu with rfl | rfl <;> rfl) | (intro u hu; simp at hu; obtain ⟨_, _, rfl⟩ := hu; rfl))))
  refine .go ?_; repeat constructor
  exact PX.ret rfl Tryd.results5 (.cons (.blkA rfl rfl rfl (by repeat constructor) rfl) (.cons (.blkA rfl rfl rfl (by repeat constructor) rfl) .nil)) (fun w hs => ⟨(), rfl, hs.ent (.i (by repeat constructor))⟩)
end Go.Proofs.YtcoajnpneableaaDoor
namespace Go.Proofs.YtcoajnpneableaaDoor
open Go Go.RowKit Sl
set_option maxRecDepth 100000
set_option maxHeartbeats 8000000
set_option linter.unusedVariables false
set_option linter.unusedSimpArgs false
attribute [local irreducible] ES EL PX wps
def PowR (w : World) (B : Nat) : Prop := Lib.TabIs Tryd.prog w "internal/strconv.uint64pow10" .u64 Lib.pow10Tab ∧ 2 < B
theorem gPow : Tryd.prog.globalNamed "internal/strconv.uint64pow10" = some 2 := by kernel_rfl
theorem PowR.sat {w0 w : World} {B : Nat} {H : List HA} (h : PowR w0 B) (hs : Sat w0 B H w) : PowR w w.heap.size := ⟨var?_below hs.below gPow h.2 h.1, Nat.lt_of_lt_of_le h.2 hs.base⟩
theorem sat_grow (w : World) (k : Nat) (os : Array Obj) : Sat w w.heap.size [] (Go.Sort.grow (w.drewN k) os) := by
  have hz : (Go.Sort.grow (w.drewN k) os).heap.size = w.heap.size + os.size := Array.size_append
  exact ⟨⟨rfl, rfl, rfl, by omega, fun j hj => Array.getElem?_append_left hj⟩, by omega, List.nodup_nil, by simp [fps], by simp⟩
theorem dd_small {u : Nat} (h : u < 10) : Lib.decDigits u = [UInt8.ofNat (48 + u)] := by rw [Lib.decDigits, dif_pos h]
theorem dd_big {u : Nat} (h : ¬ u < 10) : Lib.decDigits u = Lib.decDigits (u / 10) ++ [UInt8.ofNat (48 + u % 10)] := by rw [Lib.decDigits, dif_neg h]
theorem itoa_is (n : Nat) (hn : n ≤ 255) : Lib.itoa (n : Int) = itoaM n := by
  rw [Lib.itoa_nonneg]
  unfold itoaM
  split
  · exact dd_small ‹_›
  · rename_i h1
    rw [dd_big h1]
    split
    · rw [dd_small (by omega)]
      rfl
    · rename_i h2
      rw [dd_big (u := n / 10) (by omega), dd_small (by omega), show n / 10 / 10 = n / 100 by omega]
      rfl
theorem itoa_c (n : Nat) (hn : n ≤ 255) (w : World) (hP : PowR w w.heap.size) : Pure Tryd.prog 26 #[Iv (n : Nat)] (fun _ : Unit => Sv (itoaM n)) (fun _ => []) w :=
  (Any.strconv_Itoa Tryd.lays171 (n : Int) (by omega) (by omega) w hP.1).mono fun e w' ⟨he, k, os, hw⟩ => ⟨(), by rw [he, itoa_is n hn], by subst hw; exact sat_grow w k os⟩
theorem set_c (s : BS) (w : World) (hT : TabR w w.heap.size) : Pure Tryd.prog 24 #[Bs s] (fun _ : Unit => Sv (setT s)) (fun _ => []) w := by
  have hml : (membersM s).length ≤ 256 := memGo_le _ _
  obtain ⟨L, hL⟩ : ∃ L, L = setT s := ⟨_, rfl⟩
  rw [← hL]
  unfold setT at hL
  refine calls_of_ESM TB Tryd.func24 rfl _ Tryd.ntmps24 rfl (Sat.start w) ?_
  refine .gr ?_; repeat constructor
  (refine EL.box rfl rfl rfl ?_; intro g1)
  (refine EL.alloc rfl rfl rfl ?_; intro g2)
  refine .gr ?_; repeat constructor
  (apply EL.loadAggB; exact rfl; exact rfl; exact rfl; exact rfl; exact rfl; (case hm => repeat constructor); exact rfl)
  refine EL.callP rfl rfl rfl ent34 rfl (count_m s) ?_
  refine .gr ?_; repeat constructor
  refine .gr ?_; repeat constructor
  refine EL.eqlI rfl rfl rfl rfl ?_
  refine EL.assign rfl rfl rfl ?_
  refine .gr ?_; repeat constructor
  refine ES.condD rfl (fun h => ?_) (fun h => ?_)
  · have h0 : (membersM s).length = 256 := by omega
    rw [if_pos h0] at hL
    rw [hL]
    refine .gr ?_; repeat constructor
    (apply EL.storeB; exact rfl; exact rfl; exact rfl; exact rfl; exact rfl; exact rfl; (case p => repeat constructor); exact (by first | decide | exact Nat.le_of_ble_eq_true rfl | simp))
    refine .gr ?_; repeat constructor
    exact PX.retM [] rfl (.nil _) Tryd.results24 (.cons (.blk1 rfl rfl rfl (by repeat constructor) rfl) .nil) (fun w h => ⟨(), rfl, h.ent (.nil _)⟩)
  have h0 : ¬ (membersM s).length = 256 := by omega
  rw [if_neg h0] at hL
  refine .gr ?_; repeat constructor
  refine EL.eqlI rfl rfl rfl rfl ?_
  refine EL.assign rfl rfl rfl ?_
  refine .gr ?_; repeat constructor
  refine ES.condD rfl (fun h => ?_) (fun h => ?_)
  · have h1 : (membersM s).length = 1 := by omega
    rw [if_pos h1] at hL
    obtain ⟨b, hb, _⟩ := one_member h1
    rw [hb] at hL
    have hL : L = byteC b := hL
    have hym : ym s = [[Uv b]] := by unfold ym; rw [hb]; rfl
    refine .gr ?_; repeat constructor
    (apply EL.loadAggB; exact rfl; exact rfl; exact rfl; exact rfl; exact rfl; (case hm => repeat constructor); exact rfl)
    (refine EL.callX rfl rfl rfl ent35 rfl (members_c s) ?_; intro gs)
    refine .gr ?_; repeat constructor
    refine ES.rangeFunc (σ := Unit) (τ := Unit) (fun i _ => i = 0) (fun _ => [HA.blk g2 (.cells #[Sv []] 9)]) (fun c _ _ => c = .ret) (fun _ => [HA.blk g2 (.cells #[Sv L] 9)]) () rfl
      rfl rfl ent48 (mem1_iter gs s _ _ hT) (by repeat constructor) (by repeat constructor) (by intro x hx; obtain ⟨_, _, rfl⟩ := List.mem_map.1 hx; rfl) rfl ?_ (fun D z hz => ?_) (fun D c i s' hc => ?_)
    · rintro l i ⟨⟩ x R1 rfl hx
      rw [hym] at hx
      obtain rfl : x = [Uv b] := by simpa using hx.symm
      refine .gr ?_; repeat constructor
      refine EL.assign rfl rfl rfl ?_
      refine .gr ?_; repeat constructor
      refine PX.assigned [(3, Uv b), (2, Pv g2 0)] [HA.blk g2 (.cells #[Sv []] 9)] ⟨rfl, rfl, trivial⟩ (.i (by repeat constructor)) (fun R2 => ?_)
      refine .gr ?_; repeat constructor
      refine EL.move rfl rfl rfl ?_
      refine EL.eqlI rfl rfl rfl rfl ?_
      refine EL.assign rfl rfl rfl ?_
      refine .gr ?_; repeat constructor
      refine ES.condD rfl (fun hn => ?_) (fun hn => ?_)
      · have hn : b = 10 := UInt8.toNat_inj.1 (by show b.toNat = 10; omega)
        have hl : L = [92, 110] := by rw [hL, byteC, if_pos hn]
        refine .gr ?_; repeat constructor
        (apply EL.storeB; exact rfl; exact rfl; exact rfl; exact rfl; exact rfl; exact rfl; (case p => repeat constructor); exact (by first | decide | exact Nat.le_of_ble_eq_true rfl | simp))
        refine .gr ?_; repeat constructor
        refine PX.roundR () rfl ?_
        rw [hl]
        exact (.i (by repeat constructor))
      have hn : ¬ b = 10 := fun e => hn (by rw [e]; rfl)
      refine .gr ?_; repeat constructor
      refine EL.move rfl rfl rfl ?_
      refine EL.callP rfl rfl rfl ent36 rfl (index_c [46, 91, 93, 42, 94, 36, 92] b) ?_
      refine EL.geq rfl rfl rfl rfl ?_
      refine EL.assign rfl rfl rfl ?_
      refine .gr ?_; repeat constructor
      refine ES.condD rfl (fun hx => ?_) (fun hx => ?_)
      · have hx : b ∈ [46, 91, 93, 42, 94, 36, 92] := (idxB_nonneg _ _).1 (by omega)
        have hl : L = [92, b] := by
          rw [hL, byteC, if_neg hn, if_neg]
          unfold plainB
          rw [decide_eq_true_eq]
          rintro ⟨a1, a2, a3, a4, a5, a6, a7⟩
          simp only [List.mem_cons, List.not_mem_nil, or_false] at hx
          rcases hx with hx | hx | hx | hx | hx | hx | hx <;> contradiction
        refine .gr ?_; repeat constructor
        refine EL.move rfl rfl rfl ?_
        (refine EL.buildSliceS [.int .u8 92, Uv b] rfl rfl rfl rfl rfl rfl rfl rfl rfl rfl (by intro u hu; simp only [List.mem_cons, List.not_mem_nil, or_false] at hu; rcases hu with rfl | rfl <;> rfl) ?_; intro b24)
        (refine EL.bytesS (bs := [92, b]) rfl rfl rfl rfl rfl rfl rfl rfl rfl (by repeat constructor) ?_)
        (apply EL.storeB; exact rfl; exact rfl; exact rfl; exact rfl; exact rfl; exact rfl; (case p => repeat constructor); exact (by first | decide | exact Nat.le_of_ble_eq_true rfl | simp))
        refine .gr ?_; repeat constructor
        refine PX.roundR () rfl ?_
        rw [hl]
        exact (.i (by repeat constructor))
      · have hx : b ∉ [46, 91, 93, 42, 94, 36, 92] := fun e => hx (by have := (idxB_nonneg [46, 91, 93, 42, 94, 36, 92] b).2 e; omega)
        have hl : L = [b] := by
          rw [hL, byteC, if_neg hn, if_pos]
          unfold plainB
          rw [decide_eq_true_eq]
          simp only [List.mem_cons, List.not_mem_nil, or_false, not_or] at hx
          exact hx
        refine .gr ?_; repeat constructor
        refine EL.move rfl rfl rfl ?_
        (refine EL.buildSliceS [Uv b] rfl rfl rfl rfl rfl rfl rfl rfl rfl rfl (by intro u hu; simp only [List.mem_cons, List.not_mem_nil, or_false] at hu; subst hu; rfl) ?_; intro b14)
        (refine EL.bytesS (bs := [b]) rfl rfl rfl rfl rfl rfl rfl rfl rfl (by repeat constructor) ?_)
        (apply EL.storeB; exact rfl; exact rfl; exact rfl; exact rfl; exact rfl; exact rfl; (case p => repeat constructor); exact (by first | decide | exact Nat.le_of_ble_eq_true rfl | simp))
        refine .gr ?_; repeat constructor
        refine PX.roundR () rfl ?_
        rw [hl]
        exact (.i (by repeat constructor))
    · rw [hym] at hz
      cases hz
    · obtain rfl := hc
      refine .gr ?_; repeat constructor
      exact PX.retM [D] rfl (by repeat constructor) Tryd.results24 (.cons (.blk1 rfl rfl rfl (by repeat constructor) rfl) .nil) (fun w hs => ⟨(), rfl, hs.ent (.nil _)⟩)
  have h1 : ¬ (membersM s).length = 1 := by omega
  rw [if_neg h1] at hL
  rw [hL]
  refine .gr ?_; repeat constructor
  (apply EL.loadAggB; exact rfl; exact rfl; exact rfl; exact rfl; exact rfl; (case hm => repeat constructor); exact rfl)
  refine EL.callPw rfl rfl rfl ent37 rfl (fun w hs => text_c s w (Rd.sat hT hs)) ?_
  (apply EL.storeB; exact rfl; exact rfl; exact rfl; exact rfl; exact rfl; exact rfl; (case p => repeat constructor); exact (by first | decide | exact Nat.le_of_ble_eq_true rfl | simp))
  refine .gr ?_; repeat constructor
  exact PX.retM [] rfl (.nil _) Tryd.results24 (.cons (.blk1 rfl rfl rfl (by repeat constructor) rfl) .nil) (fun w hs => ⟨(), rfl, hs.ent (.nil _)⟩)
theorem times_c (lo : Nat) (hi : Int) (hlo : lo ≤ 255) (h1 : -1 ≤ hi) (h2 : hi ≤ 255) (w : World) (hP : PowR w w.heap.size) : Pure Tryd.prog 27 #[Iv (lo : Nat), Iv hi] (fun _ : Unit => Sv (timesT lo hi)) (fun _ => []) w := by
  obtain ⟨L, hL⟩ : ∃ L, L = timesT lo hi := ⟨_, rfl⟩
  rw [← hL]
  unfold timesT at hL
  have n1 := itoaM_len lo
  refine calls_of_ES TB Tryd.func27 rfl _ Tryd.ntmps27 rfl (Sat.start w) ?_
  refine .gr ?_; repeat constructor
  refine EL.assign rfl rfl rfl ?_
  refine .gr ?_; repeat constructor
  refine EL.cutX (X := Unit) (fun _ => [(0, Iv (lo : Nat)), (1, Iv hi), (5, .bool (decide (lo = 0 ∧ hi < 0)))]) (fun _ => []) ?_ (fun _ => ?_)
  · refine .gr ?_; repeat constructor
    refine EL.move rfl rfl rfl ?_
    refine EL.eqlI rfl rfl rfl rfl ?_
    refine EL.move rfl rfl rfl ?_
    first | refine EL.splitD (d := 8) rfl (fun hp8 => ?_) (fun hp8 => ?_) | refine EL.splitN (d := 8) rfl (fun hp8 => ?_) (fun hp8 => ?_) | refine EL.splitB (d := 8) rfl (fun hp8 => ?_) (fun hp8 => ?_)
    · refine EL.move rfl rfl rfl ?_
      refine EL.lss rfl rfl rfl rfl ?_
      refine EL.pickT rfl rfl rfl rfl ?_
      refine EL.assign rfl rfl rfl ?_
      exact EL.endX () ⟨rfl, rfl, getA rfl (congrArg Value.bool (by rw [Bool.eq_iff_iff]; simp only [decide_eq_true_eq, true_iff, Bool.false_eq_true, false_iff]; omega)), trivial⟩ (.i (by repeat constructor))
    · refine EL.pass rfl rfl rfl ?_
      refine EL.pass rfl rfl rfl ?_
      refine EL.pickF rfl rfl rfl rfl ?_
      refine EL.assign rfl rfl rfl ?_
      exact EL.endX () ⟨rfl, rfl, getA rfl (congrArg Value.bool (by rw [Bool.eq_iff_iff]; simp only [decide_eq_true_eq, true_iff, Bool.false_eq_true, false_iff]; omega)), trivial⟩ (.i (by repeat constructor))
  refine ES.condD rfl (fun h => ?_) (fun h => ?_)
  · rw [if_pos h] at hL
    rw [hL]
    refine .gr ?_; repeat constructor
    refine EL.assign rfl rfl rfl ?_
    refine .gr ?_; repeat constructor
    exact PX.ret rfl Tryd.results27 (.cons (.tmp rfl) .nil) (fun w hs => ⟨(), rfl, hs.ent (.nil _)⟩)
  rw [if_neg h] at hL
  refine .gr ?_; repeat constructor
  refine EL.move rfl rfl rfl ?_
  refine EL.lss rfl rfl rfl rfl ?_
  refine EL.assign rfl rfl rfl ?_
  refine .gr ?_; repeat constructor
  refine ES.condD rfl (fun hn => ?_) (fun hn => ?_)
  · rw [if_pos hn] at hL
    rw [hL]
    refine .gr ?_; repeat constructor
    refine EL.move rfl rfl rfl ?_
    refine EL.callPw rfl rfl rfl ent26 rfl (fun w hs => itoa_c lo hlo w (PowR.sat hP hs)) ?_
    refine EL.cat rfl rfl rfl rfl (by simp; omega) ?_
    refine EL.cat rfl rfl rfl rfl (by simp; omega) ?_
    refine EL.assign rfl rfl rfl ?_
    refine .gr ?_; repeat constructor
    exact PX.ret rfl Tryd.results27 (.cons (.tmp rfl) .nil) (fun w hs => ⟨(), rfl, hs.ent (.nil _)⟩)
  rw [if_neg hn] at hL
  obtain ⟨k, rfl⟩ : ∃ k : Nat, hi = k := ⟨hi.toNat, by omega⟩
  have n2 := itoaM_len k
  refine .gr ?_; repeat constructor
  refine EL.move rfl rfl rfl ?_
  refine EL.move rfl rfl rfl ?_
  refine EL.eqlI rfl rfl rfl rfl ?_
  refine EL.assign rfl rfl rfl ?_
  refine .gr ?_; repeat constructor
  refine ES.condD rfl (fun he => ?_) (fun he => ?_)
  · rw [if_pos he] at hL
    rw [hL]
    refine .gr ?_; repeat constructor
    refine EL.move rfl rfl rfl ?_
    refine EL.callPw rfl rfl rfl ent26 rfl (fun w hs => itoa_c lo hlo w (PowR.sat hP hs)) ?_
    refine EL.cat rfl rfl rfl rfl (by simp; omega) ?_
    refine EL.cat rfl rfl rfl rfl (by simp; omega) ?_
    refine EL.assign rfl rfl rfl ?_
    refine .gr ?_; repeat constructor
    exact PX.ret rfl Tryd.results27 (.cons (.tmp rfl) .nil) (fun w hs => ⟨(), rfl, hs.ent (.nil _)⟩)
  rw [if_neg he] at hL
  rw [hL]
  refine .gr ?_; repeat constructor
  refine EL.move rfl rfl rfl ?_
  refine EL.callPw rfl rfl rfl ent26 rfl (fun w hs => itoa_c lo hlo w (PowR.sat hP hs)) ?_
  refine EL.cat rfl rfl rfl rfl (by simp; omega) ?_
  refine EL.cat rfl rfl rfl rfl (by simp; omega) ?_
  refine EL.move rfl rfl rfl ?_
  refine EL.callPw rfl rfl rfl ent26 rfl (fun w hs => itoa_c k (by omega) w (PowR.sat hP hs)) ?_
  refine EL.cat rfl rfl rfl rfl (by simp; omega) ?_
  refine EL.cat rfl rfl rfl rfl (by simp; omega) ?_
  refine EL.assign rfl rfl rfl ?_
  refine .gr ?_; repeat constructor
  exact PX.ret rfl Tryd.results27 (.cons (.tmp (getA rfl (congrArg Sv (by simp)))) .nil) (fun w hs => ⟨(), rfl, hs.ent (.nil _)⟩)
end Go.Proofs.YtcoajnpneableaaDoor
namespace Go.Proofs.YtcoajnpneableaaDoor
open Go Go.RowKit Sl
set_option maxRecDepth 100000
set_option maxHeartbeats 8000000
set_option linter.unusedVariables false
set_option linter.unusedSimpArgs false
attribute [local irreducible] ES EL PX wps
def preT : RE → List UInt8
  | .byte s => setT s
  | .bol => [94]
  | .eol => [36]
  | .back n => 92 :: itoaM n
  | .group _ _ => [92, 40]
  | _ => []
def postT : RE → List UInt8
  | .group _ _ => [92, 41]
  | .rep lo hi _ => timesT lo hi
  | _ => []
theorem canR_eq (r : RE) : canR r = preT r ++ (canL r.kids ++ postT r) := by cases r <;> simp [canR, canL, preT, postT, RE.kids]
theorem canL_take (l : List RE) (i : Nat) (h : i < l.length) : canL (l.take (i + 1)) = canL (l.take i) ++ canR l[i] := by
  rw [List.take_succ_eq_append_getElem h, canL_app, canL, canL, List.append_nil]
theorem canL_take_le : ∀ (l : List RE) (i : Nat), (canL (l.take i)).length ≤ (canL l).length
  | [], i => by simp
  | k :: l, 0 => by simp [canL]
  | k :: l, i + 1 => by
    have := canL_take_le l i
    rw [List.take_succ_cons, canL, canL, List.length_append, List.length_append]
    omega
theorem pre_1 {r : RE} (h : r.kind = 1) : preT r = setT r.set := by cases r <;> first | rfl | (simp [RE.kind] at h)
theorem pre_2 {r : RE} (h : r.kind = 2) : preT r = [94] := by cases r <;> first | rfl | (simp [RE.kind] at h)
theorem pre_3 {r : RE} (h : r.kind = 3) : preT r = [36] := by cases r <;> first | rfl | (simp [RE.kind] at h)
theorem pre_6 {r : RE} (h : r.kind = 6) : preT r = 92 :: itoaM r.num := by cases r <;> first | rfl | (simp [RE.kind] at h)
theorem pre_4 {r : RE} (h : r.kind = 4) : preT r = [92, 40] := by cases r <;> first | rfl | (simp [RE.kind] at h)
theorem pre_0 {r : RE} (h1 : r.kind ≠ 1) (h2 : r.kind ≠ 2) (h3 : r.kind ≠ 3) (h6 : r.kind ≠ 6) (h4 : r.kind ≠ 4) : preT r = [] := by cases r <;> first | rfl | (simp [RE.kind] at h1 h2 h3 h4 h6)
theorem post_4 {r : RE} (h : r.kind = 4) : postT r = [92, 41] := by cases r <;> first | rfl | (simp [RE.kind] at h)
theorem post_5 {r : RE} (h : r.kind = 5) : postT r = timesT r.lo r.hi := by cases r <;> first | rfl | (simp [RE.kind] at h)
theorem post_0 {r : RE} (h4 : r.kind ≠ 4) (h5 : r.kind ≠ 5) : postT r = [] := by cases r <;> first | rfl | (simp [RE.kind] at h4 h5)
theorem num_9 {r : RE} (hf : r.fine) : r.num ≤ 9 := by
  cases r <;> simp only [RE.num] <;> first | omega | exact hf.1 | exact hf.2
theorem rep_5 {r : RE} (hf : r.fine) : r.lo ≤ 255 ∧ -1 ≤ r.hi ∧ r.hi ≤ 255 := by
  cases r <;> simp only [RE.lo, RE.hi] <;> first | omega | exact ⟨hf.1, hf.2.1, hf.2.2.1⟩
def HA.fix (fp : List Nat) (w1 : World) : HA := ⟨fp, fun w => ∀ g ∈ fp, w.heap[g]? = w1.heap[g]?, fun w w' h hw g hg => (h g hg).trans (hw g hg)⟩
theorem ES.fix {C : Cx} {cs : List Code} {Q : Qt} {E : Env} {H : List HA} {fp : List Nat} {ks : List RE} {vs : List Value} (k : ∀ w1, Forest (· ∈ fp) w1 ks vs → ES C cs Q E (HA.fix fp w1 :: H)) : ES C cs Q E (HA.forest fp ks vs :: H) :=
  ES.impX (X := { w1 : World // Forest (· ∈ fp) w1 ks vs }) (Hx := fun x => HA.fix fp x.1 :: H) (fun w hs => ⟨⟨w, hs.all (HA.forest fp ks vs) List.mem_cons_self⟩, Sat.rules (Hs := [HA.forest fp ks vs]) (Hs' := [HA.fix fp w]) hs (List.Perm.refl _) (fun _ Y hY => by rw [List.mem_singleton] at hY; subst hY; exact fun g _ => rfl)⟩) (fun x => k x.1 x.2)
theorem fixed_cell {w0 w w1 : World} {B g off : Nat} {H : List HA} {fp : List Nat} {cs : List Value} (hs : Sat w0 B H w) (hm : Mem H (HA.fix fp w1)) (hr : Reads (· ∈ fp) w1 (some ⟨g, off, none⟩) cs) (j : Nat) (u : Value) (hj : cs[j]? = some u) : w.cell? ((⟨g, off, none⟩ : Addr).add j) = some u := by
  have h : ∀ g ∈ fp, w.heap[g]? = w1.heap[g]? := hs.all _ hm.mem
  rw [add_n]
  exact (hr.loc h).cell j u hj
abbrev KidsF (fp : List Nat) (w1 : World) (ks : List RE) (ad : Option Addr) : Prop := ∀ i k, ks[i]? = some k → ∃ g o, ad = some ⟨g, o, none⟩ ∧ Node (· ∈ fp) w1 g (o + i * 9) k
theorem kidsF_of {w1 : World} {fp : List Nat} {r : RE} {ad : Option Addr} {cap : Nat} (hf : Forest (· ∈ fp) w1 [r] (reCells r (.slice ad r.kids.length cap))) : KidsF fp w1 r.kids ad := by
  obtain ⟨ad', cap', cs0, e1, e2, e3, _⟩ := hf.get 0 r rfl
  have e4 : reCells r (.slice ad r.kids.length cap) = reCells r (.slice ad' r.kids.length cap') := by
    rw [← e1]; simp [reCells]
  simp only [reCells, List.cons.injEq, Value.slice.injEq, and_true, true_and] at e4
  obtain ⟨rfl, rfl⟩ := e4
  intro i k hi
  have hl := e2.len
  have hlt : i < r.kids.length := (List.getElem?_eq_some_iff.1 hi).1
  obtain ⟨g, o, rfl, _⟩ := e3 (fun e => by rw [e] at hl; simp at hl; omega)
  exact ⟨g, o, rfl, Node.of_row e2 e3 hi⟩
abbrev HB1 (g : Nat) (x : Bool × QA) (bs : List UInt8) : HA := HA.blk g (.cells #[.pointer (if x.1 then some ⟨g, 0, none⟩ else none), .slice x.2.1 bs.length x.2.2] 61)
abbrev HB2 (x : Bool × QA) (bs : List UInt8) : HA := HA.buf (.slice x.2.1 bs.length x.2.2) 5 bs.length (bs.map Uv)
theorem writeByte_c (g : Nat) (u : Bool) (ad : Option Addr) (cap : Nat) (bs : List UInt8) (b : UInt8) (hb : bs.length + 1 ≤ 140737488355328) : Mut Tryd.prog 25 #[Pv g 0, Uv b] (HB g u ad cap bs) (fun _ : QA => .nilIface) (fun x => HB g true x.1 x.2 (bs ++ [b])) := by
  intro w0 B R w h
  replace h : Sat w0 B (HA.blk g (.cells #[.pointer (if u then some ⟨g, 0, none⟩ else none), .slice ad bs.length cap] 61) :: HA.buf (.slice ad bs.length cap) 5 bs.length (bs.map Uv) :: R) w := h
  refine calls_of_ES TB Tryd.func25 rfl _ Tryd.ntmps25 rfl h ?_
  refine .gr ?_; repeat constructor
  refine EL.assign rfl rfl rfl ?_
  refine .gr ?_; repeat constructor
  refine EL.move rfl rfl rfl ?_
  refine EL.callM1 rfl rfl rfl ent33 rfl (copyCheck_c g u (.slice ad bs.length cap)) (by repeat constructor) ?_
  refine .gr ?_; repeat constructor
  have e1 : (bs ++ [b]).length = bs.length + 1 := by simp
  have e2 : (bs ++ [b]).map Uv = bs.map Uv ++ [Uv b] := by simp
  refine .gr ?_; repeat constructor
  refine EL.move rfl rfl rfl ?_
  refine EL.move rfl rfl rfl ?_
  refine EL.nilCheck rfl rfl rfl ?_
  refine EL.fieldAddr rfl rfl rfl rfl rfl rfl rfl rfl ?_
  (apply EL.loadB; exact rfl; exact rfl; exact rfl; exact rfl; exact rfl; (case hm => repeat constructor); exact rfl)
  refine EL.move rfl rfl rfl ?_
  (refine EL.buildSlice1 rfl rfl rfl rfl rfl rfl rfl rfl rfl rfl ?_; intro b13)
  (refine EL.appendB1 rfl rfl rfl rfl rfl rfl rfl rfl rfl rfl (by repeat constructor) rfl (by repeat constructor) hb ?_; intro ad2 cap2)
  refine EL.nilCheck rfl rfl rfl ?_
  refine EL.fieldAddr rfl rfl rfl rfl rfl rfl rfl rfl ?_
  (apply EL.storeB; exact rfl; exact rfl; exact rfl; exact rfl; exact rfl; exact rfl; (case p => repeat constructor); exact (by first | decide | exact Nat.le_of_ble_eq_true rfl | simp))
  refine .gr ?_; repeat constructor
  refine EL.assign rfl rfl rfl ?_
  refine .gr ?_; repeat constructor
  exact PX.ret rfl Tryd.results25 (.cons (.tmp rfl) .nil) (fun w hs => ⟨(ad2, cap2), rfl, by
    show Sat w0 B (HA.blk g (.cells #[Pv g 0, .slice ad2 (bs ++ [b]).length cap2] 61) :: HA.buf (.slice ad2 (bs ++ [b]).length cap2) 5 (bs ++ [b]).length ((bs ++ [b]).map Uv) :: R) w
    rw [e1, e2]
    exact hs.ent (.i (by repeat constructor))⟩)
theorem write_n (w0 w1 : World) (B : Nat) (fp : List Nat) (hT : TabR w0 B) (hP : PowR w0 B) (n : Nat) : ∀ r : RE, r.sz ≤ n → r.fine → ∀ (ad : Option Addr) (cap : Nat), KidsF fp w1 r.kids ad → ∀ (g : Nat) (x : Bool × QA) (bs : List UInt8), bs.length + (canR r).length ≤ 1073741824 →
    MutAt Tryd.prog 12 #[Pv g 0, .agg (reCells r (.slice ad r.kids.length cap)).toArray] (HB g x.1 x.2.1 x.2.2 bs ++ [HA.fix fp w1]) (fun _ : Bool × QA => .tuple #[]) (fun y => HB g y.1 y.2.1 y.2.2 (bs ++ canR r) ++ [HA.fix fp w1]) w0 B := by
  induction n with
  | zero => intro r hr; exact absurd (sz_pos r) (by omega)
  | succ n ih =>
    intro r hsz hfine ad cap hkids g x bs hbs R w h
    replace h : Sat w0 B (HB1 g x bs :: HB2 x bs :: HA.fix fp w1 :: R) w := h
    have hkl := fine_len hfine
    have heq := canR_eq r
    obtain ⟨pr, hpr⟩ : ∃ pr, pr = preT r := ⟨_, rfl⟩
    obtain ⟨po, hpo⟩ : ∃ po, po = postT r := ⟨_, rfl⟩
    rw [← hpr, ← hpo] at heq
    have hlen : (canR r).length = pr.length + ((canL r.kids).length + po.length) := by rw [heq, List.length_append, List.length_append]
    refine calls_of_ES TB Tryd.func12 rfl _ Tryd.ntmps12 rfl h ?_
    refine .gr ?_; repeat constructor
    (refine EL.box rfl rfl rfl ?_; intro g3)
    refine .gr ?_; repeat constructor
    refine EL.fieldAddr rfl rfl rfl rfl rfl rfl rfl rfl ?_
    (apply EL.loadB; exact rfl; exact rfl; exact rfl; exact rfl; exact rfl; (case hm => repeat constructor); exact rfl)
    repeat (first | apply EL.nil | apply ES.seq | apply ES.skip)
    refine ES.cutC (X := Bool × QA) (fun _ => [(0, Pv g 0), (3, Pv g3 0)]) (fun y => HB1 g y (bs ++ pr) :: HB2 y (bs ++ pr) :: HA.blk g3 (.cells (reCells r (.slice ad r.kids.length cap)).toArray 27) :: HA.fix fp w1 :: R) ?_ (fun y => ?_)
    · refine .gr ?_; repeat constructor
      refine EL.eqlI rfl rfl rfl rfl ?_
      refine EL.assign rfl rfl rfl ?_
      refine .gr ?_; repeat constructor
      refine ES.condD rfl (fun h1 => ?_) (fun h1 => ?_)
      · have h1 : ((r.kind : Nat) : Int) = 1 := h1
        rw [pre_1 (by omega)] at hpr
        subst hpr
        refine .gr ?_; repeat constructor
        refine EL.move rfl rfl rfl ?_
        refine EL.fieldAddr rfl rfl rfl rfl rfl rfl rfl rfl ?_
        refine EL.ofRV (RV.loadBA [Wv r.set.a, Wv r.set.b, Wv r.set.c, Wv r.set.d] rfl rfl rfl rfl (by repeat constructor) rfl) rfl rfl rfl (by intro c h; cases h) ?_
        refine EL.callPw rfl rfl rfl ent24 rfl (fun w hs => set_c r.set w (Rd.sat hT hs)) ?_
        (refine EL.callM rfl rfl rfl ent23 rfl (writeString_c g x.1 x.2.1 x.2.2 bs (setT r.set) (by omega)) (by repeat constructor) ?_; rintro ⟨a2, c2⟩)
        refine .gr ?_; repeat constructor
        exact PX.cutX (true, a2, c2) ⟨rfl, rfl, trivial⟩ (.i (by repeat constructor))
      have h1 : ¬ ((r.kind : Nat) : Int) = 1 := h1
      refine .gr ?_; repeat constructor
      refine EL.eqlI rfl rfl rfl rfl ?_
      refine EL.assign rfl rfl rfl ?_
      refine .gr ?_; repeat constructor
      refine ES.condD rfl (fun h2 => ?_) (fun h2 => ?_)
      · have h2 : ((r.kind : Nat) : Int) = 2 := h2
        rw [pre_2 (by omega)] at hpr
        subst hpr
        refine .gr ?_; repeat constructor
        refine EL.move rfl rfl rfl ?_
        (refine EL.callM rfl rfl rfl ent25 rfl (writeByte_c g x.1 x.2.1 x.2.2 bs 94 (by omega)) (by repeat constructor) ?_; rintro ⟨a2, c2⟩)
        refine .gr ?_; repeat constructor
        exact PX.cutX (true, a2, c2) ⟨rfl, rfl, trivial⟩ (.i (by repeat constructor))
      have h2 : ¬ ((r.kind : Nat) : Int) = 2 := h2
      refine .gr ?_; repeat constructor
      refine EL.eqlI rfl rfl rfl rfl ?_
      refine EL.assign rfl rfl rfl ?_
      refine .gr ?_; repeat constructor
      refine ES.condD rfl (fun h3 => ?_) (fun h3 => ?_)
      · have h3 : ((r.kind : Nat) : Int) = 3 := h3
        rw [pre_3 (by omega)] at hpr
        subst hpr
        refine .gr ?_; repeat constructor
        refine EL.move rfl rfl rfl ?_
        (refine EL.callM rfl rfl rfl ent25 rfl (writeByte_c g x.1 x.2.1 x.2.2 bs 36 (by omega)) (by repeat constructor) ?_; rintro ⟨a2, c2⟩)
        refine .gr ?_; repeat constructor
        exact PX.cutX (true, a2, c2) ⟨rfl, rfl, trivial⟩ (.i (by repeat constructor))
      have h3 : ¬ ((r.kind : Nat) : Int) = 3 := h3
      refine .gr ?_; repeat constructor
      refine EL.eqlI rfl rfl rfl rfl ?_
      refine EL.assign rfl rfl rfl ?_
      refine .gr ?_; repeat constructor
      refine ES.condD rfl (fun h6 => ?_) (fun h6 => ?_)
      · have h6 : ((r.kind : Nat) : Int) = 6 := h6
        rw [pre_6 (by omega)] at hpr
        have n9 := num_9 hfine
        have n3 := itoaM_len r.num
        subst hpr
        refine .gr ?_; repeat constructor
        refine EL.move rfl rfl rfl ?_
        refine EL.fieldAddr rfl rfl rfl rfl rfl rfl rfl rfl ?_
        (apply EL.loadB; exact rfl; exact rfl; exact rfl; exact rfl; exact rfl; (case hm => repeat constructor); exact rfl)
        refine EL.callPw rfl rfl rfl ent26 rfl (fun w hs => itoa_c r.num (by omega) w (PowR.sat hP hs)) ?_
        refine EL.cat rfl rfl rfl rfl (by simp; omega) ?_
        (refine EL.callM rfl rfl rfl ent23 rfl (writeString_c g x.1 x.2.1 x.2.2 bs (92 :: itoaM r.num) (by omega)) (by repeat constructor) ?_; rintro ⟨a2, c2⟩)
        refine .gr ?_; repeat constructor
        exact PX.cutX (true, a2, c2) ⟨rfl, rfl, trivial⟩ (.i (by repeat constructor))
      have h6 : ¬ ((r.kind : Nat) : Int) = 6 := h6
      refine .gr ?_; repeat constructor
      refine EL.eqlI rfl rfl rfl rfl ?_
      refine EL.assign rfl rfl rfl ?_
      refine .gr ?_; repeat constructor
      refine ES.condD rfl (fun h4 => ?_) (fun h4 => ?_)
      · have h4 : ((r.kind : Nat) : Int) = 4 := h4
        rw [pre_4 (by omega)] at hpr
        subst hpr
        refine .gr ?_; repeat constructor
        refine EL.move rfl rfl rfl ?_
        (refine EL.callM rfl rfl rfl ent23 rfl (writeString_c g x.1 x.2.1 x.2.2 bs [92, 40] (by omega)) (by repeat constructor) ?_; rintro ⟨a2, c2⟩)
        refine .gr ?_; repeat constructor
        exact PX.cutX (true, a2, c2) ⟨rfl, rfl, trivial⟩ (.i (by repeat constructor))
      have h4 : ¬ ((r.kind : Nat) : Int) = 4 := h4
      rw [pre_0 (by omega) (by omega) (by omega) (by omega) (by omega)] at hpr
      subst hpr
      rw [List.append_nil]
      refine .gr ?_; repeat constructor
      exact PX.cutX x ⟨rfl, rfl, trivial⟩ (.i (by repeat constructor))
    refine .gr ?_; repeat constructor
    refine EL.fieldAddr rfl rfl rfl rfl rfl rfl rfl rfl ?_
    (apply EL.loadB; exact rfl; exact rfl; exact rfl; exact rfl; exact rfl; (case hm => repeat constructor); exact rfl)
    refine EL.lenL rfl rfl rfl rfl rfl ?_
    refine EL.move rfl rfl rfl ?_
    refine .gr ?_; repeat constructor
    refine ES.loop (σ := Nat × (Bool × QA)) (fun z => z.1 ≤ r.kids.length) (fun z => [(0, Pv g 0), (3, Pv g3 0), (36, .slice ad r.kids.length cap), (37, Iv (r.kids.length : Nat)), (38, Iv (z.1 : Nat))])
      (fun z => HB1 g z.2 (bs ++ (pr ++ canL (r.kids.take z.1))) :: HB2 z.2 (bs ++ (pr ++ canL (r.kids.take z.1))) :: HA.blk g3 (.cells (reCells r (.slice ad r.kids.length cap)).toArray 27) :: HA.fix fp w1 :: R) (fun z => r.kids.length - z.1) (0, y) (Nat.zero_le _) ⟨rfl, rfl, rfl, rfl, rfl, trivial⟩ (by
        rw [List.take_zero, canL, List.append_nil]
        exact (.i (by repeat constructor))) ?_
    rintro ⟨i, z⟩ hi
    dsimp only at hi ⊢
    refine .gr ?_; repeat constructor
    refine EL.lss rfl rfl rfl rfl ?_
    refine .gr ?_; repeat constructor
    refine ES.condD rfl (fun hlt => ?_) (fun hge => ?_)
    · have hlt' : i < r.kids.length := by omega
      obtain ⟨k, hki⟩ : ∃ k, r.kids[i]? = some k := ⟨_, List.getElem?_eq_getElem hlt'⟩
      have hmem := List.mem_of_getElem? hki
      have hks := kids_lt hmem
      obtain ⟨kg, ko, rfl, hkn⟩ := hkids i k hki
      obtain ⟨kad, kcap, hkrd, hkk⟩ := hkn.kids
      have htk := canL_take r.kids i hlt'
      rw [show r.kids[i] = k from (List.getElem?_eq_some_iff.1 hki).2] at htk
      have hle := canL_take_le r.kids (i + 1)
      rw [htk, List.length_append] at hle
      have hrec := ih k (by omega) (fine_kid hfine hmem) kad kcap (fun i' k' hi' => by obtain ⟨g', o', e1, e2⟩ := hkk (by intro e; rw [e] at hi'; simp at hi'); exact ⟨g', o', e1, e2 i' k' hi'⟩) g z (bs ++ (pr ++ canL (r.kids.take i))) (by simp only [List.length_append]; omega)
      refine .gr ?_; repeat constructor
      refine EL.indexAddrL rfl rfl rfl rfl rfl rfl rfl (by omega) ?_
      refine EL.loadAgg (ad := ⟨kg, ko + i * 9, none⟩) (cs := reCells k (.slice kad k.kids.length kcap)) rfl rfl rfl rfl (by simp [reCells]; rfl) rfl (fun w hs j u hj => fixed_cell hs (by repeat constructor) hkrd j u hj) ?_
      (refine EL.alloc rfl rfl rfl ?_; intro g5)
      (apply EL.storeAll; exact rfl; exact rfl; exact rfl; exact rfl; exact rfl; (case p => repeat constructor); exact rfl; (case h1 => exact (by first | rfl | exact all1 rfl | (intro u hu; simp only [List.mem_cons, List.not_mem_nil, or_false] at hu; rcases hu with rfl | rfl | rfl | rfl <;> rfl) | (intro u hu; simp at hu; rcases hu with rfl | rfl | rfl | rfl <;> rfl) | (intro u hu; simp at hu; rcases hu with rfl | rfl | rfl <;> rfl) | (intro u hu; simp at hu; rcases hu with rfl | rfl <;> rfl) | (intro u hu; simp at hu; obtain ⟨_, _, rfl⟩ := hu; rfl))))
      refine .gr ?_; repeat constructor
      refine .gr ?_; repeat constructor
      refine EL.move rfl rfl rfl ?_
      (apply EL.loadAggB; exact rfl; exact rfl; exact rfl; exact rfl; exact rfl; (case hm => repeat constructor); exact rfl)
      (refine EL.callMw rfl rfl rfl ent12 rfl hrec (by repeat constructor) ?_; rintro ⟨u2, a2, c2⟩)
      refine .gr ?_; repeat constructor
      refine .gr ?_; repeat constructor
      refine EL.add1 rfl rfl rfl rfl (by omega) ?_
      refine EL.move rfl rfl rfl ?_
      refine .gr ?_; repeat constructor
      have e : bs ++ (pr ++ canL (r.kids.take i)) ++ canR k = bs ++ (pr ++ canL (r.kids.take (i + 1))) := by rw [htk]; simp
      rw [e]
      exact PX.loop (i + 1, (u2, a2, c2)) hlt' (by simp only; omega) ⟨rfl, rfl, rfl, rfl, rfl, trivial⟩ (.i (by repeat constructor))
    obtain rfl : i = r.kids.length := by omega
    rw [List.take_length]
    have hall : bs ++ canR r = bs ++ (pr ++ canL r.kids) ++ po := by rw [heq]; simp
    rw [hall]
    refine .gr ?_; repeat constructor
    refine EL.fieldAddr rfl rfl rfl rfl rfl rfl rfl rfl ?_
    (apply EL.loadB; exact rfl; exact rfl; exact rfl; exact rfl; exact rfl; (case hm => repeat constructor); exact rfl)
    refine .gr ?_; repeat constructor
    refine .gr ?_; repeat constructor
    refine EL.eqlI rfl rfl rfl rfl ?_
    refine EL.assign rfl rfl rfl ?_
    refine .gr ?_; repeat constructor
    refine ES.condD rfl (fun h4 => ?_) (fun h4 => ?_)
    · have h4 : ((r.kind : Nat) : Int) = 4 := h4
      rw [post_4 (by omega)] at hpo
      subst hpo
      refine .gr ?_; repeat constructor
      refine EL.move rfl rfl rfl ?_
      (refine EL.callM rfl rfl rfl ent23 rfl (writeString_c g z.1 z.2.1 z.2.2 (bs ++ (pr ++ canL r.kids)) [92, 41] (by simp only [List.length_append]; omega)) (by repeat constructor) ?_; rintro ⟨a2, c2⟩)
      refine .gr ?_; repeat constructor
      exact PX.end rfl Tryd.results12 .nil (fun w hs => ⟨(true, a2, c2), rfl, hs.ent (.i (by repeat constructor))⟩)
    have h4 : ¬ ((r.kind : Nat) : Int) = 4 := h4
    refine .gr ?_; repeat constructor
    refine EL.eqlI rfl rfl rfl rfl ?_
    refine EL.assign rfl rfl rfl ?_
    refine .gr ?_; repeat constructor
    refine ES.condD rfl (fun h5 => ?_) (fun h5 => ?_)
    · have h5 : ((r.kind : Nat) : Int) = 5 := h5
      rw [post_5 (by omega)] at hpo
      obtain ⟨r1, r2, r3⟩ := rep_5 hfine
      subst hpo
      refine .gr ?_; repeat constructor
      refine EL.move rfl rfl rfl ?_
      refine EL.fieldAddr rfl rfl rfl rfl rfl rfl rfl rfl ?_
      (apply EL.loadB; exact rfl; exact rfl; exact rfl; exact rfl; exact rfl; (case hm => repeat constructor); exact rfl)
      refine EL.fieldAddr rfl rfl rfl rfl rfl rfl rfl rfl ?_
      (apply EL.loadB; exact rfl; exact rfl; exact rfl; exact rfl; exact rfl; (case hm => repeat constructor); exact rfl)
      refine EL.callPw rfl rfl rfl ent27 rfl (fun w hs => times_c r.lo r.hi r1 r2 r3 w (PowR.sat hP hs)) ?_
      (refine EL.callM rfl rfl rfl ent23 rfl (writeString_c g z.1 z.2.1 z.2.2 (bs ++ (pr ++ canL r.kids)) (timesT r.lo r.hi) (by simp only [List.length_append]; omega)) (by repeat constructor) ?_; rintro ⟨a2, c2⟩)
      refine .gr ?_; repeat constructor
      exact PX.end rfl Tryd.results12 .nil (fun w hs => ⟨(true, a2, c2), rfl, hs.ent (.i (by repeat constructor))⟩)
    have h5 : ¬ ((r.kind : Nat) : Int) = 5 := h5
    rw [post_0 (by omega) (by omega)] at hpo
    subst hpo
    refine .gr ?_; repeat constructor
    exact PX.end rfl Tryd.results12 .nil (fun w hs => ⟨z, rfl, by rw [List.append_nil]; exact hs.ent (.i (by repeat constructor))⟩)
theorem write_c (w0 w1 : World) (B : Nat) (fp : List Nat) (hT : TabR w0 B) (hP : PowR w0 B) (r : RE) (hf : r.fine) (ad : Option Addr) (cap : Nat) (hk : KidsF fp w1 r.kids ad) (g : Nat) (hl : (canR r).length ≤ 1073741824) :
    MutAt Tryd.prog 12 #[Pv g 0, .agg (reCells r (.slice ad r.kids.length cap)).toArray] (HB g false none 0 [] ++ [HA.fix fp w1]) (fun _ : Bool × QA => .tuple #[]) (fun y => HB g y.1 y.2.1 y.2.2 (canR r) ++ [HA.fix fp w1]) w0 B := by
  have h := write_n w0 w1 B fp hT hP r.sz r (Nat.le_refl _) hf ad cap hk g (false, none, 0) [] (by simp; omega)
  rw [List.nil_append] at h
  exact h
def canM (t : List UInt8) : List UInt8 × Int × Nat := if (parseM t).e ≠ 0 then ([], (parseM t).e, (parseM t).at_) else (canR (parseM t).tree, 0, 0)
theorem canText_c (t : List UInt8) (ht : t.length ≤ 4611686018427387904) (w : World) (hG : GR w w.heap.size) (hT : TabR w w.heap.size) (hP : PowR w w.heap.size) :
    Pure Tryd.prog 6 #[Sv t] (fun _ : Unit => .tuple #[Sv (canM t).1, .agg #[Iv (canM t).2.1, Iv ((canM t).2.2 : Nat)]]) (fun _ => []) w := by
  have hw : canM t = if (parseM t).e ≠ 0 then ([], (parseM t).e, (parseM t).at_) else (canR (parseM t).tree, 0, 0) := rfl
  have hpf := parse_fine t
  have hcb := can_bound t
  have hpc := fun w hG => parse_c t ht w hG
  generalize parseM t = p at hw hpf hpc hcb
  obtain ⟨tree, pe, pat⟩ := p
  dsimp only at hw hpf hpc hcb
  refine calls_of_ES TB Tryd.func6 rfl _ Tryd.ntmps6 rfl (Sat.start w) ?_
  refine .gr ?_; repeat constructor
  refine EL.assign rfl rfl rfl ?_
  (refine EL.alloc rfl rfl rfl ?_; intro g3)
  refine .gr ?_; repeat constructor
  refine EL.move rfl rfl rfl ?_
  (refine EL.callXw rfl rfl rfl ent4 rfl (fun w hs => hpc w (GR.sat hG hs)) ?_; intro px)
  refine EL.move rfl rfl rfl ?_
  refine EL.extract rfl rfl rfl rfl ?_
  refine EL.extract rfl rfl rfl rfl ?_
  (refine EL.alloc rfl rfl rfl ?_; intro g4)
  (refine EL.alloc rfl rfl rfl ?_; intro g5)
  (apply EL.storeAll; exact rfl; exact rfl; exact rfl; exact rfl; exact rfl; (case p => repeat constructor); exact rfl; (case h1 => exact (by first | rfl | exact all1 rfl | (intro u hu; simp only [List.mem_cons, List.not_mem_nil, or_false] at hu; rcases hu with rfl | rfl | rfl | rfl <;> rfl) | (intro u hu; simp at hu; rcases hu with rfl | rfl | rfl | rfl <;> rfl) | (intro u hu; simp at hu; rcases hu with rfl | rfl | rfl <;> rfl) | (intro u hu; simp at hu; rcases hu with rfl | rfl <;> rfl) | (intro u hu; simp at hu; obtain ⟨_, _, rfl⟩ := hu; rfl))))
  (apply EL.storeAll; exact rfl; exact rfl; exact rfl; exact rfl; exact rfl; (case p => repeat constructor); exact rfl; (case h1 => exact (by first | rfl | exact all1 rfl | (intro u hu; simp only [List.mem_cons, List.not_mem_nil, or_false] at hu; rcases hu with rfl | rfl | rfl | rfl <;> rfl) | (intro u hu; simp at hu; rcases hu with rfl | rfl | rfl | rfl <;> rfl) | (intro u hu; simp at hu; rcases hu with rfl | rfl | rfl <;> rfl) | (intro u hu; simp at hu; rcases hu with rfl | rfl <;> rfl) | (intro u hu; simp at hu; obtain ⟨_, _, rfl⟩ := hu; rfl))))
  refine .gr ?_; repeat constructor
  refine .gr ?_; repeat constructor
  refine EL.fieldAddr rfl rfl rfl rfl rfl rfl rfl rfl ?_
  (apply EL.loadB; exact rfl; exact rfl; exact rfl; exact rfl; exact rfl; (case hm => repeat constructor); exact rfl)
  refine EL.neqI rfl rfl rfl rfl ?_
  refine .gr ?_; repeat constructor
  refine ES.condN rfl (fun hne => ?_) (fun he => ?_)
  · rw [if_pos hne] at hw
    rw [hw]
    refine .gs ?_; repeat constructor
    refine ES.draw (X := Unit) (fun _ => [(2, Sv []), (3, Pv g3 0)]) (fun _ => HA.blk g3 (.cells #[Iv pe, Iv (pat : Nat)] 30) :: []) (HA.blk g5 (.cells #[Iv pe, Iv (pat : Nat)] 30) :: []) mixed (.i (by repeat constructor)) ?_ (fun _ => ?_)
    · refine ED.take 0 rfl (by decide +kernel) CutX.no_panic (by decide +kernel) rfl rfl rfl (RV.loadAggB rfl rfl rfl (by repeat constructor) rfl) ?_
      refine ED.take 1 rfl (by decide +kernel) CutX.no_panic (by decide +kernel) rfl rfl rfl (RV.assign rfl) ?_
      refine ED.last 2 rfl (by decide +kernel) (by decide +kernel) (by decide +kernel) ?_
      (apply EL.storeAll; exact rfl; exact rfl; exact rfl; exact rfl; exact rfl; (case p => repeat constructor); exact rfl; (case h1 => exact (by first | rfl | exact all1 rfl | (intro u hu; simp only [List.mem_cons, List.not_mem_nil, or_false] at hu; rcases hu with rfl | rfl | rfl | rfl <;> rfl) | (intro u hu; simp at hu; rcases hu with rfl | rfl | rfl | rfl <;> rfl) | (intro u hu; simp at hu; rcases hu with rfl | rfl | rfl <;> rfl) | (intro u hu; simp at hu; rcases hu with rfl | rfl <;> rfl) | (intro u hu; simp at hu; obtain ⟨_, _, rfl⟩ := hu; rfl))))
      refine EL.endQ ?_
      exact PX.cutX () ⟨rfl, rfl, trivial⟩ (.i (by repeat constructor))
    refine .gr ?_; repeat constructor
    exact PX.ret rfl Tryd.results6 (.cons (.tmp rfl) (.cons (.blkA rfl rfl rfl (by repeat constructor) rfl) .nil)) (fun w hs => ⟨(), rfl, hs.ent (.i (by repeat constructor))⟩)
  rw [if_neg (fun h => h he)] at hw
  rw [hw]
  have hcl := hcb he
  refine ES.imp (H' := HA.forest px.fp [tree] (reCells tree (.slice px.ad tree.kids.length px.cap)) :: HA.blk g4 (.cells (reCells tree (.slice px.ad tree.kids.length px.cap)).toArray 27) :: HA.blk g3 (.cells #[Iv 0, Iv 0] 30) :: []) (fun w hs => hs.ent (.i (by repeat constructor))) ?_
  refine ES.fix (fun w1 hw1 => ?_)
  refine .gr ?_; repeat constructor
  (refine EL.alloc rfl rfl rfl ?_; intro g6)
  refine .gr ?_; repeat constructor
  refine EL.nilBuf 5 ?_
  refine .gr ?_; repeat constructor
  (apply EL.loadAggB; exact rfl; exact rfl; exact rfl; exact rfl; exact rfl; (case hm => repeat constructor); exact rfl)
  (refine EL.callMw rfl rfl rfl ent12 rfl (write_c _ w1 _ px.fp hT hP tree hpf px.ad px.cap (kidsF_of hw1) g6 (by omega)) (by repeat constructor) ?_; rintro ⟨u2, a2, c2⟩)
  refine .gr ?_; repeat constructor
  refine .gr ?_; repeat constructor
  refine EL.callM1 rfl rfl rfl ent13 rfl (bstring_c g6 u2 a2 c2 (canR tree) (by omega)) (by repeat constructor) ?_
  refine EL.buildZ rfl rfl rfl rfl rfl ?_
  refine EL.assign rfl rfl rfl ?_
  (apply EL.storeAll; exact rfl; exact rfl; exact rfl; exact rfl; exact rfl; (case p => repeat constructor); exact rfl; (case h1 => exact (by first | rfl | exact all1 rfl | (intro u hu; simp only [List.mem_cons, List.not_mem_nil, or_false] at hu; rcases hu with rfl | rfl | rfl | rfl <;> rfl) | (intro u hu; simp at hu; rcases hu with rfl | rfl | rfl | rfl <;> rfl) | (intro u hu; simp at hu; rcases hu with rfl | rfl | rfl <;> rfl) | (intro u hu; simp at hu; rcases hu with rfl | rfl <;> rfl) | (intro u hu; simp at hu; obtain ⟨_, _, rfl⟩ := hu; rfl))))
  refine .gr ?_; repeat constructor
  exact PX.ret rfl Tryd.results6 (.cons (.tmp rfl) (.cons (.blkA rfl rfl rfl (by repeat constructor) rfl) .nil)) (fun w hs => ⟨(), rfl, hs.ent (.i (by repeat constructor))⟩)
end Go.Proofs.YtcoajnpneableaaDoor
namespace Go.Proofs.YtcoajnpneableaaDoor.Sl
open Go Go.RowKit
set_option linter.unusedVariables false
set_option linter.unusedSimpArgs false
def SelfAt (P : Program) (d : Nat) (t : TypeId) (v : Value) : Prop := ∀ w, (Op.equalIn d t v v).run P w = .ok true w
theorem SelfAt.int {P : Program} {d t : Nat} {k : IntKind} (hT : P.underlying t = some (.int k)) (m : Int) : SelfAt P (d + 1) t (.int k m) := fun w => by
  rw [run_equalIn_int hT]; simp
theorem SelfAt.bool {P : Program} {d t : Nat} (hT : P.underlying t = some .bool) (b : Bool) : SelfAt P (d + 1) t (.bool b) := fun w => by
  simp only [Op.equalIn, Sem.run_bind, run_underlying hT, Result.andThen, Sem.run_pure, beq_self_eq_true]
theorem part_cell {P : Program} (T : TyTab P) {el : TypeId} {te : TI} (hte : T.f el = some te) (hag : te.agg = false) {cs : Array Value} {i : Nat} {v : Value} (h : cs[i]? = some v) (w : World) : (part el cs i).run P w = .ok v w := by
  simp [part, ((T.ok el te hte).runInfo w).2.2.2, hag, Result.andThen, h]
theorem SelfAt.struct {P : Program} (T : TyTab P) {d t : Nat} {ti : TI} {fs : Array Field} (ht : T.f t = some ti) (hu : ti.u = .struct fs) (hst : P.stoodInHeld t = false) (cs : Array Value)
    (hf : ∀ f ∈ fs.toList, ∃ v, (∀ w, (part f.type cs f.offset).run P w = .ok v w) ∧ SelfAt P d f.type v) : SelfAt P (d + 1) t (.agg cs) := fun w => by
  have hT := (T.ok t ti ht).u
  rw [hu] at hT
  have hpr : (program).run P w = .ok P w := rfl
  rw [Op.equalIn]
  simp only [Sem.run_bind, run_underlying hT, Result.andThen, hpr, hst, Bool.false_eq_true, if_false]
  obtain ⟨l⟩ := fs
  simp only [List.forIn_toArray]
  have loop : ∀ l : List Field, (∀ f ∈ l, ∃ v, (∀ w, (part f.type cs f.offset).run P w = .ok v w) ∧ SelfAt P d f.type v) → (forIn (m := Sem) l ((none, ()) : Option Bool × Unit) (fun f r => do
      if f.name ≠ "_" then
        if !(← Op.equalIn d f.type (← part f.type cs f.offset) (← part f.type cs f.offset)) then pure (.done (some false, ()))
        else pure (.yield (none, ()))
      else pure (.yield (none, ())))).run P w = .ok (none, ()) w := by
    intro l
    induction l with
    | nil => intro _; simp
    | cons f l ih =>
      intro h
      obtain ⟨v, h1, h2⟩ := h f (by simp)
      have h2' := h2 w
      rw [List.forIn_cons]
      by_cases hn : f.name = "_"
      · simp only [hn, ne_eq, not_true_eq_false, if_false, Sem.run_bind, Sem.run_pure, Result.andThen]
        exact ih (fun g hg => h g (by simp [hg]))
      · simp only [hn, ne_eq, not_false_eq_true, if_true, Sem.run_bind, Sem.run_pure, Result.andThen, h1, h2', Bool.not_true, Bool.false_eq_true, if_false]
        exact ih (fun g hg => h g (by simp [hg]))
  have h0 := loop l hf
  rw [h0]
  rfl
theorem SelfAt.equal {P : Program} {t : TypeId} {v : Value} (h : SelfAt P 10000 t v) (w : World) : (Op.equal t v v).run P w = .ok true w := h w
end Go.Proofs.YtcoajnpneableaaDoor.Sl
namespace Go.Proofs.YtcoajnpneableaaDoor
open Go Go.RowKit Sl
set_option maxRecDepth 100000
set_option maxHeartbeats 8000000
set_option linter.unusedVariables false
set_option linter.unusedSimpArgs false
attribute [local irreducible] ES EL PX wps
theorem treeSame_n (n : Nat) : ∀ r : RE, r.sz ≤ n → r.fine → ∀ (ad ad2 : Option Addr) (cap cap2 : Nat) (w : World), KidsRd w w.heap.size r.kids ad → KidsRd w w.heap.size r.kids ad2 →
    Pure Tryd.prog 7 #[.agg (reCells r (.slice ad r.kids.length cap)).toArray, .agg (reCells r (.slice ad2 r.kids.length cap2)).toArray] (fun _ : Unit => .bool true) (fun _ => []) w := by
  induction n with
  | zero => intro r hr; exact absurd (sz_pos r) (by omega)
  | succ n ih =>
    intro r hsz hfine ad ad2 cap cap2 w hkids hkids2
    have hkl := fine_len hfine
    refine calls_of_ES TB Tryd.func7 rfl _ Tryd.ntmps7 rfl (Sat.start w) ?_
    refine .gr ?_; repeat constructor
    (refine EL.box rfl rfl rfl ?_; intro g2)
    (refine EL.box rfl rfl rfl ?_; intro g3)
    refine EL.assign rfl rfl rfl ?_
    refine .gr ?_; repeat constructor
    refine .gr ?_; repeat constructor
    refine EL.fieldAddr rfl rfl rfl rfl rfl rfl rfl rfl ?_
    (apply EL.loadB; exact rfl; exact rfl; exact rfl; exact rfl; exact rfl; (case hm => repeat constructor); exact rfl)
    refine EL.fieldAddr rfl rfl rfl rfl rfl rfl rfl rfl ?_
    (apply EL.loadB; exact rfl; exact rfl; exact rfl; exact rfl; exact rfl; (case hm => repeat constructor); exact rfl)
    refine EL.neqI rfl rfl rfl rfl ?_
    refine EL.move rfl rfl rfl ?_
    refine EL.rew (d := 11) (v' := .bool false) rfl (by first | rfl | (decide) | (simp)) ?_
    refine EL.fieldAddr rfl rfl rfl rfl rfl rfl rfl rfl ?_
    refine EL.ofRV (RV.loadBA [Wv r.set.a, Wv r.set.b, Wv r.set.c, Wv r.set.d] rfl rfl rfl rfl (by repeat constructor) rfl) rfl rfl rfl (by intro c h; cases h) ?_
    refine EL.fieldAddr rfl rfl rfl rfl rfl rfl rfl rfl ?_
    refine EL.ofRV (RV.loadBA [Wv r.set.a, Wv r.set.b, Wv r.set.c, Wv r.set.d] rfl rfl rfl rfl (by repeat constructor) rfl) rfl rfl rfl (by intro c h; cases h) ?_
    refine EL.neqBS (w0 := r.set.a) (w1 := r.set.b) (w2 := r.set.c) (w3 := r.set.d) (v0 := r.set.a) (v1 := r.set.b) (v2 := r.set.c) (v3 := r.set.d) rfl rfl rfl rfl eqg24 rfl rfl rfl rfl rfl ?_
    refine EL.pickF rfl rfl rfl rfl ?_
    refine EL.move rfl rfl rfl ?_
    refine EL.rew (d := 18) (v' := .bool false) rfl ((by simp)) ?_
    refine EL.fieldAddr rfl rfl rfl rfl rfl rfl rfl rfl ?_
    (apply EL.loadB; exact rfl; exact rfl; exact rfl; exact rfl; exact rfl; (case hm => repeat constructor); exact rfl)
    refine EL.fieldAddr rfl rfl rfl rfl rfl rfl rfl rfl ?_
    (apply EL.loadB; exact rfl; exact rfl; exact rfl; exact rfl; exact rfl; (case hm => repeat constructor); exact rfl)
    refine EL.neqI rfl rfl rfl rfl ?_
    refine EL.pickF rfl rfl rfl rfl ?_
    refine EL.move rfl rfl rfl ?_
    refine EL.rew (d := 25) (v' := .bool false) rfl (by first | rfl | (decide) | (simp)) ?_
    refine EL.fieldAddr rfl rfl rfl rfl rfl rfl rfl rfl ?_
    (apply EL.loadB; exact rfl; exact rfl; exact rfl; exact rfl; exact rfl; (case hm => repeat constructor); exact rfl)
    refine EL.fieldAddr rfl rfl rfl rfl rfl rfl rfl rfl ?_
    (apply EL.loadB; exact rfl; exact rfl; exact rfl; exact rfl; exact rfl; (case hm => repeat constructor); exact rfl)
    refine EL.neqI rfl rfl rfl rfl ?_
    refine EL.pickF rfl rfl rfl rfl ?_
    refine EL.move rfl rfl rfl ?_
    refine EL.rew (d := 32) (v' := .bool false) rfl (by first | rfl | (decide) | (simp)) ?_
    refine EL.fieldAddr rfl rfl rfl rfl rfl rfl rfl rfl ?_
    (apply EL.loadB; exact rfl; exact rfl; exact rfl; exact rfl; exact rfl; (case hm => repeat constructor); exact rfl)
    refine EL.fieldAddr rfl rfl rfl rfl rfl rfl rfl rfl ?_
    (apply EL.loadB; exact rfl; exact rfl; exact rfl; exact rfl; exact rfl; (case hm => repeat constructor); exact rfl)
    refine EL.neqI rfl rfl rfl rfl ?_
    refine EL.pickF rfl rfl rfl rfl ?_
    refine EL.move rfl rfl rfl ?_
    refine EL.rew (d := 39) (v' := .bool false) rfl (by first | rfl | (decide) | (simp)) ?_
    refine EL.fieldAddr rfl rfl rfl rfl rfl rfl rfl rfl ?_
    (apply EL.loadB; exact rfl; exact rfl; exact rfl; exact rfl; exact rfl; (case hm => repeat constructor); exact rfl)
    refine EL.lenL rfl rfl rfl rfl rfl ?_
    refine EL.fieldAddr rfl rfl rfl rfl rfl rfl rfl rfl ?_
    (apply EL.loadB; exact rfl; exact rfl; exact rfl; exact rfl; exact rfl; (case hm => repeat constructor); exact rfl)
    refine EL.lenL rfl rfl rfl rfl rfl ?_
    refine EL.neqI rfl rfl rfl rfl ?_
    refine EL.pickF rfl rfl rfl rfl ?_
    refine .gr ?_; repeat constructor
    refine ES.condN rfl (fun h => absurd rfl h) (fun _ => ?_)
    refine .gr ?_; repeat constructor
    refine EL.assign rfl rfl rfl ?_
    refine .gr ?_; repeat constructor
    refine ES.loop (σ := Nat) (fun i => i ≤ r.kids.length) (fun i => [(2, Pv g2 0), (3, Pv g3 0), (5, Iv (i : Nat))])
      (fun i => HA.blk g2 (.cells (reCells r (.slice ad r.kids.length cap)).toArray 27) :: HA.blk g3 (.cells (reCells r (.slice ad2 r.kids.length cap2)).toArray 27) :: []) (fun i => r.kids.length - i) 0 (Nat.zero_le _) ⟨rfl, rfl, rfl, trivial⟩ (.i (by repeat constructor)) ?_
    rintro i hi
    dsimp only at hi ⊢
    refine .gr ?_; repeat constructor
    refine EL.move rfl rfl rfl ?_
    refine EL.fieldAddr rfl rfl rfl rfl rfl rfl rfl rfl ?_
    (apply EL.loadB; exact rfl; exact rfl; exact rfl; exact rfl; exact rfl; (case hm => repeat constructor); exact rfl)
    refine EL.lenL rfl rfl rfl rfl rfl ?_
    refine EL.lss rfl rfl rfl rfl ?_
    refine .gr ?_; repeat constructor
    refine ES.condD rfl (fun hlt => ?_) (fun hge => ?_)
    · have hlt' : i < r.kids.length := by omega
      obtain ⟨k, hki⟩ : ∃ k, r.kids[i]? = some k := ⟨_, List.getElem?_eq_getElem hlt'⟩
      have hmem := List.mem_of_getElem? hki
      have hks := kids_lt hmem
      obtain ⟨kg, ko, rfl, hkn⟩ := hkids i k hki
      obtain ⟨kad, kcap, hkrd, hkk⟩ := hkn.kids
      have hkrd2 : Rd w w.heap.size (some ⟨kg, ko + i * 9, none⟩) (reCells k (.slice kad k.kids.length kcap)) := hkrd.rd
      obtain ⟨mg, mo, rfl, hmn⟩ := hkids2 i k hki
      obtain ⟨mad, mcap, hmrd, hmk⟩ := hmn.kids
      have hmrd2 : Rd w w.heap.size (some ⟨mg, mo + i * 9, none⟩) (reCells k (.slice mad k.kids.length mcap)) := hmrd.rd
      have hrec := ih k (by omega) (fine_kid hfine hmem) kad mad kcap mcap
      refine .gs ?_; repeat constructor
      refine ES.draw (X := Unit) (fun _ => [(2, Pv g2 0), (3, Pv g3 0), (5, Iv (i : Nat)), (66, .bool false)]) (fun _ => HA.blk g2 (.cells (reCells r (.slice (some ⟨kg, ko, none⟩) r.kids.length cap)).toArray 27) :: HA.blk g3 (.cells (reCells r (.slice (some ⟨mg, mo, none⟩) r.kids.length cap2)).toArray 27) :: []) (HA.blk g2 (.cells (reCells r (.slice (some ⟨kg, ko, none⟩) r.kids.length cap)).toArray 27) :: HA.blk g3 (.cells (reCells r (.slice (some ⟨mg, mo, none⟩) r.kids.length cap2)).toArray 27) :: []) mixed (.i (by repeat constructor)) ?_ (fun _ => ?_)
      · refine ED.take 0 rfl (by decide +kernel) CutX.no_panic (by decide +kernel) rfl rfl rfl (RV.fieldAddr rfl rfl rfl rfl rfl rfl) ?_
        refine ED.take 1 rfl (by decide +kernel) CutX.no_panic (by decide +kernel) rfl rfl rfl (RV.loadB rfl rfl rfl (by repeat constructor) rfl) ?_
        refine ED.take 2 rfl (by decide +kernel) CutX.no_panic (by decide +kernel) rfl rfl rfl (RV.move rfl) ?_
        refine ED.take 3 rfl (by decide +kernel) CutX.no_panic (by decide +kernel) rfl rfl rfl (RV.indexAddrL rfl rfl rfl rfl rfl (by omega)) ?_
        refine ED.take 4 rfl (by decide +kernel) CutX.no_panic (by decide +kernel) rfl rfl rfl (RV.loadOldA (j := 0) (vs := reCells k (.slice kad k.kids.length kcap)) rfl rfl rfl rfl (by simp [reCells]) hkrd2 (fun i u hi => by rw [Nat.zero_add]; exact hi)) ?_
        refine ED.take 5 rfl (by decide +kernel) CutX.no_panic (by decide +kernel) rfl rfl rfl (RV.fieldAddr rfl rfl rfl rfl rfl rfl) ?_
        refine ED.take 6 rfl (by decide +kernel) CutX.no_panic (by decide +kernel) rfl rfl rfl (RV.loadB rfl rfl rfl (by repeat constructor) rfl) ?_
        refine ED.take 7 rfl (by decide +kernel) CutX.no_panic (by decide +kernel) rfl rfl rfl (RV.move rfl) ?_
        refine ED.take 8 rfl (by decide +kernel) CutX.no_panic (by decide +kernel) rfl rfl rfl (RV.indexAddrL rfl rfl rfl rfl rfl (by omega)) ?_
        refine ED.take 9 rfl (by decide +kernel) CutX.no_panic (by decide +kernel) rfl rfl rfl (RV.loadOldA (j := 0) (vs := reCells k (.slice mad k.kids.length mcap)) rfl rfl rfl rfl (by simp [reCells]) hmrd2 (fun i u hi => by rw [Nat.zero_add]; exact hi)) ?_
        refine ED.loud 10 rfl (by decide +kernel) ?_
        (refine EL.callPw rfl rfl rfl ent7 rfl (fun w' hs => hrec w' (fun i' k' hi' => by obtain ⟨g', o', e1, e2⟩ := hkk (by intro e; rw [e] at hi'; simp at hi'); exact ⟨g', o', e1, NodeRd.sat (e2 i' k' hi') hs⟩) (fun i' k' hi' => by obtain ⟨g', o', e1, e2⟩ := hmk (by intro e; rw [e] at hi'; simp at hi'); exact ⟨g', o', e1, NodeRd.sat (e2 i' k' hi') hs⟩)) ?_)
        refine ED.next (.i (by repeat constructor)) ?_
        refine ED.take 11 rfl (by decide +kernel) CutX.no_panic (by decide +kernel) rfl rfl rfl (RV.not rfl) ?_
        refine ED.done (by decide +kernel) ?_
        exact PX.cutX () ⟨rfl, rfl, rfl, getA rfl (by simp), trivial⟩ (.i (by repeat constructor))
      refine ES.condF rfl ?_
      refine .gr ?_; repeat constructor
      refine EL.move rfl rfl rfl ?_
      refine EL.add1 rfl rfl rfl rfl (by omega) ?_
      refine EL.assign rfl rfl rfl ?_
      refine .gr ?_; repeat constructor
      exact PX.loop (i + 1) hlt' (by omega) ⟨rfl, rfl, rfl, trivial⟩ (.i (by repeat constructor))
    · refine .gr ?_; repeat constructor
      refine EL.assign rfl rfl rfl ?_
      refine .gr ?_; repeat constructor
      exact PX.ret rfl Tryd.results7 (.cons (.tmp rfl) .nil) (fun w hs => ⟨(), rfl, hs.ent (.nil _)⟩)
theorem treeSame_c (r : RE) (hf : r.fine) (ad ad2 : Option Addr) (cap cap2 : Nat) (w : World) (h : KidsRd w w.heap.size r.kids ad) (h2 : KidsRd w w.heap.size r.kids ad2) :
    Pure Tryd.prog 7 #[.agg (reCells r (.slice ad r.kids.length cap)).toArray, .agg (reCells r (.slice ad2 r.kids.length cap2)).toArray] (fun _ : Unit => .bool true) (fun _ => []) w := treeSame_n r.sz r (Nat.le_refl _) hf ad ad2 cap cap2 w h h2
theorem me_self (m : Me) (w : World) : (Op.equal 34 (.agg m.cells.toArray) (.agg m.cells.toArray)).run Tryd.prog w = .ok true w :=
  SelfAt.equal (SelfAt.struct (d := 9999) TB rfl rfl sth34 _ (fun f hf => by
    rcases hf with _ | ⟨_, _ | ⟨_, _ | ⟨_, _ | ⟨_, _ | ⟨_, _ | ⟨_, _ | ⟨_, hf⟩⟩⟩⟩⟩⟩⟩
    · exact ⟨_, fun w => part_cell TB rfl rfl rfl w, SelfAt.int Tryd.underlying3 _⟩
    · exact ⟨_, fun w => part_cell TB rfl rfl rfl w, SelfAt.int Tryd.underlying3 _⟩
    · exact ⟨_, fun w => part_cell TB rfl rfl rfl w, SelfAt.int Tryd.underlying3 _⟩
    · exact ⟨_, fun w => part_cell TB rfl rfl rfl w, SelfAt.int Tryd.underlying3 _⟩
    · exact ⟨_, fun w => part_cell TB rfl rfl rfl w, SelfAt.bool Tryd.underlying4 _⟩
    · exact ⟨_, fun w => part_cell TB rfl rfl rfl w, SelfAt.bool Tryd.underlying4 _⟩
    · exact ⟨_, fun w => part_cell TB rfl rfl rfl w, SelfAt.bool Tryd.underlying4 _⟩
    · nomatch hf)) w
end Go.Proofs.YtcoajnpneableaaDoor
namespace Go.Proofs.YtcoajnpneableaaDoor.Sl
open Go Go.RowKit Go.ChangeShapes Go.WideShapes Go.ChangeAt
set_option linter.unusedVariables false
set_option linter.unusedSimpArgs false
def rowedB (P : Program) (ts : List TypeId) : Bool := ts.all fun t => P.readableRec t && decide (t < P.types.size)
theorem trodAll_below {H : Type} {enc : TypeId × Value → H} {P : Program} (hl : laidOutB P = true) {W W' : World} (hb : Below W.heap.size W W') :
    ∀ {ts : List TypeId} {vs : List Value} {ds : List (DataW H)} {ps : List MemPlace}, rowedB P ts = true → (∀ x ∈ ps, x.block < W.heap.size) → DataW.TrodAll enc P W 0 (fun _ => true) true ts vs ds ps → DataW.TrodAll enc P W' 0 (fun b => decide (b < W.heap.size)) true ts vs ds ps
  | [], [], [], _, _, _, h => h
  | t :: ts, v :: vs, d :: ds, ps, hr, hlt, h => by
    obtain ⟨p, q, h1, h2, rfl⟩ := h
    simp only [rowedB, List.all_cons, Bool.and_eq_true, decide_eq_true_eq] at hr
    exact ⟨p, q, Below.trod hl hr.1.1 hr.1.2 h1 hb (fun x hx => hlt x (by simp [hx])), trodAll_below hl hb (by simpa [rowedB] using hr.2) (fun x hx => hlt x (by simp [hx])) h2, rfl⟩
theorem law_true {H : Type} {enc : TypeId × Value → H} {P : Program} (hl : laidOutB P = true) {f : Func} {tb : TypeId} {s : ChangeSpec} {W W' : World} {args : Array Value} {ds gs : List (DataW H)} {before : List MemPlace}
    (hres : f.resultTypes = #[tb]) (hu : P.underlying tb = some .bool) (hts : rowedB P f.params.toList = true) (hv : varsRowed P s.vars = true) (apart : Bool)
    (hR : (s.fn H (ds ++ gs)).results = [.lit (.bool true)]) (hA : (s.fn H (ds ++ gs)).args = ds) (hV : (s.fn H (ds ++ gs)).vars = gs)
    (hW : DataW.Whole enc P f.params.toList s.vars apart W args.toList ds gs before) (hb : Below W.heap.size W W') : s.post enc P f apart true false false W args (.bool true) W' := by
  have hlt := hW.lt
  have hW' := hW
  obtain ⟨p, q, h1, h2, rfl, h4, h5⟩ := hW
  refine ⟨ds, gs, p ++ q, [], p, q, hW', ?_, ?_, ?_, hb.frame _, fun h => by cases h⟩
  · rw [hres, hR]
    exact trodAll_mk1 (shut_bool hu true)
  · rw [hA]
    exact trodAll_below hl hb hts (fun x hx => hlt x (by simp [hx])) h1
  · rw [hV]
    exact Below.trodVars hl hb hv h2
theorem open_sv {H : Type} {enc : TypeId × Value → H} {P : Program} {w : World} {base : Nat} {sp : Nat → Bool} {held : Bool} {r : Reach} {b0 : Nat} {t : TypeId} {v : Value} {d : DataW H} {ps : List MemPlace} (ht : P.underlying t = some .string) (hval : Value.okWide P w r b0 t v) (hd : DataW.Trod enc P w base sp held t v d ps) :
    ∃ l : List UInt8, v = Sv l ∧ d = .lit (.string l) := by
  obtain ⟨s, rfl, rfl, _, _⟩ := ChangeMaps.open_string ht hval hd
  exact ⟨s.data.toList, Sv_eta s, rfl⟩
theorem w_str {H : Type} {P : Program} {t : TypeId} {l : List UInt8} : DataW.weights (H := H) P t (.lit (.string l)) = [l.length] := by simp [DataW.weights]
theorem w_int {H : Type} {P : Program} {t : TypeId} {k : IntKind} {n : Int} : DataW.weights (H := H) P t (.lit (.int k n)) = [] := by simp [DataW.weights]
end Go.Proofs.YtcoajnpneableaaDoor.Sl
namespace Go.Proofs.YtcoajnpneableaaDoor
theorem own : Go.ownKnob Tryd.prog.godebug = none := by kernel_rfl
theorem laidOut : Go.laidOutB Tryd.prog = true := by kernel_rfl
end Go.Proofs.YtcoajnpneableaaDoor
namespace Go.Proofs.YtcoajnpneableaaDoor.Sl
open Go Go.RowKit Go.ChangeShapes Go.WideShapes Go.ChangeAt
set_option linter.unusedVariables false
set_option linter.unusedSimpArgs false
end Go.Proofs.YtcoajnpneableaaDoor.Sl
