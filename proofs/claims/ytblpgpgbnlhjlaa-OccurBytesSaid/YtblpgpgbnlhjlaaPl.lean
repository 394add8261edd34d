/- Layer 4 (bre): Parse. -/
import Derived.Test.YtblpgpgbnlhjlaaPk
namespace Go.Proofs.Ytblpgpgbnlhjlaa
open Go Go.RowKit Sl
set_option maxRecDepth 100000
set_option maxHeartbeats 8000000
set_option linter.unusedVariables false
set_option linter.unusedSimpArgs false
attribute [local irreducible] ES EL PX wps

abbrev PP (g fg fcap : Nat) (p : PS) (tv : FV) (rv : List (Frame × FV)) : HA := HA.pack (PH g fg fcap p tv rv)
theorem Sat.packL {w0 w : World} {B : Nat} {T R : List HA} (h : Sat w0 B (T ++ R) w) : Sat w0 B (HA.pack T :: R) w := Sl.Sat.pack h
theorem Sat.unpackL {w0 w : World} {B : Nat} {T R : List HA} (h : Sat w0 B (HA.pack T :: R) w) : Sat w0 B (T ++ R) w := Sl.Sat.unpack h
def tkH1 (g : Nat) (r : PS × Int) (x : TXs r.1) : List HA := if r.2 = 0 then [PP g x.1.fg x.1.fcap r.1 x.1.tv x.1.rv] else []
theorem take1_c (g fg fcap : Nat) (p : PS) (tv : FV) (rv : List (Frame × FV)) (hrv : rv.map Prod.fst = p.rest) (N : Nat) (hN : N ≤ 60000) (hp : POk p N) (k : Tok) (hk : TokOk p k) :
    Mut Try.prog 58 #[Pv g 0, tokV k] [PP g fg fcap p tv rv] (fun _ : TXs (takeM p k).1 => Iv (takeM p k).2) (fun x => tkH1 g (takeM p k) x) := by
  intro w0 B R w h
  refine (take_c g fg fcap p tv rv hrv N hN hp k hk w0 B R w (Sat.unpackL h)).mono ?_
  rintro e w' ⟨x, he, hs⟩
  refine ⟨x, he, ?_⟩
  unfold tkH at hs
  show Sat w0 B (tkH1 g (takeM p k) x ++ R) w'
  unfold tkH1
  by_cases h0 : (takeM p k).2 = 0
  · rw [if_pos h0]
    simp only [if_pos h0] at hs
    exact Sat.packL hs
  · rw [if_neg h0]
    simp only [if_neg h0] at hs
    exact hs
structure PX0 where
  ad : Option Addr
  cap : Nat
  fp : List Nat
abbrev zeroRe : Array Value := (reCells (.cat []) (.slice none 0 0)).toArray
structure PSt where
  p : PS
  fg : Nat
  fcap : Nat
  tv : FV
  rv : List (Frame × FV)
theorem parse_c (t : List UInt8) (ht0 : t.length ≤ 4611686018427387904) (w : World) (hG : GR w w.heap.size) :
    Pure Try.prog 40 #[Sv t] (fun x : PX0 => .tuple #[.agg (reCells (parseM t).tree (.slice x.ad (parseM t).tree.kids.length x.cap)).toArray, .agg #[Iv (parseM t).e, Iv ((parseM t).at_ : Nat)]])
      (fun x => [HA.forest x.fp [(parseM t).tree] (reCells (parseM t).tree (.slice x.ad (parseM t).tree.kids.length x.cap))]) w := by
  have hpm : parseM t = if 512 < t.length then ⟨.cat [], 2, 0⟩ else parseGo (toksM t) ps0 := rfl
  have hfin : ∀ {w0 w' : World} {B : Nat} {R : List HA}, Sat w0 B R w' → Sat w0 B [HA.forest [] [RE.cat []] (reCells (.cat []) (.slice none 0 0))] w' := fun {w0 w' B R} h => by
    have h0 : Sat w0 B [] w' := Sat.tailL (A := R) (by rw [List.append_nil]; exact h)
    exact Sat.forest0 h0 _ _ (fun _ _ => Forest.leaf (.cat []) rfl)
  refine calls_of_ESM TB Try.func40 rfl _ Try.ntmps40 rfl (Sat.start w) ?_
  refine .gr ?_; repeat constructor
  (refine EL.alloc rfl rfl rfl ?_; intro g2)
  (refine EL.alloc rfl rfl rfl ?_; intro g3)
  refine .gr ?_; repeat constructor
  refine EL.move rfl rfl rfl ?_
  refine EL.lenS rfl rfl rfl rfl rfl ?_
  refine EL.gtr rfl rfl rfl rfl ?_
  refine .gr ?_; repeat constructor
  refine ES.condD rfl (fun hlong => ?_) (fun hshort => ?_)
  · rw [if_pos (by omega)] at hpm
    rw [hpm]
    refine .gr ?_; repeat constructor
    refine EL.buildZ rfl rfl rfl rfl rfl ?_
    refine EL.buildS #[_, .int .i64 0] rfl rfl rfl rfl rfl rfl rfl ?_
    (apply EL.storeAll; exact rfl; exact rfl; exact rfl; exact rfl; exact rfl; (case p => repeat constructor); exact rfl; (case h1 => exact (by first | rfl | exact all1 rfl | (intro u hu; simp only [List.mem_cons, List.not_mem_nil, or_false] at hu; rcases hu with rfl | rfl | rfl | rfl <;> rfl) | (intro u hu; simp at hu; rcases hu with rfl | rfl | rfl | rfl <;> rfl) | (intro u hu; simp at hu; rcases hu with rfl | rfl | rfl <;> rfl) | (intro u hu; simp at hu; rcases hu with rfl | rfl <;> rfl) | (intro u hu; simp at hu; obtain ⟨_, _, rfl⟩ := hu; rfl))))
    (apply EL.storeAll; exact rfl; exact rfl; exact rfl; exact rfl; exact rfl; (case p => repeat constructor); exact rfl; (case h1 => exact (by first | rfl | exact all1 rfl | (intro u hu; simp only [List.mem_cons, List.not_mem_nil, or_false] at hu; rcases hu with rfl | rfl | rfl | rfl <;> rfl) | (intro u hu; simp at hu; rcases hu with rfl | rfl | rfl | rfl <;> rfl) | (intro u hu; simp at hu; rcases hu with rfl | rfl | rfl <;> rfl) | (intro u hu; simp at hu; rcases hu with rfl | rfl <;> rfl) | (intro u hu; simp at hu; obtain ⟨_, _, rfl⟩ := hu; rfl))))
    refine .gr ?_; repeat constructor
    exact PX.retM [] rfl (.nil _) Try.results40 (.cons (.blkA rfl rfl rfl (by repeat constructor) rfl) (.cons (.blkA rfl rfl rfl (by repeat constructor) rfl) .nil)) (fun w hs => ⟨⟨none, 0, []⟩, rfl, hfin hs⟩)
  rw [if_neg (by omega)] at hpm
  have hlen : t.length ≤ 512 := by omega
  have ht : t.length ≤ 1073741824 := by omega
  have htl : (toksM t).length ≤ 512 := Nat.le_trans (toks_len t t.length 0 true true) hlen
  have hall := parse_toks_ok t
  refine .gr ?_; repeat constructor
  refine EL.buildZ rfl rfl rfl rfl rfl ?_
  (refine EL.buildSlice1 rfl rfl rfl rfl rfl rfl rfl rfl rfl rfl ?_; intro b13)
  refine EL.buildS #[_, .int .i64 0, .bool false, .bool false, .bool false, .bool false, .bool false, .bool false, .bool false, .bool false, .bool false, .bool false, .int .i64 0] rfl rfl rfl rfl rfl rfl rfl ?_
  (refine EL.box rfl rfl rfl ?_; intro g15)
  (refine EL.alloc rfl rfl rfl ?_; intro g4)
  (apply EL.storeB; exact rfl; exact rfl; exact rfl; exact rfl; exact rfl; exact rfl; (case p => repeat constructor); exact (by first | decide | exact Nat.le_of_ble_eq_true rfl | simp))
  refine .gr ?_; repeat constructor
  refine EL.move rfl rfl rfl ?_
  (refine EL.callX rfl rfl rfl ent57 rfl (tokens_c t) ?_; intro gs)
  refine .gr ?_; repeat constructor
  refine ES.imp (H' := HA.blk gs (.cells #[Sv t] 9) :: HA.blk g4 (.cells #[Pv g15 0] 137) :: PP g15 b13 1 ps0 ⟨none, 0, none, 0, [], []⟩ [] :: HA.blk g2 (.cells zeroRe 82) :: HA.blk g3 (.cells #[Iv 0, Iv 0] 67) :: []) (fun w hs => ?_) ?_
  · have h1 := Sat.forest0 ((hs.nilRow 3 1).nilRow 82 9) [] [] (fun _ _ => .nil)
    have h2 := h1.ent (H' := PB g15 b13 1 1 (PR 0 (List.replicate 10 false) 0) :: FB b13 1 1 (frC none 0 0 none 0 0 0 0) :: KR none 0 0 [] :: ZR none 0 [] :: HA.forest [] [] [] :: HA.blk gs (.cells #[Sv t] 9) :: HA.blk g4 (.cells #[Pv g15 0] 137) :: HA.blk g2 (.cells zeroRe 82) :: HA.blk g3 (.cells #[Iv 0, Iv 0] 67) :: []) (.i (by repeat constructor))
    exact (Sat.packL (T := PH g15 b13 1 ps0 ⟨none, 0, none, 0, [], []⟩ []) h2).ent (.i (by repeat constructor))
  refine ES.rangeFunc (σ := PSt) (τ := Int × Nat) (fun i s => i ≤ (toksM t).length ∧ s.rv.map Prod.fst = s.p.rest ∧ POk s.p i ∧ TksOk ((toksM t).drop i) s.p ∧ parseGo ((toksM t).drop i) s.p = parseM t)
    (fun s => [HA.blk g4 (.cells #[Pv g15 0] 137), PP g15 s.fg s.fcap s.p s.tv s.rv, HA.blk g2 (.cells zeroRe 82), HA.blk g3 (.cells #[Iv 0, Iv 0] 67)])
    (fun c _ r => c = .ret ∧ parseM t = ⟨.cat [], r.1, r.2⟩) (fun r => [HA.blk g2 (.cells zeroRe 82), HA.blk g3 (.cells #[Iv r.1, Iv (r.2 : Nat)] 67)]) ⟨ps0, b13, 1, ⟨none, 0, none, 0, [], []⟩, []⟩ ⟨Nat.zero_le _, rfl, ps0_pok, hall, hpm.symm⟩
    rfl rfl ent75 (tok1_iter gs t ht _ _ hG) (by repeat constructor) (by repeat constructor) (by intro x hx; obtain ⟨_, _, rfl⟩ := List.mem_map.1 hx; rfl) rfl ?_ (fun D s hs => ?_) (fun D c i r hc => ?_)
  · rintro l i ⟨p, fg, fcap, tv, rv⟩ x R1 ⟨hi, hrv, hpo, htk, hgo⟩ hx
    dsimp only at hi hrv hpo htk hgo hx ⊢
    obtain ⟨k, hk, rfl⟩ : ∃ k, (toksM t)[i]? = some k ∧ x = [tokV k] := by
      rw [List.getElem?_map] at hx
      obtain ⟨k, h1, h2⟩ := Option.map_eq_some_iff.1 hx
      exact ⟨k, h1, h2.symm⟩
    have hlt : i < (toksM t).length := (List.getElem?_eq_some_iff.1 hk).1
    have hdrop : (toksM t).drop i = k :: (toksM t).drop (i + 1) := by
      rw [List.drop_eq_getElem_cons hlt, (List.getElem?_eq_some_iff.1 hk).2]
    rw [hdrop] at htk hgo
    obtain ⟨hk1, hk2, hk3, hk4⟩ := htk
    rw [parseGo] at hgo
    refine .gr ?_; repeat constructor
    (refine EL.alloc rfl rfl rfl ?_; intro g5)
    (apply EL.storeAll; exact rfl; exact rfl; exact rfl; exact rfl; exact rfl; (case p => repeat constructor); exact rfl; (case h1 => exact (by first | rfl | exact all1 rfl | (intro u hu; simp only [List.mem_cons, List.not_mem_nil, or_false] at hu; rcases hu with rfl | rfl | rfl | rfl <;> rfl) | (intro u hu; simp at hu; rcases hu with rfl | rfl | rfl | rfl <;> rfl) | (intro u hu; simp at hu; rcases hu with rfl | rfl | rfl <;> rfl) | (intro u hu; simp at hu; rcases hu with rfl | rfl <;> rfl) | (intro u hu; simp at hu; obtain ⟨_, _, rfl⟩ := hu; rfl))))
    refine .gr ?_; repeat constructor
    refine PX.assigned [(2, Pv g2 0), (3, Pv g3 0), (4, Pv g4 0), (5, Pv g5 0)] [HA.blk g5 (.cells (tokCells k) 148), HA.blk g4 (.cells #[Pv g15 0] 137), PP g15 fg fcap p tv rv, HA.blk g2 (.cells zeroRe 82), HA.blk g3 (.cells #[Iv 0, Iv 0] 67)] ⟨rfl, rfl, rfl, rfl, trivial⟩ (.i (by repeat constructor)) (fun R2 => ?_)
    refine .gr ?_; repeat constructor
    (apply EL.loadB; exact rfl; exact rfl; exact rfl; exact rfl; exact rfl; (case hm => repeat constructor); exact rfl)
    (apply EL.loadAggB; exact rfl; exact rfl; exact rfl; exact rfl; exact rfl; (case hm => repeat constructor); exact rfl)
    (refine EL.callM rfl rfl rfl ent58 rfl (take1_c g15 fg fcap p tv rv hrv i (by omega) hpo k hk1) (by repeat constructor) ?_; intro x)
    refine EL.assign rfl rfl rfl ?_
    refine .gr ?_; repeat constructor
    refine EL.move rfl rfl rfl ?_
    refine EL.neqI rfl rfl rfl rfl ?_
    refine .gr ?_; repeat constructor
    refine ES.condN rfl (fun hne => ?_) (fun he => ?_)
    · rw [if_pos hne] at hgo
      have hx0 : tkH1 g15 (takeM p k) x = [] := if_neg hne
      rw [hx0]
      refine .gs ?_; repeat constructor
      refine ES.draw (X := Unit) (fun _ => [(2, Pv g2 0), (3, Pv g3 0), (4, Pv g4 0)]) (fun _ => HA.blk g2 (.cells zeroRe 82) :: HA.blk g3 (.cells #[Iv (takeM p k).2, Iv (k.at_ : Nat)] 67) :: R2) (HA.blk g5 (.cells (tokCells k) 148) :: R2) mixed (.i (by repeat constructor)) ?_ (fun _ => ?_)
      · refine ED.take 1 rfl (by decide +kernel) CutX.no_panic (by decide +kernel) rfl rfl rfl (RV.move rfl) ?_
        refine ED.take 2 rfl (by decide +kernel) CutX.no_panic (by decide +kernel) rfl rfl rfl (RV.fieldAddr rfl rfl rfl rfl rfl rfl) ?_
        refine ED.take 3 rfl (by decide +kernel) CutX.no_panic (by decide +kernel) rfl rfl rfl (RV.loadB rfl rfl rfl (by repeat constructor) rfl) ?_
        refine ED.fork 0 [4] (by decide +kernel) ⟨⟨_, rfl, ?_⟩, ⟨_, rfl, ?_⟩, trivial⟩
        · refine EL.buildZ rfl rfl rfl rfl rfl ?_
          refine ED.next (.i (by repeat constructor)) ?_
          refine ED.fork 4 [5] (by decide +kernel) ⟨⟨_, rfl, ?_⟩, ⟨_, rfl, ?_⟩, trivial⟩
          · (apply EL.build2; exact rfl; exact rfl; exact rfl; exact rfl; exact rfl; exact rfl; exact rfl; exact rfl; exact rfl; exact rfl)
            refine ED.next (.i (by repeat constructor)) ?_
            refine ED.loud 5 rfl (by decide +kernel) ?_
            (apply EL.storeAll; exact rfl; exact rfl; exact rfl; exact rfl; exact rfl; (case p => repeat constructor); exact rfl; (case h1 => exact (by first | rfl | exact all1 rfl | (intro u hu; simp only [List.mem_cons, List.not_mem_nil, or_false] at hu; rcases hu with rfl | rfl | rfl | rfl <;> rfl) | (intro u hu; simp at hu; rcases hu with rfl | rfl | rfl | rfl <;> rfl) | (intro u hu; simp at hu; rcases hu with rfl | rfl | rfl <;> rfl) | (intro u hu; simp at hu; rcases hu with rfl | rfl <;> rfl) | (intro u hu; simp at hu; obtain ⟨_, _, rfl⟩ := hu; rfl))))
            refine ED.next (.i (by repeat constructor)) ?_
            refine ED.last 6 rfl (by decide +kernel) (by decide +kernel) (by decide +kernel) ?_
            (apply EL.storeAll; exact rfl; exact rfl; exact rfl; exact rfl; exact rfl; (case p => repeat constructor); exact rfl; (case h1 => exact (by first | rfl | exact all1 rfl | (intro u hu; simp only [List.mem_cons, List.not_mem_nil, or_false] at hu; rcases hu with rfl | rfl | rfl | rfl <;> rfl) | (intro u hu; simp at hu; rcases hu with rfl | rfl | rfl | rfl <;> rfl) | (intro u hu; simp at hu; rcases hu with rfl | rfl | rfl <;> rfl) | (intro u hu; simp at hu; rcases hu with rfl | rfl <;> rfl) | (intro u hu; simp at hu; obtain ⟨_, _, rfl⟩ := hu; rfl))))
            refine EL.endQ ?_
            exact PX.cutX () ⟨rfl, rfl, rfl, trivial⟩ (.i (by repeat constructor))
          · (apply EL.storeAll; exact rfl; exact rfl; exact rfl; exact rfl; exact rfl; (case p => repeat constructor); exact rfl; (case h1 => exact (by first | rfl | exact all1 rfl | (intro u hu; simp only [List.mem_cons, List.not_mem_nil, or_false] at hu; rcases hu with rfl | rfl | rfl | rfl <;> rfl) | (intro u hu; simp at hu; rcases hu with rfl | rfl | rfl | rfl <;> rfl) | (intro u hu; simp at hu; rcases hu with rfl | rfl | rfl <;> rfl) | (intro u hu; simp at hu; rcases hu with rfl | rfl <;> rfl) | (intro u hu; simp at hu; obtain ⟨_, _, rfl⟩ := hu; rfl))))
            refine ED.next (.i (by repeat constructor)) ?_
            refine ED.loud 4 rfl (by decide +kernel) ?_
            (apply EL.build2; exact rfl; exact rfl; exact rfl; exact rfl; exact rfl; exact rfl; exact rfl; exact rfl; exact rfl; exact rfl)
            refine ED.next (.i (by repeat constructor)) ?_
            refine ED.last 6 rfl (by decide +kernel) (by decide +kernel) (by decide +kernel) ?_
            (apply EL.storeAll; exact rfl; exact rfl; exact rfl; exact rfl; exact rfl; (case p => repeat constructor); exact rfl; (case h1 => exact (by first | rfl | exact all1 rfl | (intro u hu; simp only [List.mem_cons, List.not_mem_nil, or_false] at hu; rcases hu with rfl | rfl | rfl | rfl <;> rfl) | (intro u hu; simp at hu; rcases hu with rfl | rfl | rfl | rfl <;> rfl) | (intro u hu; simp at hu; rcases hu with rfl | rfl | rfl <;> rfl) | (intro u hu; simp at hu; rcases hu with rfl | rfl <;> rfl) | (intro u hu; simp at hu; obtain ⟨_, _, rfl⟩ := hu; rfl))))
            refine EL.endQ ?_
            exact PX.cutX () ⟨rfl, rfl, rfl, trivial⟩ (.i (by repeat constructor))
        · (apply EL.build2; exact rfl; exact rfl; exact rfl; exact rfl; exact rfl; exact rfl; exact rfl; exact rfl; exact rfl; exact rfl)
          refine ED.next (.i (by repeat constructor)) ?_
          refine ED.loud 0 rfl (by decide +kernel) ?_
          refine EL.buildZ rfl rfl rfl rfl rfl ?_
          refine ED.next (.i (by repeat constructor)) ?_
          refine ED.loud 5 rfl (by decide +kernel) ?_
          (apply EL.storeAll; exact rfl; exact rfl; exact rfl; exact rfl; exact rfl; (case p => repeat constructor); exact rfl; (case h1 => exact (by first | rfl | exact all1 rfl | (intro u hu; simp only [List.mem_cons, List.not_mem_nil, or_false] at hu; rcases hu with rfl | rfl | rfl | rfl <;> rfl) | (intro u hu; simp at hu; rcases hu with rfl | rfl | rfl | rfl <;> rfl) | (intro u hu; simp at hu; rcases hu with rfl | rfl | rfl <;> rfl) | (intro u hu; simp at hu; rcases hu with rfl | rfl <;> rfl) | (intro u hu; simp at hu; obtain ⟨_, _, rfl⟩ := hu; rfl))))
          refine ED.next (.i (by repeat constructor)) ?_
          refine ED.last 6 rfl (by decide +kernel) (by decide +kernel) (by decide +kernel) ?_
          (apply EL.storeAll; exact rfl; exact rfl; exact rfl; exact rfl; exact rfl; (case p => repeat constructor); exact rfl; (case h1 => exact (by first | rfl | exact all1 rfl | (intro u hu; simp only [List.mem_cons, List.not_mem_nil, or_false] at hu; rcases hu with rfl | rfl | rfl | rfl <;> rfl) | (intro u hu; simp at hu; rcases hu with rfl | rfl | rfl | rfl <;> rfl) | (intro u hu; simp at hu; rcases hu with rfl | rfl | rfl <;> rfl) | (intro u hu; simp at hu; rcases hu with rfl | rfl <;> rfl) | (intro u hu; simp at hu; obtain ⟨_, _, rfl⟩ := hu; rfl))))
          refine EL.endQ ?_
          exact PX.cutX () ⟨rfl, rfl, rfl, trivial⟩ (.i (by repeat constructor))
      refine .gr ?_; repeat constructor
      exact PX.roundR ((takeM p k).2, k.at_) ⟨rfl, hgo.symm⟩ (.i (by repeat constructor))
    · rw [if_neg (fun h => h he)] at hgo
      have h6 : k.kind ≤ 6 := by
        rcases Nat.lt_or_ge k.kind 7 with h | h
        · omega
        · rw [takeM_7 h] at he; exact absurd he (hk3 (by omega))
      have hx1 : tkH1 g15 (takeM p k) x = [PP g15 x.1.fg x.1.fcap (takeM p k).1 x.1.tv x.1.rv] := if_pos he
      rw [hx1]
      refine .gr ?_; repeat constructor
      exact PX.round ⟨(takeM p k).1, x.1.fg, x.1.fcap, x.1.tv, x.1.rv⟩ ⟨hlt, x.2, takeM_ok hpo hk1 he h6, hk4 he, hgo⟩ (.i (by repeat constructor))
  · obtain ⟨p, fg, fcap, tv, rv⟩ := s
    obtain ⟨_, hrv, hpo, _, hgo⟩ := hs
    rw [List.length_map, List.drop_length] at hgo
    rw [List.length_map] at hpo
    dsimp only at hrv hpo hgo ⊢
    rw [parseGo] at hgo
    have hrl : rv.length = p.rest.length := by rw [← hrv, List.length_map]
    have hr9 : rv.length ≤ 9 := by have := hpo.deep; have := hpo.ok.groups; omega
    have htop := top_c g15 fg rv.length fcap (PR p.groups p.shut p.size) (preC rv ++ tv.cells p.top) (by omega)
    refine ES.imp (H' := markB D :: HA.blk g4 (.cells #[Pv g15 0] 137) :: HA.blk g2 (.cells zeroRe 82) :: HA.blk g3 (.cells #[Iv 0, Iv 0] 67) :: PB g15 fg (rv.length + 1) fcap (PR p.groups p.shut p.size) :: FB fg (rv.length + 1) fcap (preC rv ++ tv.cells p.top) :: KR tv.kad p.top.kids.length tv.kcap tv.kcs :: ZR tv.sad tv.scap p.top.sizes :: HA.forest tv.fp p.top.kids tv.kcs :: restH rv) (fun w hs => ?_) ?_
    · have h1 := hs.ent (H' := PP g15 fg fcap p tv rv :: markB D :: HA.blk g4 (.cells #[Pv g15 0] 137) :: HA.blk g2 (.cells zeroRe 82) :: HA.blk g3 (.cells #[Iv 0, Iv 0] 67) :: []) (.i (by repeat constructor))
      have h2 := (Sat.unpackL h1).perm List.perm_append_comm
      exact h2
    refine .gr ?_; repeat constructor
    (apply EL.loadB; exact rfl; exact rfl; exact rfl; exact rfl; exact rfl; (case hm => repeat constructor); exact rfl)
    refine EL.nilCheck rfl rfl rfl ?_
    refine EL.fieldAddr rfl rfl rfl rfl rfl rfl rfl rfl ?_
    (apply EL.loadB; exact rfl; exact rfl; exact rfl; exact rfl; exact rfl; (case hm => repeat constructor); exact rfl)
    refine EL.lenL rfl rfl rfl rfl rfl ?_
    refine EL.gtr rfl rfl rfl rfl ?_
    refine .gr ?_; repeat constructor
    refine ES.condD rfl (fun hgt => ?_) (fun hle => ?_)
    · have hpe : parseM t = ⟨.cat [], 10, p.top.at_⟩ := by
        rw [← hgo]
        unfold endM
        split
        · rename_i h; rw [h] at hrl; simp only [List.length_nil] at hrl; omega
        · rfl
      rw [hpe]
      refine .gs ?_; repeat constructor
      refine ES.draw (X := Unit) (fun _ => [(2, Pv g2 0), (3, Pv g3 0), (4, Pv g4 0)]) (fun _ => markB D :: HA.blk g2 (.cells zeroRe 82) :: HA.blk g3 (.cells #[Iv 10, Iv (p.top.at_ : Nat)] 67) :: restH rv) (HA.blk g4 (.cells #[Pv g15 0] 137) :: FB fg (rv.length + 1) fcap (preC rv ++ tv.cells p.top) :: restH rv) mixed (.i (by repeat constructor)) ?_ (fun _ => ?_)
      · refine ED.take 1 rfl (by decide +kernel) CutX.no_panic (by decide +kernel) rfl rfl rfl (RV.loadB rfl rfl rfl (by repeat constructor) rfl) ?_
        refine ED.fork 0 [2] (by decide +kernel) ⟨⟨_, rfl, ?_⟩, ⟨_, rfl, ?_⟩, trivial⟩
        · refine EL.buildZ rfl rfl rfl rfl rfl ?_
          refine ED.next (.i (by repeat constructor)) ?_
          refine ED.loud 2 rfl (by decide +kernel) ?_
          (refine EL.callM1 rfl rfl rfl ent59 rfl htop (by repeat constructor) ?_)
          refine ED.next (.i (by repeat constructor)) ?_
          refine ED.take 3 rfl (by decide +kernel) CutX.no_panic (by decide +kernel) rfl rfl rfl (RV.nilCheck rfl) ?_
          refine ED.take 4 rfl (by decide +kernel) CutX.no_panic (by decide +kernel) rfl rfl rfl (RV.fieldAddr rfl rfl rfl rfl rfl rfl) ?_
          refine ED.take 5 rfl (by decide +kernel) CutX.no_panic (by decide +kernel) rfl rfl rfl (RV.loadR rfl rfl rfl (by repeat constructor) (pre_at (preC rv) _ (rv.length * 4) 3 (preC_len rv))) ?_
          refine ED.fork 6 [7] (by decide +kernel) ⟨⟨_, rfl, ?_⟩, ⟨_, rfl, ?_⟩, trivial⟩
          · (apply EL.build2; exact rfl; exact rfl; exact rfl; exact rfl; exact rfl; exact rfl; exact rfl; exact rfl; exact rfl; exact rfl)
            refine ED.next (.i (by repeat constructor)) ?_
            refine ED.loud 7 rfl (by decide +kernel) ?_
            (apply EL.storeAll; exact rfl; exact rfl; exact rfl; exact rfl; exact rfl; (case p => repeat constructor); exact rfl; (case h1 => exact (by first | rfl | exact all1 rfl | (intro u hu; simp only [List.mem_cons, List.not_mem_nil, or_false] at hu; rcases hu with rfl | rfl | rfl | rfl <;> rfl) | (intro u hu; simp at hu; rcases hu with rfl | rfl | rfl | rfl <;> rfl) | (intro u hu; simp at hu; rcases hu with rfl | rfl | rfl <;> rfl) | (intro u hu; simp at hu; rcases hu with rfl | rfl <;> rfl) | (intro u hu; simp at hu; obtain ⟨_, _, rfl⟩ := hu; rfl))))
            refine ED.next (.i (by repeat constructor)) ?_
            refine ED.last 8 rfl (by decide +kernel) (by decide +kernel) (by decide +kernel) ?_
            (apply EL.storeAll; exact rfl; exact rfl; exact rfl; exact rfl; exact rfl; (case p => repeat constructor); exact rfl; (case h1 => exact (by first | rfl | exact all1 rfl | (intro u hu; simp only [List.mem_cons, List.not_mem_nil, or_false] at hu; rcases hu with rfl | rfl | rfl | rfl <;> rfl) | (intro u hu; simp at hu; rcases hu with rfl | rfl | rfl | rfl <;> rfl) | (intro u hu; simp at hu; rcases hu with rfl | rfl | rfl <;> rfl) | (intro u hu; simp at hu; rcases hu with rfl | rfl <;> rfl) | (intro u hu; simp at hu; obtain ⟨_, _, rfl⟩ := hu; rfl))))
            refine EL.endQ ?_
            exact PX.cutX () ⟨rfl, rfl, rfl, trivial⟩ (.i (by repeat constructor))
          · (apply EL.storeAll; exact rfl; exact rfl; exact rfl; exact rfl; exact rfl; (case p => repeat constructor); exact rfl; (case h1 => exact (by first | rfl | exact all1 rfl | (intro u hu; simp only [List.mem_cons, List.not_mem_nil, or_false] at hu; rcases hu with rfl | rfl | rfl | rfl <;> rfl) | (intro u hu; simp at hu; rcases hu with rfl | rfl | rfl | rfl <;> rfl) | (intro u hu; simp at hu; rcases hu with rfl | rfl | rfl <;> rfl) | (intro u hu; simp at hu; rcases hu with rfl | rfl <;> rfl) | (intro u hu; simp at hu; obtain ⟨_, _, rfl⟩ := hu; rfl))))
            refine ED.next (.i (by repeat constructor)) ?_
            refine ED.loud 6 rfl (by decide +kernel) ?_
            (apply EL.build2; exact rfl; exact rfl; exact rfl; exact rfl; exact rfl; exact rfl; exact rfl; exact rfl; exact rfl; exact rfl)
            refine ED.next (.i (by repeat constructor)) ?_
            refine ED.last 8 rfl (by decide +kernel) (by decide +kernel) (by decide +kernel) ?_
            (apply EL.storeAll; exact rfl; exact rfl; exact rfl; exact rfl; exact rfl; (case p => repeat constructor); exact rfl; (case h1 => exact (by first | rfl | exact all1 rfl | (intro u hu; simp only [List.mem_cons, List.not_mem_nil, or_false] at hu; rcases hu with rfl | rfl | rfl | rfl <;> rfl) | (intro u hu; simp at hu; rcases hu with rfl | rfl | rfl | rfl <;> rfl) | (intro u hu; simp at hu; rcases hu with rfl | rfl | rfl <;> rfl) | (intro u hu; simp at hu; rcases hu with rfl | rfl <;> rfl) | (intro u hu; simp at hu; obtain ⟨_, _, rfl⟩ := hu; rfl))))
            refine EL.endQ ?_
            exact PX.cutX () ⟨rfl, rfl, rfl, trivial⟩ (.i (by repeat constructor))
        · (refine EL.callM1 rfl rfl rfl ent59 rfl htop (by repeat constructor) ?_)
          refine ED.next (.i (by repeat constructor)) ?_
          refine ED.take 3 rfl (by decide +kernel) CutX.no_panic (by decide +kernel) rfl rfl rfl (RV.nilCheck rfl) ?_
          refine ED.take 4 rfl (by decide +kernel) CutX.no_panic (by decide +kernel) rfl rfl rfl (RV.fieldAddr rfl rfl rfl rfl rfl rfl) ?_
          refine ED.take 5 rfl (by decide +kernel) CutX.no_panic (by decide +kernel) rfl rfl rfl (RV.loadR rfl rfl rfl (by repeat constructor) (pre_at (preC rv) _ (rv.length * 4) 3 (preC_len rv))) ?_
          refine ED.fork 0 [6] (by decide +kernel) ⟨⟨_, rfl, ?_⟩, ⟨_, rfl, ?_⟩, trivial⟩
          · refine EL.buildZ rfl rfl rfl rfl rfl ?_
            refine ED.next (.i (by repeat constructor)) ?_
            refine ED.fork 6 [7] (by decide +kernel) ⟨⟨_, rfl, ?_⟩, ⟨_, rfl, ?_⟩, trivial⟩
            · (apply EL.build2; exact rfl; exact rfl; exact rfl; exact rfl; exact rfl; exact rfl; exact rfl; exact rfl; exact rfl; exact rfl)
              refine ED.next (.i (by repeat constructor)) ?_
              refine ED.loud 7 rfl (by decide +kernel) ?_
              (apply EL.storeAll; exact rfl; exact rfl; exact rfl; exact rfl; exact rfl; (case p => repeat constructor); exact rfl; (case h1 => exact (by first | rfl | exact all1 rfl | (intro u hu; simp only [List.mem_cons, List.not_mem_nil, or_false] at hu; rcases hu with rfl | rfl | rfl | rfl <;> rfl) | (intro u hu; simp at hu; rcases hu with rfl | rfl | rfl | rfl <;> rfl) | (intro u hu; simp at hu; rcases hu with rfl | rfl | rfl <;> rfl) | (intro u hu; simp at hu; rcases hu with rfl | rfl <;> rfl) | (intro u hu; simp at hu; obtain ⟨_, _, rfl⟩ := hu; rfl))))
              refine ED.next (.i (by repeat constructor)) ?_
              refine ED.last 8 rfl (by decide +kernel) (by decide +kernel) (by decide +kernel) ?_
              (apply EL.storeAll; exact rfl; exact rfl; exact rfl; exact rfl; exact rfl; (case p => repeat constructor); exact rfl; (case h1 => exact (by first | rfl | exact all1 rfl | (intro u hu; simp only [List.mem_cons, List.not_mem_nil, or_false] at hu; rcases hu with rfl | rfl | rfl | rfl <;> rfl) | (intro u hu; simp at hu; rcases hu with rfl | rfl | rfl | rfl <;> rfl) | (intro u hu; simp at hu; rcases hu with rfl | rfl | rfl <;> rfl) | (intro u hu; simp at hu; rcases hu with rfl | rfl <;> rfl) | (intro u hu; simp at hu; obtain ⟨_, _, rfl⟩ := hu; rfl))))
              refine EL.endQ ?_
              exact PX.cutX () ⟨rfl, rfl, rfl, trivial⟩ (.i (by repeat constructor))
            · (apply EL.storeAll; exact rfl; exact rfl; exact rfl; exact rfl; exact rfl; (case p => repeat constructor); exact rfl; (case h1 => exact (by first | rfl | exact all1 rfl | (intro u hu; simp only [List.mem_cons, List.not_mem_nil, or_false] at hu; rcases hu with rfl | rfl | rfl | rfl <;> rfl) | (intro u hu; simp at hu; rcases hu with rfl | rfl | rfl | rfl <;> rfl) | (intro u hu; simp at hu; rcases hu with rfl | rfl | rfl <;> rfl) | (intro u hu; simp at hu; rcases hu with rfl | rfl <;> rfl) | (intro u hu; simp at hu; obtain ⟨_, _, rfl⟩ := hu; rfl))))
              refine ED.next (.i (by repeat constructor)) ?_
              refine ED.loud 6 rfl (by decide +kernel) ?_
              (apply EL.build2; exact rfl; exact rfl; exact rfl; exact rfl; exact rfl; exact rfl; exact rfl; exact rfl; exact rfl; exact rfl)
              refine ED.next (.i (by repeat constructor)) ?_
              refine ED.last 8 rfl (by decide +kernel) (by decide +kernel) (by decide +kernel) ?_
              (apply EL.storeAll; exact rfl; exact rfl; exact rfl; exact rfl; exact rfl; (case p => repeat constructor); exact rfl; (case h1 => exact (by first | rfl | exact all1 rfl | (intro u hu; simp only [List.mem_cons, List.not_mem_nil, or_false] at hu; rcases hu with rfl | rfl | rfl | rfl <;> rfl) | (intro u hu; simp at hu; rcases hu with rfl | rfl | rfl | rfl <;> rfl) | (intro u hu; simp at hu; rcases hu with rfl | rfl | rfl <;> rfl) | (intro u hu; simp at hu; rcases hu with rfl | rfl <;> rfl) | (intro u hu; simp at hu; obtain ⟨_, _, rfl⟩ := hu; rfl))))
              refine EL.endQ ?_
              exact PX.cutX () ⟨rfl, rfl, rfl, trivial⟩ (.i (by repeat constructor))
          · (apply EL.build2; exact rfl; exact rfl; exact rfl; exact rfl; exact rfl; exact rfl; exact rfl; exact rfl; exact rfl; exact rfl)
            refine ED.next (.i (by repeat constructor)) ?_
            refine ED.loud 0 rfl (by decide +kernel) ?_
            refine EL.buildZ rfl rfl rfl rfl rfl ?_
            refine ED.next (.i (by repeat constructor)) ?_
            refine ED.loud 7 rfl (by decide +kernel) ?_
            (apply EL.storeAll; exact rfl; exact rfl; exact rfl; exact rfl; exact rfl; (case p => repeat constructor); exact rfl; (case h1 => exact (by first | rfl | exact all1 rfl | (intro u hu; simp only [List.mem_cons, List.not_mem_nil, or_false] at hu; rcases hu with rfl | rfl | rfl | rfl <;> rfl) | (intro u hu; simp at hu; rcases hu with rfl | rfl | rfl | rfl <;> rfl) | (intro u hu; simp at hu; rcases hu with rfl | rfl | rfl <;> rfl) | (intro u hu; simp at hu; rcases hu with rfl | rfl <;> rfl) | (intro u hu; simp at hu; obtain ⟨_, _, rfl⟩ := hu; rfl))))
            refine ED.next (.i (by repeat constructor)) ?_
            refine ED.last 8 rfl (by decide +kernel) (by decide +kernel) (by decide +kernel) ?_
            (apply EL.storeAll; exact rfl; exact rfl; exact rfl; exact rfl; exact rfl; (case p => repeat constructor); exact rfl; (case h1 => exact (by first | rfl | exact all1 rfl | (intro u hu; simp only [List.mem_cons, List.not_mem_nil, or_false] at hu; rcases hu with rfl | rfl | rfl | rfl <;> rfl) | (intro u hu; simp at hu; rcases hu with rfl | rfl | rfl | rfl <;> rfl) | (intro u hu; simp at hu; rcases hu with rfl | rfl | rfl <;> rfl) | (intro u hu; simp at hu; rcases hu with rfl | rfl <;> rfl) | (intro u hu; simp at hu; obtain ⟨_, _, rfl⟩ := hu; rfl))))
            refine EL.endQ ?_
            exact PX.cutX () ⟨rfl, rfl, rfl, trivial⟩ (.i (by repeat constructor))
      refine .gr ?_; repeat constructor
      exact PX.retM [D] rfl (by repeat constructor) Try.results40 (.cons (.blkA rfl rfl rfl (by repeat constructor) rfl) (.cons (.blkA rfl rfl rfl (by repeat constructor) rfl) .nil)) (fun w hs => ⟨⟨none, 0, []⟩, rfl, hfin hs⟩)
    · have hpe : parseM t = ⟨.cat p.top.kids, 0, 0⟩ := by
        rw [← hgo]
        unfold endM
        split
        · rfl
        · rename_i h; have : p.rest ≠ [] := h; have : 0 < p.rest.length := List.length_pos_iff.2 this; omega
      rw [hpe]
      refine .gr ?_; repeat constructor
      (apply EL.loadB; exact rfl; exact rfl; exact rfl; exact rfl; exact rfl; (case hm => repeat constructor); exact rfl)
      (refine EL.callM1 rfl rfl rfl ent59 rfl htop (by repeat constructor) ?_)
      refine EL.nilCheck rfl rfl rfl ?_
      refine EL.fieldAddr rfl rfl rfl rfl rfl rfl rfl rfl ?_
      refine EL.loadR rfl rfl rfl rfl rfl (by repeat constructor) (pre_at (preC rv) _ (rv.length * 4) 0 (preC_len rv)) ?_
      refine EL.buildS (reCells (.cat p.top.kids) (.slice tv.kad p.top.kids.length tv.kcap)).toArray rfl rfl rfl rfl rfl rfl rfl ?_
      refine EL.buildZ rfl rfl rfl rfl rfl ?_
      (apply EL.storeAll; exact rfl; exact rfl; exact rfl; exact rfl; exact rfl; (case p => repeat constructor); exact rfl; (case h1 => exact (by first | rfl | exact all1 rfl | (intro u hu; simp only [List.mem_cons, List.not_mem_nil, or_false] at hu; rcases hu with rfl | rfl | rfl | rfl <;> rfl) | (intro u hu; simp at hu; rcases hu with rfl | rfl | rfl | rfl <;> rfl) | (intro u hu; simp at hu; rcases hu with rfl | rfl | rfl <;> rfl) | (intro u hu; simp at hu; rcases hu with rfl | rfl <;> rfl) | (intro u hu; simp at hu; obtain ⟨_, _, rfl⟩ := hu; rfl))))
      (apply EL.storeAll; exact rfl; exact rfl; exact rfl; exact rfl; exact rfl; (case p => repeat constructor); exact rfl; (case h1 => exact (by first | rfl | exact all1 rfl | (intro u hu; simp only [List.mem_cons, List.not_mem_nil, or_false] at hu; rcases hu with rfl | rfl | rfl | rfl <;> rfl) | (intro u hu; simp at hu; rcases hu with rfl | rfl | rfl | rfl <;> rfl) | (intro u hu; simp at hu; rcases hu with rfl | rfl | rfl <;> rfl) | (intro u hu; simp at hu; rcases hu with rfl | rfl <;> rfl) | (intro u hu; simp at hu; obtain ⟨_, _, rfl⟩ := hu; rfl))))
      refine .gr ?_; repeat constructor
      refine PX.retM [D] rfl (by repeat constructor) Try.results40 (.cons (.blkA rfl rfl rfl (by repeat constructor) rfl) (.cons (.blkA rfl rfl rfl (by repeat constructor) rfl) .nil)) (fun w hs => ⟨⟨tv.kad, tv.kcap, (Value.slice tv.kad p.top.kids.length tv.kcap).ownBlock.toList ++ tv.fp⟩, rfl, ?_⟩)
      exact Sat.ent (Sat.seal (.cat p.top.kids) rfl (hs.ent (H' := KR tv.kad p.top.kids.length tv.kcap tv.kcs :: HA.forest tv.fp p.top.kids tv.kcs :: restH rv) (.i (by repeat constructor)))) (.i (by repeat constructor))
  · obtain ⟨rfl, hc⟩ := hc
    rw [hc]
    refine .gr ?_; repeat constructor
    exact PX.retM [D] rfl (by repeat constructor) Try.results40 (.cons (.blkA rfl rfl rfl (by repeat constructor) rfl) (.cons (.blkA rfl rfl rfl (by repeat constructor) rfl) .nil)) (fun w hs => ⟨⟨none, 0, []⟩, rfl, hfin hs⟩)
end Go.Proofs.Ytblpgpgbnlhjlaa
