/- Layer 4 (bre): the parser's methods that count, open, close and repeat. -/
import Derived.Test.YtblpgpgbnlhjlaaPe
namespace Go.Proofs.Ytblpgpgbnlhjlaa
open Go Go.RowKit Sl
set_option maxRecDepth 100000
set_option maxHeartbeats 8000000
set_option linter.unusedVariables false
set_option linter.unusedSimpArgs false
attribute [local irreducible] ES EL PX wps

abbrev PR (groups : Nat) (sh : List Bool) (size : Nat) : List Value := Iv (groups : Nat) :: (sh.map Value.bool ++ [Iv (size : Nat)])
theorem setIf_list (l : List Value) (i : Nat) (u : Value) : l.toArray.setIfInBounds i u = (l.set i u).toArray := by simp
theorem pr_size_get (v : Value) (gr size : Nat) (sh : List Bool) (h : sh.length = 10) : (v :: PR gr sh size).toArray[12]? = some (Iv (size : Nat)) := by
  simp only [List.getElem?_toArray, PR, List.getElem?_cons_succ]
  rw [List.getElem?_append_right (by simp; omega)]
  simp [h]
theorem pr_size_set (v : Value) (gr size s2 : Nat) (sh : List Bool) (h : sh.length = 10) : (v :: PR gr sh size).toArray.setIfInBounds 12 (Iv (s2 : Nat)) = (v :: PR gr sh s2).toArray := by
  rw [setIf_list]
  simp only [PR, List.set_cons_succ]
  rw [List.set_append_right _ _ (by simp; omega)]
  simp [h]
theorem pr_shut_get (v : Value) (gr size i : Nat) (sh : List Bool) (hi : i < sh.length) : (v :: PR gr sh size).toArray[2 + i]? = some (.bool (sh.getD i false)) := by
  rw [List.getElem?_toArray, show 2 + i = i + 1 + 1 by omega]
  simp only [PR, List.getElem?_cons_succ]
  rw [List.getElem?_append_left (by simpa using hi), List.getElem?_map, List.getElem?_eq_getElem hi]
  simp [List.getD_eq_getElem?_getD, List.getElem?_eq_getElem hi]
theorem pr_shut_set (v : Value) (gr size i : Nat) (sh : List Bool) (b : Bool) (hi : i < sh.length) : (v :: PR gr sh size).toArray.setIfInBounds (2 + i) (.bool b) = (v :: PR gr (sh.set i b) size).toArray := by
  rw [setIf_list, show 2 + i = i + 1 + 1 by omega]
  simp only [PR, List.set_cons_succ]
  rw [List.set_append_left _ _ (by simpa using hi), List.map_set]
theorem pr_shut_put (v : Value) (gr size i n : Nat) (sh : List Bool) (b : Bool) (hi : i < sh.length) (hn : n = 2 + i) : (v :: PR gr sh size).toArray.setIfInBounds n (.bool b) = (v :: PR gr (sh.set i b) size).toArray := by
  rw [hn]; exact pr_shut_set v gr size i sh b hi
theorem pr_groups_set (v : Value) (gr g2 size : Nat) (sh : List Bool) : (v :: PR gr sh size).toArray.setIfInBounds 1 (Iv (g2 : Nat)) = (v :: PR g2 sh size).toArray := by
  rw [setIf_list]; rfl
theorem pr_frames_set (v u : Value) (rest : List Value) : (v :: rest).toArray.setIfInBounds 0 u = (u :: rest).toArray := by
  rw [setIf_list]; rfl
theorem pr_len (v : Value) (gr size : Nat) (sh : List Bool) (h : sh.length = 10) : (v :: PR gr sh size).toArray.size = 13 := by simp [h]
theorem grow_c (g fg m fcap gr size s2 : Nat) (sh : List Bool) (d : Int) (hsh : sh.length = 10) (hd : (size : Int) + d = (s2 : Nat)) (hs : s2 ≤ 1073741824) :
    Mut Try.prog 78 #[Pv g 0, Iv d] [PB g fg m fcap (PR gr sh size)] (fun _ : Unit => Iv (growE s2)) (fun _ => [PB g fg m fcap (PR gr sh s2)]) := by
  intro w0 B R w h
  replace h : Sat w0 B (PB g fg m fcap (PR gr sh size) :: R) w := h
  have hge : growE s2 = if 256 < s2 then 13 else 0 := rfl
  refine calls_of_ES TB Try.func78 rfl _ Try.ntmps78 rfl h ?_
  refine .go ?_; repeat constructor
  refine EL.assign rfl rfl rfl ?_
  refine .go ?_; repeat constructor
  refine EL.move rfl rfl rfl ?_
  refine EL.nilCheck rfl rfl rfl ?_
  refine EL.fieldAddr rfl rfl rfl rfl rfl rfl rfl rfl ?_
  refine EL.loadB rfl rfl rfl rfl rfl (by repeat constructor) (pr_size_get _ gr size sh hsh) ?_
  refine EL.move rfl rfl rfl ?_
  refine EL.add ((s2 : Nat) : Int) rfl rfl rfl rfl (by rw [hd]; exact wrap_i64 _ (by omega) (by omega)) ?_
  refine EL.nilCheck rfl rfl rfl ?_
  refine EL.fieldAddr rfl rfl rfl rfl rfl rfl rfl rfl ?_
  (refine EL.storeB rfl rfl rfl rfl rfl rfl (by repeat constructor) (by rw [pr_len _ _ _ _ hsh]; decide) ?_; refine EL.blkEq (g := g) (by repeat constructor) (congrArg (fun a => Obj.cells a 143 (0, 0)) (pr_size_set _ gr size s2 sh hsh)) ?_)
  refine .go ?_; repeat constructor
  refine EL.move rfl rfl rfl ?_
  refine EL.nilCheck rfl rfl rfl ?_
  refine EL.fieldAddr rfl rfl rfl rfl rfl rfl rfl rfl ?_
  refine EL.loadB rfl rfl rfl rfl rfl (by repeat constructor) (pr_size_get _ gr s2 sh hsh) ?_
  refine EL.gtr rfl rfl rfl rfl ?_
  refine .go ?_; repeat constructor
  refine ES.condD rfl (fun hgt => ?_) (fun hle => ?_)
  · rw [if_pos (by omega)] at hge
    rw [hge]
    refine .go ?_; repeat constructor
    refine EL.assign rfl rfl rfl ?_
    refine .go ?_; repeat constructor
    exact PX.ret rfl Try.results78 (.cons (.tmp rfl) .nil) (fun w hs => ⟨(), rfl, hs.ent (.i (by repeat constructor))⟩)
  · rw [if_neg (by omega)] at hge
    rw [hge]
    refine .go ?_; repeat constructor
    refine EL.assign rfl rfl rfl ?_
    refine .go ?_; repeat constructor
    exact PX.ret rfl Try.results78 (.cons (.tmp rfl) .nil) (fun w hs => ⟨(), rfl, hs.ent (.i (by repeat constructor))⟩)
theorem open_full (g fg m fcap : Nat) (rest : List Value) (a : Nat) :
    Mut Try.prog 79 #[Pv g 0, Iv (a : Nat)] [PB g fg m fcap (Iv 9 :: rest)] (fun _ : Unit => Iv 4) (fun _ => []) := by
  intro w0 B R w h
  replace h : Sat w0 B (PB g fg m fcap (Iv 9 :: rest) :: R) w := h
  refine calls_of_ES TB Try.func79 rfl _ Try.ntmps79 rfl h ?_
  refine .go ?_; repeat constructor
  refine EL.assign rfl rfl rfl ?_
  refine .go ?_; repeat constructor
  refine EL.move rfl rfl rfl ?_
  refine EL.nilCheck rfl rfl rfl ?_
  refine EL.fieldAddr rfl rfl rfl rfl rfl rfl rfl rfl ?_
  (apply EL.loadB; exact rfl; exact rfl; exact rfl; exact rfl; exact rfl; (case hm => repeat constructor); exact rfl)
  refine EL.eqlI rfl rfl rfl rfl ?_
  refine .go ?_; repeat constructor
  refine ES.condK true rfl (decide_eq_true rfl) ?_
  refine .go ?_; repeat constructor
  refine EL.assign rfl rfl rfl ?_
  refine .go ?_; repeat constructor
  exact PX.ret rfl Try.results79 (.cons (.tmp rfl) .nil) (fun w hs => ⟨(), rfl, hs.ent (.i (by repeat constructor))⟩)
theorem open_c (g fg m fcap gr size a : Nat) (sh : List Bool) (cs : List Value) (hgr : gr < 9) (hm : m ≤ 4096) :
    Mut Try.prog 79 #[Pv g 0, Iv (a : Nat)] [PB g fg m fcap (PR gr sh size), FB fg m fcap cs] (fun _ : Nat × Nat => Iv 0) (fun x => [PB g x.1 (m + 1) x.2 (PR (gr + 1) sh size), FB x.1 (m + 1) x.2 (cs ++ frC none 0 0 none 0 0 (gr + 1) a)]) := by
  intro w0 B R w h
  replace h : Sat w0 B (PB g fg m fcap (PR gr sh size) :: FB fg m fcap cs :: R) w := h
  refine calls_of_ES TB Try.func79 rfl _ Try.ntmps79 rfl h ?_
  refine .go ?_; repeat constructor
  refine EL.assign rfl rfl rfl ?_
  refine .go ?_; repeat constructor
  refine EL.move rfl rfl rfl ?_
  refine EL.nilCheck rfl rfl rfl ?_
  refine EL.fieldAddr rfl rfl rfl rfl rfl rfl rfl rfl ?_
  (apply EL.loadB; exact rfl; exact rfl; exact rfl; exact rfl; exact rfl; (case hm => repeat constructor); exact rfl)
  refine EL.eqlI rfl rfl rfl rfl ?_
  refine .go ?_; repeat constructor
  refine ES.condK false rfl (decide_eq_false (by omega)) ?_
  refine .go ?_; repeat constructor
  refine EL.move rfl rfl rfl ?_
  refine EL.nilCheck rfl rfl rfl ?_
  refine EL.fieldAddr rfl rfl rfl rfl rfl rfl rfl rfl ?_
  (apply EL.loadB; exact rfl; exact rfl; exact rfl; exact rfl; exact rfl; (case hm => repeat constructor); exact rfl)
  refine EL.add1 rfl rfl rfl rfl (by omega) ?_
  refine EL.nilCheck rfl rfl rfl ?_
  refine EL.fieldAddr rfl rfl rfl rfl rfl rfl rfl rfl ?_
  (refine EL.storeB rfl rfl rfl rfl rfl rfl (by repeat constructor) (by simp) ?_; refine EL.blkEq (g := g) (by repeat constructor) (congrArg (fun a => Obj.cells a 143 (0, 0)) (pr_groups_set _ gr (gr + 1) size sh)) ?_)
  refine .go ?_; repeat constructor
  refine ES.draw (X := Nat × Nat) (fun x => []) (fun x => PB g x.1 (m + 1) x.2 (PR (gr + 1) sh size) :: FB x.1 (m + 1) x.2 (cs ++ frC none 0 0 none 0 0 (gr + 1) a) :: R) (PB g fg m fcap (PR (gr + 1) sh size) :: R) mixed (.i (by repeat constructor)) ?_ (fun x => ?_)
  · refine ED.take 0 rfl (by decide +kernel) CutX.no_panic (by decide +kernel) rfl rfl rfl (RV.move rfl) ?_
    refine ED.take 1 rfl (by decide +kernel) CutX.no_panic (by decide +kernel) rfl rfl rfl (RV.move rfl) ?_
    refine ED.take 2 rfl (by decide +kernel) CutX.no_panic (by decide +kernel) rfl rfl rfl (RV.nilCheck rfl) ?_
    refine ED.take 3 rfl (by decide +kernel) CutX.no_panic (by decide +kernel) rfl rfl rfl (RV.fieldAddr rfl rfl rfl rfl rfl rfl) ?_
    refine ED.take 4 rfl (by decide +kernel) CutX.no_panic (by decide +kernel) rfl rfl rfl (RV.loadB rfl rfl rfl (by repeat constructor) rfl) ?_
    refine ED.take 5 rfl (by decide +kernel) CutX.no_panic (by decide +kernel) rfl rfl rfl (RV.move rfl) ?_
    refine ED.take 6 rfl (by decide +kernel) CutX.no_panic (by decide +kernel) rfl rfl rfl (RV.nilCheck rfl) ?_
    refine ED.take 7 rfl (by decide +kernel) CutX.no_panic (by decide +kernel) rfl rfl rfl (RV.fieldAddr rfl rfl rfl rfl rfl rfl) ?_
    refine ED.take 8 rfl (by decide +kernel) CutX.no_panic (by decide +kernel) rfl rfl rfl (RV.loadB rfl rfl rfl (by repeat constructor) rfl) ?_
    refine ED.take 9 rfl (by decide +kernel) CutX.no_panic (by decide +kernel) rfl rfl rfl (RV.move rfl) ?_
    refine ED.take 10 rfl (by decide +kernel) CutX.no_panic (by decide +kernel) rfl rfl rfl (RV.buildS #[.slice none 0 0, .slice none 0 0, _, _] rfl rfl rfl rfl rfl) ?_
    refine ED.loud 11 rfl (by decide +kernel) ?_
    (refine EL.buildSlice1 rfl rfl rfl rfl rfl rfl rfl rfl rfl rfl ?_; intro b28)
    refine ED.next (.i (by repeat constructor)) ?_
    refine ED.loud 12 rfl (by decide +kernel) ?_
    (refine EL.append1 rfl rfl rfl rfl rfl rfl rfl rfl rfl (by repeat constructor) (by repeat constructor) (by first | (intro u hu; simp [Value.cells] at hu; subst hu; rfl) | exact all1 rfl) (by rfl) (by unfold maxLen; omega) (by first | omega | (show 1 * _ ≤ _; omega) | (show 8 * _ ≤ _; omega) | (show 16 * _ ≤ _; omega) | (show 24 * _ ≤ _; omega) | (show _ * 1 ≤ _; omega) | (show _ * 8 ≤ _; omega) | (show _ * 16 ≤ _; omega) | (show _ * 24 ≤ _; omega) | exact Nat.le_trans (Nat.mul_le_mul_right _ (show _ ≤ 1073741824 by omega)) (by decide)) ?_; intro a29 c29)
    refine ED.next (.i (by repeat constructor)) ?_
    refine ED.take 13 rfl (by decide +kernel) CutX.no_panic (by decide +kernel) rfl rfl rfl (RV.nilCheck rfl) ?_
    refine ED.take 14 rfl (by decide +kernel) CutX.no_panic (by decide +kernel) rfl rfl rfl (RV.fieldAddr rfl rfl rfl rfl rfl rfl) ?_
    refine ED.last 15 rfl (by decide +kernel) (by decide +kernel) (by decide +kernel) ?_
    (refine EL.storeB rfl rfl rfl rfl rfl rfl (by repeat constructor) (by simp) ?_; refine EL.blkEq (g := g) (by repeat constructor) (congrArg (fun a => Obj.cells a 143 (0, 0)) (pr_frames_set _ _ _)) ?_)
    refine EL.endQ ?_
    exact PX.cutX (a29, c29) trivial (.i (by repeat constructor))
  refine .go ?_; repeat constructor
  refine EL.assign rfl rfl rfl ?_
  refine .go ?_; repeat constructor
  exact PX.ret rfl Try.results79 (.cons (.tmp rfl) .nil) (fun w hs => ⟨x, rfl, hs.ent (.i (by repeat constructor))⟩)
end Go.Proofs.Ytblpgpgbnlhjlaa
