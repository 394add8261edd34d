/- Layer 12 (occur): All, List. -/
import Derived.Test.YtblpgpgbnlhjlaaKa
namespace Go.Proofs.Ytblpgpgbnlhjlaa
open Go Go.RowKit Sl
set_option maxRecDepth 100000
set_option maxHeartbeats 8000000
set_option linter.unusedVariables false
set_option linter.unusedSimpArgs false
attribute [local irreducible] ES EL PX wps

theorem occ_len {mr : Nat → MR} {n : Nat} : ∀ (f p : Nat) (last : Int), (occGo mr n f p last).length ≤ f
  | 0, _, _ => Nat.le_refl _
  | f + 1, p, last => by
    rw [occGo]
    split
    · simp
    · split
      · simp
      · split
        · simp
        · dsimp only
          split
          · exact Nat.le_trans (occ_len f _ _) (Nat.le_succ _)
          · simp only [List.length_cons]
            exact Nat.succ_le_succ (occ_len f _ _)
theorem occAll_c (po : Option Addr) (s : List UInt8) (w : World) : Pure Try.prog 48 #[.pointer po, Sv s] (fun x : Nat × Nat => .func (.func 70) #[] #[Pv x.1 0, Pv x.2 0]) (fun x => [HA.blk x.1 (.cells #[Sv s] 9), HA.blk x.2 (.cells #[.pointer po] 39)]) w := by
  refine calls_of_ES TB Try.func48 rfl _ Try.ntmps48 rfl (Sat.start w) ?_
  refine .gr ?_; repeat constructor
  (refine EL.box rfl rfl rfl ?_; intro g2)
  (refine EL.box rfl rfl rfl ?_; intro g3)
  refine EL.assign rfl rfl rfl ?_
  refine .gr ?_; repeat constructor
  refine EL.makeFunc rfl rfl rfl ?_
  refine EL.assign rfl rfl rfl ?_
  refine .gr ?_; repeat constructor
  exact PX.ret rfl Try.results48 (.cons (.tmp rfl) .nil) (fun w hs => ⟨(g3, g2), rfl, hs.ent (.i (by repeat constructor))⟩)
/-- A list of lists of spans: address, room, spans. -/
abbrev LsT := Option Addr × Nat × List Spn
def lsV (x : LsT) : Value := .slice x.1 x.2.2.length x.2.1
def lsR (x : LsT) : HA := PRow x.1 x.2.1 x.2.2
theorem lsR_add {w0 w : World} {B : Nat} {rs : List LsT} {x : LsT} {R : List HA} (h : Sat w0 B (lsR x :: HA.pack (rs.map lsR) :: R) w) : Sat w0 B (HA.pack ((rs ++ [x]).map lsR) :: R) w := by
  have h1 : Sat w0 B (HA.pack (rs.map lsR) :: (lsR x :: R)) w := h.perm (List.Perm.swap _ _ _)
  have h2 := h1.unpack
  rw [List.map_append]
  exact Sat.pack (by rw [List.append_assoc]; exact h2)
theorem mats_one {w0 w : World} {B g : Nat} {t : List UInt8} {st : Int} {R : List HA} (h : Sat w0 B (MB g t (meOf t) st :: R) w) : Sat w0 B (HA.mats [(g, t)] :: R) w :=
  Sat.matsIn (l := []) (r := []) ((Sat.mats0 h).perm (List.Perm.swap _ _ _))
theorem pack_nil {w0 w : World} {B : Nat} {R : List HA} (h : Sat w0 B R w) : Sat w0 B (HA.pack [] :: R) w := Sat.pack (Hs := []) h
theorem occList_c (t s : List UInt8) (hp : (parseM t).e = 0) (ht : t.length ≤ 4611686018427387904) (hb : (meOf t).back = false) (hsl : s.length ≤ 1048576) (mr : Nat → MR) (hmr : ∀ p : Nat, p ≤ s.length → ∃ F, setM F t s (p : Nat) = some (mr p)) (hok : McOk mr s.length) (he : ∀ p, (mr p).e = 0)
    (hall : ∀ x ∈ occL mr s.length, x.2 = 0) (most : Nat) (hlt : (occL mr s.length).length < most) (w : World) (hG : GR w w.heap.size) :
    Pure Try.prog 28 #[Sv t, Sv s, Iv (most : Nat)] (fun x : { x : (Option Addr × Nat) × List LsT // x.2.map (fun y => y.2.2) = (occL mr s.length).map Prod.fst } => .tuple #[.slice x.1.1.1 x.1.2.length x.1.1.2, Iv 0])
      (fun x => [HA.row (.slice x.1.1.1 x.1.2.length x.1.1.2) 28 1 x.1.2.length (x.1.2.map lsV), HA.pack (x.1.2.map lsR)]) w := by
  refine calls_of_ESM TB Try.func28 rfl _ Try.ntmps28 rfl (Sat.start w) ?_
  refine .gr ?_; repeat constructor
  (refine EL.box rfl rfl rfl ?_; intro g5)
  (refine EL.alloc rfl rfl rfl ?_; intro g6)
  (refine EL.alloc rfl rfl rfl ?_; intro g7)
  refine .gr ?_; repeat constructor
  refine EL.move rfl rfl rfl ?_
  (refine EL.callXw rfl rfl rfl ent36 rfl (fun w hs => newOk_c t hp ht w (GR.sat hG hs)) ?_; intro gmt)
  refine EL.move rfl rfl rfl ?_
  refine EL.extract rfl rfl rfl rfl ?_
  refine EL.extract rfl rfl rfl rfl ?_
  (refine EL.alloc rfl rfl rfl ?_; intro g9)
  refine EL.assign rfl rfl rfl ?_
  (apply EL.storeAll; exact rfl; exact rfl; exact rfl; exact rfl; exact rfl; (case p => repeat constructor); exact rfl; (case h1 => exact (by first | rfl | exact all1 rfl | (intro u hu; simp only [List.mem_cons, List.not_mem_nil, or_false] at hu; rcases hu with rfl | rfl | rfl | rfl <;> rfl) | (intro u hu; simp at hu; rcases hu with rfl | rfl | rfl | rfl <;> rfl) | (intro u hu; simp at hu; rcases hu with rfl | rfl | rfl <;> rfl) | (intro u hu; simp at hu; rcases hu with rfl | rfl <;> rfl) | (intro u hu; simp at hu; obtain ⟨_, _, rfl⟩ := hu; rfl))))
  refine .gr ?_; repeat constructor
  refine .gr ?_; repeat constructor
  refine EL.fieldAddr rfl rfl rfl rfl rfl rfl rfl rfl ?_
  (apply EL.loadB; exact rfl; exact rfl; exact rfl; exact rfl; exact rfl; (case hm => repeat constructor); exact rfl)
  refine EL.neqI rfl rfl rfl rfl ?_
  refine .gr ?_; repeat constructor
  refine ES.condF rfl ?_
  refine .gr ?_; repeat constructor
  (apply EL.loadB; exact rfl; exact rfl; exact rfl; exact rfl; exact rfl; (case hm => repeat constructor); exact rfl)
  refine EL.lss rfl rfl rfl rfl ?_
  refine .gr ?_; repeat constructor
  refine ES.condD rfl (fun h => absurd h (by omega)) (fun _ => ?_)
  refine .gr ?_; repeat constructor
  (refine EL.alloc rfl rfl rfl ?_; intro g10)
  refine .gr ?_; repeat constructor
  (apply EL.loadB; exact rfl; exact rfl; exact rfl; exact rfl; exact rfl; (case hm => repeat constructor); exact rfl)
  refine EL.eqlI rfl rfl rfl rfl ?_
  refine .gr ?_; repeat constructor
  refine ES.condD rfl (fun h => absurd h (by omega)) (fun _ => ?_)
  refine .gr ?_; repeat constructor
  refine EL.move rfl rfl rfl ?_
  refine EL.move rfl rfl rfl ?_
  (refine EL.callX rfl rfl rfl ent48 rfl (occAll_c _ s) ?_; rintro ⟨gs, gm⟩)
  refine .gr ?_; repeat constructor
  refine ES.imp (H' := HA.pack ([] : List HA) :: HA.mats [(gmt, t)] :: HA.blk gs (.cells #[Sv s] 9) :: HA.blk gm (.cells #[Pv gmt 0] 39) :: HA.blk g10 (.cells #[.slice none 0 0] 45) :: HA.blk g5 (.cells #[Iv (most : Nat)] 3) :: HA.blk g6 (.cells #[.slice none 0 0] 45) :: HA.blk g7 (.cells #[Iv 0] 23) :: []) (fun w hs => pack_nil (mats_one (st := 0) (hs.ent (.i (by repeat constructor))))) ?_
  refine ES.nilRow 28 1 ?_
  obtain ⟨xs, hxs⟩ : ∃ xs, xs = occL mr s.length := ⟨_, rfl⟩
  have hmt : ∀ p : Nat, p ≤ s.length → MutAt Try.prog 22 #[Pv gmt 0, Sv s, Iv (p : Nat)] [HA.mats [(gmt, t)]] (mrV (mr p)) (fun x => [PRow x.1 x.2 (mr p).spans, HA.mats [(gmt, t)]]) w w.heap.size := fun p hp => by
    obtain ⟨F, hF⟩ := hmr p hp
    exact matchMats_c F [(gmt, t)] (gmt, t) (by simp) ht hb s _ _ hF w _ hG
  have hit := occ1_iter gs gm s (by omega) (some ⟨gmt, 0, none⟩) (HA.mats [(gmt, t)]) mr hok w w.heap.size hmt (fun p hp => absurd (he p) hp)
  have hxl : xs.length ≤ s.length + 2 := by rw [hxs]; exact occ_len _ _ _
  rw [← hxs] at hall hlt hit
  refine ES.rangeFuncX (σ := (Option Addr × Nat) × List LsT) (τ := Unit) (fun i z => z.2.length = i ∧ i ≤ xs.length ∧ z.2.map (fun y => y.2.2) = (xs.take i).map Prod.fst)
    (fun z => [HA.blk g10 (.cells #[.slice z.1.1 z.2.length z.1.2] 45), HA.row (.slice z.1.1 z.2.length z.1.2) 28 1 z.2.length (z.2.map lsV), HA.pack (z.2.map lsR), HA.blk g5 (.cells #[Iv (most : Nat)] 3)]) (fun _ _ _ => False) (fun _ => []) ((none, 0), []) ⟨rfl, Nat.zero_le _, rfl⟩
    rfl rfl ent70 hit (by repeat constructor) (by repeat constructor) (by rintro i x G ⟨l, e, ad, cap, _, rfl, rfl⟩; rfl) rfl ?_ (fun D z hz => ?_) (fun D c i z h => h.elim)
  · rintro l i ⟨⟨ad, cap⟩, rs⟩ x G R1 ⟨hi, hle, hmap⟩ ⟨sp, e, ad', cap', hx, rfl, rfl⟩
    dsimp only at hi hle hmap ⊢
    have hlt2 : i < xs.length := (List.getElem?_eq_some_iff.1 hx).1
    have he0 : e = 0 := hall (sp, e) (List.mem_of_getElem? hx)
    subst he0
    have htk : xs.take (i + 1) = xs.take i ++ [(sp, 0)] := by
      rw [List.take_succ_eq_append_getElem hlt2, (List.getElem?_eq_some_iff.1 hx).2]
    refine .gr ?_; repeat constructor
    refine EL.assign rfl rfl rfl ?_
    refine .gr ?_; repeat constructor
    refine EL.assign rfl rfl rfl ?_
    refine .gr ?_; repeat constructor
    refine PX.assigned [(11, .slice ad' sp.length cap'), (12, Iv 0), (10, Pv g10 0), (5, Pv g5 0)] [HA.blk g10 (.cells #[.slice ad rs.length cap] 45), HA.row (.slice ad rs.length cap) 28 1 rs.length (rs.map lsV), HA.pack (rs.map lsR), HA.blk g5 (.cells #[Iv (most : Nat)] 3), lsR (ad', cap', sp)] ⟨rfl, rfl, rfl, rfl, trivial⟩ (.i (by repeat constructor)) (fun R2 => ?_)
    refine ES.imp (H' := HA.pack ((rs ++ [(ad', cap', sp)]).map lsR) :: HA.blk g10 (.cells #[.slice ad rs.length cap] 45) :: HA.row (.slice ad rs.length cap) 28 1 rs.length (rs.map lsV) :: HA.blk g5 (.cells #[Iv (most : Nat)] 3) :: R2) (fun w hs => lsR_add (hs.ent (.i (by repeat constructor)))) ?_
    refine .gr ?_; repeat constructor
    refine EL.move rfl rfl rfl ?_
    refine EL.neqI rfl rfl rfl rfl ?_
    refine .gr ?_; repeat constructor
    refine ES.condF rfl ?_
    refine .gr ?_; repeat constructor
    (apply EL.loadB; exact rfl; exact rfl; exact rfl; exact rfl; exact rfl; (case hm => repeat constructor); exact rfl)
    refine EL.move rfl rfl rfl ?_
    (refine EL.buildSlice1 rfl rfl rfl rfl rfl rfl rfl rfl rfl rfl ?_; intro b37)
    (refine EL.append1 rfl rfl rfl rfl rfl rfl rfl rfl rfl (by repeat constructor) (by repeat constructor) (by first | (intro u hu; simp [Value.cells] at hu; subst hu; rfl) | exact all1 rfl) (by rfl) (by unfold maxLen; omega) (by first | omega | (show 1 * _ ≤ _; omega) | (show 8 * _ ≤ _; omega) | (show 16 * _ ≤ _; omega) | (show 24 * _ ≤ _; omega) | (show _ * 1 ≤ _; omega) | (show _ * 8 ≤ _; omega) | (show _ * 16 ≤ _; omega) | (show _ * 24 ≤ _; omega) | exact Nat.le_trans (Nat.mul_le_mul_right _ (show _ ≤ 1073741824 by omega)) (by decide)) ?_; intro a38 c38)
    (apply EL.storeB; exact rfl; exact rfl; exact rfl; exact rfl; exact rfl; exact rfl; (case p => repeat constructor); exact (by first | decide | exact Nat.le_of_ble_eq_true rfl | simp))
    refine .gr ?_; repeat constructor
    (apply EL.loadB; exact rfl; exact rfl; exact rfl; exact rfl; exact rfl; (case hm => repeat constructor); exact rfl)
    refine EL.lenL rfl rfl rfl rfl rfl ?_
    (apply EL.loadB; exact rfl; exact rfl; exact rfl; exact rfl; exact rfl; (case hm => repeat constructor); exact rfl)
    refine EL.eqlI rfl rfl rfl rfl ?_
    refine .gr ?_; repeat constructor
    refine ES.condD rfl (fun h => absurd h (by omega)) (fun _ => ?_)
    refine .gr ?_; repeat constructor
    refine PX.round ((some ⟨a38, 0, none⟩, c38), rs ++ [(ad', cap', sp)]) ⟨by simp [hi], by omega, by rw [htk, List.map_append, List.map_append, hmap]; rfl⟩ ?_
    dsimp only
    rw [List.length_append, List.map_append (f := lsV)]
    exact (.i (by repeat constructor))
  · obtain ⟨⟨ad, cap⟩, rs⟩ := z
    obtain ⟨hi, _, hmap⟩ := hz
    dsimp only at hi hmap ⊢
    rw [List.take_length] at hmap
    refine .gr ?_; repeat constructor
    (apply EL.loadB; exact rfl; exact rfl; exact rfl; exact rfl; exact rfl; (case hm => repeat constructor); exact rfl)
    (apply EL.storeB; exact rfl; exact rfl; exact rfl; exact rfl; exact rfl; exact rfl; (case p => repeat constructor); exact (by first | decide | exact Nat.le_of_ble_eq_true rfl | simp))
    (apply EL.storeB; exact rfl; exact rfl; exact rfl; exact rfl; exact rfl; exact rfl; (case p => repeat constructor); exact (by first | decide | exact Nat.le_of_ble_eq_true rfl | simp))
    refine .gr ?_; repeat constructor
    exact PX.retM [D] rfl (by repeat constructor) Try.results28 (.cons (.blk1 rfl rfl rfl (by repeat constructor) rfl) (.cons (.blk1 rfl rfl rfl (by repeat constructor) rfl) .nil)) (fun w hs => ⟨⟨((ad, cap), rs), by rw [hmap, hxs]⟩, rfl, hs.ent (.i (by repeat constructor))⟩)
end Go.Proofs.Ytblpgpgbnlhjlaa
