/- Layer 4 (bre): a token is read; the tokens, one at a time. -/
import Derived.Test.YtblpgpgbnlhjlaaPc
namespace Go.Proofs.Ytblpgpgbnlhjlaa
open Go Go.RowKit Sl
set_option maxRecDepth 100000
set_option maxHeartbeats 8000000
set_option linter.unusedVariables false
set_option linter.unusedSimpArgs false
attribute [local irreducible] ES EL PX wps

theorem escT_at (t : List UInt8) (a : Nat) (b : Bool) (ha : a < t.length) : (escT t a b).1.kind ≠ 7 → a < (escT t a b).2 ∧ (escT t a b).2 ≤ t.length := by
  unfold escT
  dsimp only
  split
  · intro h; exact absurd rfl h
  repeat' split
  all_goals (intro h; first | exact absurd rfl h | (simp only; omega) | skip)
  rename_i lo hi n h2 h3
  have := iv_le h2
  simp only; omega
theorem readT_at (t : List UInt8) (a : Nat) (f b : Bool) (ha : a < t.length) : (readT t a f b).1.kind ≠ 7 → a < (readT t a f b).2 ∧ (readT t a f b).2 ≤ t.length := by
  unfold readT
  dsimp only
  split
  · exact escT_at t a b ha
  · split
    · split
      · intro h; exact absurd rfl h
      · rename_i h1
        intro _
        have := brack_next t a (by simpa using h1)
        simp only; omega
    · repeat' split
      all_goals (intro _; simp only; omega)
theorem escaped_c (t : List UInt8) (a : Nat) (bg : Bool) (ha : a < t.length) (ht : t.length ≤ 1073741824) (w : World) :
    Pure Try.prog 98 #[Sv t, Iv (a : Nat), .bool bg] (fun _ : Unit => .tuple #[tokV (escT t a bg).1, Iv ((escT t a bg).2 : Nat)]) (fun _ => []) w := by
  have hesc : escT t a bg = (if a + 1 = t.length then (badT a 6, a)
    else
      let b := t.getD (a + 1) 0
      if b.toNat = 40 then (⟨3, a, zeroS, 0, 0, 0⟩, a + 2)
      else if b.toNat = 41 then (⟨4, a, zeroS, 0, 0, 0⟩, a + 2)
      else if b.toNat = 123 then
        match ivM t (a + 2) with
        | none => (badT a 9, a)
        | some (lo, hi, n) => if bg = true then (badT a 9, a) else (⟨5, a, zeroS, (lo : Int), hi, 0⟩, n)
      else if b.toNat = 125 then (badT a 9, a)
      else if b.toNat = 110 then (oneT a 10, a + 2)
      else if 49 ≤ b.toNat ∧ b.toNat ≤ 57 then (⟨6, a, zeroS, ((b.toNat - 48 : Nat) : Int), 0, 0⟩, a + 2)
      else if isAln b = true then (badT a 12, a)
      else (oneT a b, a + 2)) := rfl
  obtain ⟨b, hb⟩ : ∃ b, b = t.getD (a + 1) 0 := ⟨_, rfl⟩
  have hb8 := b.toNat_lt
  rw [← hb] at hesc
  dsimp only at hesc
  generalize escT t a bg = r at hesc ⊢
  refine calls_of_ES TB Try.func98 rfl _ Try.ntmps98 rfl (Sat.start w) ?_
  refine .go ?_; repeat constructor
  (refine EL.alloc rfl rfl rfl ?_; intro g6)
  refine EL.assign rfl rfl rfl ?_
  refine .go ?_; repeat constructor
  refine EL.move rfl rfl rfl ?_
  refine EL.add1 rfl rfl rfl rfl (by omega) ?_
  refine EL.move rfl rfl rfl ?_
  refine EL.lenS rfl rfl rfl rfl rfl ?_
  refine EL.eqlI rfl rfl rfl rfl ?_
  refine .go ?_; repeat constructor
  refine ES.condD rfl (fun he => ?_) (fun hne => ?_)
  · rw [if_pos (by omega)] at hesc
    subst hesc
    refine .go ?_; repeat constructor
    refine EL.move rfl rfl rfl ?_
    refine EL.callP rfl rfl rfl ent100 rfl (bad_c a 6) ?_
    refine EL.move rfl rfl rfl ?_
    (apply EL.storeAll; exact rfl; exact rfl; exact rfl; exact rfl; exact rfl; (case p => repeat constructor); exact rfl; (case h1 => exact (by first | rfl | exact all1 rfl | (intro u hu; simp only [List.mem_cons, List.not_mem_nil, or_false] at hu; rcases hu with rfl | rfl | rfl | rfl <;> rfl) | (intro u hu; simp at hu; rcases hu with rfl | rfl | rfl | rfl <;> rfl) | (intro u hu; simp at hu; rcases hu with rfl | rfl | rfl <;> rfl) | (intro u hu; simp at hu; rcases hu with rfl | rfl <;> rfl) | (intro u hu; simp at hu; obtain ⟨_, _, rfl⟩ := hu; rfl))))
    refine EL.assign rfl rfl rfl ?_
    refine .go ?_; repeat constructor
    exact PX.ret rfl Try.results98 (.cons (.blkA rfl rfl rfl (by repeat constructor) rfl) (.cons (.tmp rfl) .nil)) (fun w hs => ⟨(), rfl, hs.ent (.i (by repeat constructor))⟩)
  rw [if_neg (by omega)] at hesc
  have hlt : a + 1 < t.length := by omega
  refine .go ?_; repeat constructor
  refine EL.move rfl rfl rfl ?_
  refine EL.move rfl rfl rfl ?_
  refine EL.add1 rfl rfl rfl rfl (by omega) ?_
  refine EL.indexSN rfl rfl rfl rfl rfl rfl (by omega) ?_
  refine EL.rew (d := 24) (v' := Uv b) rfl (by rw [hb]) ?_
  refine EL.assign rfl rfl rfl ?_
  refine .go ?_; repeat constructor
  refine .go ?_; repeat constructor
  refine EL.move rfl rfl rfl ?_
  refine EL.eqlI rfl rfl rfl rfl ?_
  refine EL.assign rfl rfl rfl ?_
  refine .go ?_; repeat constructor
  refine ES.condD rfl (fun h1 => ?_) (fun h1 => ?_)
  · rw [if_pos (by omega)] at hesc
    subst hesc
    refine .go ?_; repeat constructor
    refine EL.move rfl rfl rfl ?_
    refine EL.buildS (tokCells ⟨3, a, zeroS, 0, 0, 0⟩) rfl rfl rfl rfl rfl rfl rfl ?_
    refine EL.move rfl rfl rfl ?_
    refine EL.addN (n := 2) rfl rfl rfl rfl rfl (by omega) ?_
    (apply EL.storeAll; exact rfl; exact rfl; exact rfl; exact rfl; exact rfl; (case p => repeat constructor); exact rfl; (case h1 => exact (by first | rfl | exact all1 rfl | (intro u hu; simp only [List.mem_cons, List.not_mem_nil, or_false] at hu; rcases hu with rfl | rfl | rfl | rfl <;> rfl) | (intro u hu; simp at hu; rcases hu with rfl | rfl | rfl | rfl <;> rfl) | (intro u hu; simp at hu; rcases hu with rfl | rfl | rfl <;> rfl) | (intro u hu; simp at hu; rcases hu with rfl | rfl <;> rfl) | (intro u hu; simp at hu; obtain ⟨_, _, rfl⟩ := hu; rfl))))
    refine EL.assign rfl rfl rfl ?_
    refine .go ?_; repeat constructor
    exact PX.ret rfl Try.results98 (.cons (.blkA rfl rfl rfl (by repeat constructor) rfl) (.cons (.tmp rfl) .nil)) (fun w hs => ⟨(), rfl, hs.ent (.i (by repeat constructor))⟩)
  rw [if_neg (by omega)] at hesc
  refine .go ?_; repeat constructor
  refine EL.move rfl rfl rfl ?_
  refine EL.eqlI rfl rfl rfl rfl ?_
  refine EL.assign rfl rfl rfl ?_
  refine .go ?_; repeat constructor
  refine ES.condD rfl (fun h2 => ?_) (fun h2 => ?_)
  · rw [if_pos (by omega)] at hesc
    subst hesc
    refine .go ?_; repeat constructor
    refine EL.move rfl rfl rfl ?_
    refine EL.buildS (tokCells ⟨4, a, zeroS, 0, 0, 0⟩) rfl rfl rfl rfl rfl rfl rfl ?_
    refine EL.move rfl rfl rfl ?_
    refine EL.addN (n := 2) rfl rfl rfl rfl rfl (by omega) ?_
    (apply EL.storeAll; exact rfl; exact rfl; exact rfl; exact rfl; exact rfl; (case p => repeat constructor); exact rfl; (case h1 => exact (by first | rfl | exact all1 rfl | (intro u hu; simp only [List.mem_cons, List.not_mem_nil, or_false] at hu; rcases hu with rfl | rfl | rfl | rfl <;> rfl) | (intro u hu; simp at hu; rcases hu with rfl | rfl | rfl | rfl <;> rfl) | (intro u hu; simp at hu; rcases hu with rfl | rfl | rfl <;> rfl) | (intro u hu; simp at hu; rcases hu with rfl | rfl <;> rfl) | (intro u hu; simp at hu; obtain ⟨_, _, rfl⟩ := hu; rfl))))
    refine EL.assign rfl rfl rfl ?_
    refine .go ?_; repeat constructor
    exact PX.ret rfl Try.results98 (.cons (.blkA rfl rfl rfl (by repeat constructor) rfl) (.cons (.tmp rfl) .nil)) (fun w hs => ⟨(), rfl, hs.ent (.i (by repeat constructor))⟩)
  rw [if_neg (by omega)] at hesc
  refine .go ?_; repeat constructor
  refine EL.move rfl rfl rfl ?_
  refine EL.eqlI rfl rfl rfl rfl ?_
  refine EL.assign rfl rfl rfl ?_
  refine .go ?_; repeat constructor
  refine ES.condD rfl (fun h3 => ?_) (fun h3 => ?_)
  · rw [if_pos (by omega)] at hesc
    have hic := interval_c t (a + 2) (by omega) ht
    cases hiv : ivM t (a + 2) with
    | none =>
      rw [hiv] at hesc hic
      dsimp only at hesc
      subst hesc
      refine .go ?_; repeat constructor
      refine EL.move rfl rfl rfl ?_
      refine EL.move rfl rfl rfl ?_
      refine EL.addN (n := 2) rfl rfl rfl rfl rfl (by omega) ?_
      refine EL.callP rfl rfl rfl ent107 rfl hic ?_
      refine EL.move rfl rfl rfl ?_
      refine EL.extract rfl rfl rfl rfl ?_
      refine EL.extract rfl rfl rfl rfl ?_
      refine EL.extract rfl rfl rfl rfl ?_
      refine EL.extract rfl rfl rfl rfl ?_
      refine EL.assign rfl rfl rfl ?_
      refine EL.assign rfl rfl rfl ?_
      refine EL.assign rfl rfl rfl ?_
      refine EL.assign rfl rfl rfl ?_
      refine .go ?_; repeat constructor
      refine EL.move rfl rfl rfl ?_
      refine EL.not rfl rfl rfl ?_
      refine EL.move rfl rfl rfl ?_
      refine EL.rew (d := 58) (v' := .bool true) rfl (by first | rfl | (decide) | (simp)) ?_
      refine EL.pass rfl rfl rfl ?_
      refine EL.pickT rfl rfl rfl rfl ?_
      refine .go ?_; repeat constructor
      refine ES.condT rfl ?_
      refine .go ?_; repeat constructor
      refine EL.move rfl rfl rfl ?_
      refine EL.callP rfl rfl rfl ent100 rfl (bad_c a 9) ?_
      refine EL.move rfl rfl rfl ?_
      (apply EL.storeAll; exact rfl; exact rfl; exact rfl; exact rfl; exact rfl; (case p => repeat constructor); exact rfl; (case h1 => exact (by first | rfl | exact all1 rfl | (intro u hu; simp only [List.mem_cons, List.not_mem_nil, or_false] at hu; rcases hu with rfl | rfl | rfl | rfl <;> rfl) | (intro u hu; simp at hu; rcases hu with rfl | rfl | rfl | rfl <;> rfl) | (intro u hu; simp at hu; rcases hu with rfl | rfl | rfl <;> rfl) | (intro u hu; simp at hu; rcases hu with rfl | rfl <;> rfl) | (intro u hu; simp at hu; obtain ⟨_, _, rfl⟩ := hu; rfl))))
      refine EL.assign rfl rfl rfl ?_
      refine .go ?_; repeat constructor
      exact PX.ret rfl Try.results98 (.cons (.blkA rfl rfl rfl (by repeat constructor) rfl) (.cons (.tmp rfl) .nil)) (fun w hs => ⟨(), rfl, hs.ent (.i (by repeat constructor))⟩)
    | some x =>
      obtain ⟨lo, hi, n⟩ := x
      have hle := iv_le hiv
      rw [hiv] at hesc hic
      dsimp only at hesc
      refine .go ?_; repeat constructor
      refine EL.move rfl rfl rfl ?_
      refine EL.move rfl rfl rfl ?_
      refine EL.addN (n := 2) rfl rfl rfl rfl rfl (by omega) ?_
      refine EL.callP rfl rfl rfl ent107 rfl hic ?_
      refine EL.move rfl rfl rfl ?_
      refine EL.extract rfl rfl rfl rfl ?_
      refine EL.extract rfl rfl rfl rfl ?_
      refine EL.extract rfl rfl rfl rfl ?_
      refine EL.extract rfl rfl rfl rfl ?_
      refine EL.assign rfl rfl rfl ?_
      refine EL.assign rfl rfl rfl ?_
      refine EL.assign rfl rfl rfl ?_
      refine EL.assign rfl rfl rfl ?_
      refine .go ?_; repeat constructor
      refine EL.move rfl rfl rfl ?_
      refine EL.not rfl rfl rfl ?_
      refine EL.move rfl rfl rfl ?_
      refine EL.rew (d := 58) (v' := .bool false) rfl (by first | rfl | (decide) | (simp)) ?_
      refine EL.move rfl rfl rfl ?_
      refine EL.pickF rfl rfl rfl rfl ?_
      refine .go ?_; repeat constructor
      refine ES.cond rfl (fun hbg => ?_) (fun hbg => ?_)
      · rw [if_pos hbg] at hesc
        subst hesc
        refine .go ?_; repeat constructor
        refine EL.move rfl rfl rfl ?_
        refine EL.callP rfl rfl rfl ent100 rfl (bad_c a 9) ?_
        refine EL.move rfl rfl rfl ?_
        (apply EL.storeAll; exact rfl; exact rfl; exact rfl; exact rfl; exact rfl; (case p => repeat constructor); exact rfl; (case h1 => exact (by first | rfl | exact all1 rfl | (intro u hu; simp only [List.mem_cons, List.not_mem_nil, or_false] at hu; rcases hu with rfl | rfl | rfl | rfl <;> rfl) | (intro u hu; simp at hu; rcases hu with rfl | rfl | rfl | rfl <;> rfl) | (intro u hu; simp at hu; rcases hu with rfl | rfl | rfl <;> rfl) | (intro u hu; simp at hu; rcases hu with rfl | rfl <;> rfl) | (intro u hu; simp at hu; obtain ⟨_, _, rfl⟩ := hu; rfl))))
        refine EL.assign rfl rfl rfl ?_
        refine .go ?_; repeat constructor
        exact PX.ret rfl Try.results98 (.cons (.blkA rfl rfl rfl (by repeat constructor) rfl) (.cons (.tmp rfl) .nil)) (fun w hs => ⟨(), rfl, hs.ent (.i (by repeat constructor))⟩)
      · rw [if_neg (by rw [hbg]; decide)] at hesc
        subst hesc
        refine .go ?_; repeat constructor
        refine EL.move rfl rfl rfl ?_
        refine EL.move rfl rfl rfl ?_
        refine EL.move rfl rfl rfl ?_
        refine EL.buildS (tokCells ⟨5, a, zeroS, (lo : Int), hi, 0⟩) rfl rfl rfl rfl rfl rfl rfl ?_
        refine EL.move rfl rfl rfl ?_
        (apply EL.storeAll; exact rfl; exact rfl; exact rfl; exact rfl; exact rfl; (case p => repeat constructor); exact rfl; (case h1 => exact (by first | rfl | exact all1 rfl | (intro u hu; simp only [List.mem_cons, List.not_mem_nil, or_false] at hu; rcases hu with rfl | rfl | rfl | rfl <;> rfl) | (intro u hu; simp at hu; rcases hu with rfl | rfl | rfl | rfl <;> rfl) | (intro u hu; simp at hu; rcases hu with rfl | rfl | rfl <;> rfl) | (intro u hu; simp at hu; rcases hu with rfl | rfl <;> rfl) | (intro u hu; simp at hu; obtain ⟨_, _, rfl⟩ := hu; rfl))))
        refine EL.assign rfl rfl rfl ?_
        refine .go ?_; repeat constructor
        exact PX.ret rfl Try.results98 (.cons (.blkA rfl rfl rfl (by repeat constructor) rfl) (.cons (.tmp rfl) .nil)) (fun w hs => ⟨(), rfl, hs.ent (.i (by repeat constructor))⟩)
  rw [if_neg (by omega)] at hesc
  refine .go ?_; repeat constructor
  refine EL.move rfl rfl rfl ?_
  refine EL.eqlI rfl rfl rfl rfl ?_
  refine EL.assign rfl rfl rfl ?_
  refine .go ?_; repeat constructor
  refine ES.condD rfl (fun h4 => ?_) (fun h4 => ?_)
  · rw [if_pos (by omega)] at hesc
    subst hesc
    refine .go ?_; repeat constructor
    refine EL.move rfl rfl rfl ?_
    refine EL.callP rfl rfl rfl ent100 rfl (bad_c a 9) ?_
    refine EL.move rfl rfl rfl ?_
    (apply EL.storeAll; exact rfl; exact rfl; exact rfl; exact rfl; exact rfl; (case p => repeat constructor); exact rfl; (case h1 => exact (by first | rfl | exact all1 rfl | (intro u hu; simp only [List.mem_cons, List.not_mem_nil, or_false] at hu; rcases hu with rfl | rfl | rfl | rfl <;> rfl) | (intro u hu; simp at hu; rcases hu with rfl | rfl | rfl | rfl <;> rfl) | (intro u hu; simp at hu; rcases hu with rfl | rfl | rfl <;> rfl) | (intro u hu; simp at hu; rcases hu with rfl | rfl <;> rfl) | (intro u hu; simp at hu; obtain ⟨_, _, rfl⟩ := hu; rfl))))
    refine EL.assign rfl rfl rfl ?_
    refine .go ?_; repeat constructor
    exact PX.ret rfl Try.results98 (.cons (.blkA rfl rfl rfl (by repeat constructor) rfl) (.cons (.tmp rfl) .nil)) (fun w hs => ⟨(), rfl, hs.ent (.i (by repeat constructor))⟩)
  rw [if_neg (by omega)] at hesc
  refine .go ?_; repeat constructor
  refine EL.move rfl rfl rfl ?_
  refine EL.eqlI rfl rfl rfl rfl ?_
  refine EL.assign rfl rfl rfl ?_
  refine .go ?_; repeat constructor
  refine ES.condD rfl (fun h5 => ?_) (fun h5 => ?_)
  · rw [if_pos (by omega)] at hesc
    subst hesc
    refine .go ?_; repeat constructor
    refine EL.move rfl rfl rfl ?_
    refine EL.callP rfl rfl rfl ent101 rfl (one_c a 10) ?_
    refine EL.move rfl rfl rfl ?_
    refine EL.addN (n := 2) rfl rfl rfl rfl rfl (by omega) ?_
    (apply EL.storeAll; exact rfl; exact rfl; exact rfl; exact rfl; exact rfl; (case p => repeat constructor); exact rfl; (case h1 => exact (by first | rfl | exact all1 rfl | (intro u hu; simp only [List.mem_cons, List.not_mem_nil, or_false] at hu; rcases hu with rfl | rfl | rfl | rfl <;> rfl) | (intro u hu; simp at hu; rcases hu with rfl | rfl | rfl | rfl <;> rfl) | (intro u hu; simp at hu; rcases hu with rfl | rfl | rfl <;> rfl) | (intro u hu; simp at hu; rcases hu with rfl | rfl <;> rfl) | (intro u hu; simp at hu; obtain ⟨_, _, rfl⟩ := hu; rfl))))
    refine EL.assign rfl rfl rfl ?_
    refine .go ?_; repeat constructor
    exact PX.ret rfl Try.results98 (.cons (.blkA rfl rfl rfl (by repeat constructor) rfl) (.cons (.tmp rfl) .nil)) (fun w hs => ⟨(), rfl, hs.ent (.i (by repeat constructor))⟩)
  rw [if_neg (by omega)] at hesc
  refine .go ?_; repeat constructor
  refine EL.cutX (X := Unit) (fun _ => [(0, Sv t), (1, Iv (a : Nat)), (6, Pv g6 0), (8, Uv b), (82, .bool (decide (49 ≤ b.toNat ∧ b.toNat ≤ 57)))]) (fun _ => [HA.blk g6 (.cells #[.int .i64 0, .int .i64 0, .int .u64 0, .int .u64 0, .int .u64 0, .int .u64 0, .int .i64 0, .int .i64 0, .int .i64 0] 148)]) ?_ (fun _ => ?_)
  · refine .go ?_; repeat constructor
    refine EL.move rfl rfl rfl ?_
    refine EL.geq rfl rfl rfl rfl ?_
    refine EL.move rfl rfl rfl ?_
    first | refine EL.splitD (d := 85) rfl (fun hp85 => ?_) (fun hp85 => ?_) | refine EL.splitN (d := 85) rfl (fun hp85 => ?_) (fun hp85 => ?_) | refine EL.splitB (d := 85) rfl (fun hp85 => ?_) (fun hp85 => ?_)
    · refine EL.move rfl rfl rfl ?_
      refine EL.leq rfl rfl rfl rfl ?_
      refine EL.pickT rfl rfl rfl rfl ?_
      refine EL.assign rfl rfl rfl ?_
      exact EL.endX () ⟨rfl, rfl, rfl, rfl, getA rfl (congrArg Value.bool (by rw [Bool.eq_iff_iff]; simp only [decide_eq_true_eq, true_iff, Bool.false_eq_true, false_iff]; omega)), trivial⟩ (.i (by repeat constructor))
    · refine EL.pass rfl rfl rfl ?_
      refine EL.pass rfl rfl rfl ?_
      refine EL.pickF rfl rfl rfl rfl ?_
      refine EL.assign rfl rfl rfl ?_
      exact EL.endX () ⟨rfl, rfl, rfl, rfl, getA rfl (congrArg Value.bool (by rw [Bool.eq_iff_iff]; simp only [decide_eq_true_eq, true_iff, Bool.false_eq_true, false_iff]; omega)), trivial⟩ (.i (by repeat constructor))
  refine ES.condD rfl (fun h6 => ?_) (fun h6 => ?_)
  · rw [if_pos h6] at hesc
    subst hesc
    refine .go ?_; repeat constructor
    refine EL.move rfl rfl rfl ?_
    refine EL.move rfl rfl rfl ?_
    refine EL.ofRV (RV.subK (n := 48) rfl rfl (by omega) (by simp only [kmax]; omega)) rfl rfl rfl (by intro c h; cases h) ?_
    refine EL.convN rfl rfl rfl rfl rfl rfl (by simp only [kmax]; omega) ?_
    refine EL.buildS (tokCells ⟨6, a, zeroS, ((b.toNat - 48 : Nat) : Int), 0, 0⟩) rfl rfl rfl rfl rfl rfl rfl ?_
    refine EL.move rfl rfl rfl ?_
    refine EL.addN (n := 2) rfl rfl rfl rfl rfl (by omega) ?_
    (apply EL.storeAll; exact rfl; exact rfl; exact rfl; exact rfl; exact rfl; (case p => repeat constructor); exact rfl; (case h1 => exact (by first | rfl | exact all1 rfl | (intro u hu; simp only [List.mem_cons, List.not_mem_nil, or_false] at hu; rcases hu with rfl | rfl | rfl | rfl <;> rfl) | (intro u hu; simp at hu; rcases hu with rfl | rfl | rfl | rfl <;> rfl) | (intro u hu; simp at hu; rcases hu with rfl | rfl | rfl <;> rfl) | (intro u hu; simp at hu; rcases hu with rfl | rfl <;> rfl) | (intro u hu; simp at hu; obtain ⟨_, _, rfl⟩ := hu; rfl))))
    refine EL.assign rfl rfl rfl ?_
    refine .go ?_; repeat constructor
    exact PX.ret rfl Try.results98 (.cons (.blkA rfl rfl rfl (by repeat constructor) rfl) (.cons (.tmp rfl) .nil)) (fun w hs => ⟨(), rfl, hs.ent (.i (by repeat constructor))⟩)
  rw [if_neg h6] at hesc
  refine .go ?_; repeat constructor
  refine EL.move rfl rfl rfl ?_
  refine EL.callP rfl rfl rfl ent108 rfl (alnum_c b) ?_
  refine EL.assign rfl rfl rfl ?_
  refine .go ?_; repeat constructor
  refine ES.cond rfl (fun h7 => ?_) (fun h7 => ?_)
  · rw [if_pos h7] at hesc
    subst hesc
    refine .go ?_; repeat constructor
    refine EL.move rfl rfl rfl ?_
    refine EL.callP rfl rfl rfl ent100 rfl (bad_c a 12) ?_
    refine EL.move rfl rfl rfl ?_
    (apply EL.storeAll; exact rfl; exact rfl; exact rfl; exact rfl; exact rfl; (case p => repeat constructor); exact rfl; (case h1 => exact (by first | rfl | exact all1 rfl | (intro u hu; simp only [List.mem_cons, List.not_mem_nil, or_false] at hu; rcases hu with rfl | rfl | rfl | rfl <;> rfl) | (intro u hu; simp at hu; rcases hu with rfl | rfl | rfl | rfl <;> rfl) | (intro u hu; simp at hu; rcases hu with rfl | rfl | rfl <;> rfl) | (intro u hu; simp at hu; rcases hu with rfl | rfl <;> rfl) | (intro u hu; simp at hu; obtain ⟨_, _, rfl⟩ := hu; rfl))))
    refine EL.assign rfl rfl rfl ?_
    refine .go ?_; repeat constructor
    exact PX.ret rfl Try.results98 (.cons (.blkA rfl rfl rfl (by repeat constructor) rfl) (.cons (.tmp rfl) .nil)) (fun w hs => ⟨(), rfl, hs.ent (.i (by repeat constructor))⟩)
  · rw [if_neg (by rw [h7]; decide)] at hesc
    subst hesc
    refine .go ?_; repeat constructor
    refine EL.move rfl rfl rfl ?_
    refine EL.move rfl rfl rfl ?_
    refine EL.callP rfl rfl rfl ent101 rfl (one_c a b) ?_
    refine EL.move rfl rfl rfl ?_
    refine EL.addN (n := 2) rfl rfl rfl rfl rfl (by omega) ?_
    (apply EL.storeAll; exact rfl; exact rfl; exact rfl; exact rfl; exact rfl; (case p => repeat constructor); exact rfl; (case h1 => exact (by first | rfl | exact all1 rfl | (intro u hu; simp only [List.mem_cons, List.not_mem_nil, or_false] at hu; rcases hu with rfl | rfl | rfl | rfl <;> rfl) | (intro u hu; simp at hu; rcases hu with rfl | rfl | rfl | rfl <;> rfl) | (intro u hu; simp at hu; rcases hu with rfl | rfl | rfl <;> rfl) | (intro u hu; simp at hu; rcases hu with rfl | rfl <;> rfl) | (intro u hu; simp at hu; obtain ⟨_, _, rfl⟩ := hu; rfl))))
    refine EL.assign rfl rfl rfl ?_
    refine .go ?_; repeat constructor
    exact PX.ret rfl Try.results98 (.cons (.blkA rfl rfl rfl (by repeat constructor) rfl) (.cons (.tmp rfl) .nil)) (fun w hs => ⟨(), rfl, hs.ent (.i (by repeat constructor))⟩)
theorem readTok_c (t : List UInt8) (a : Nat) (fi bg : Bool) (ha : a < t.length) (ht : t.length ≤ 1073741824) (w : World) (hG : GR w w.heap.size) :
    Pure Try.prog 76 #[Sv t, Iv (a : Nat), .bool fi, .bool bg] (fun _ : Unit => .tuple #[tokV (readT t a fi bg).1, Iv ((readT t a fi bg).2 : Nat)]) (fun _ => []) w := by
  have hrd : readT t a fi bg = (let b := t.getD a 0
    if b.toNat = 92 then escT t a bg
    else if b.toNat = 91 then (if (brackM t a).e ≠ 0 then (badT a (brackM t a).e, a) else (byteT a (brackM t a).set, (brackM t a).at_))
    else if b.toNat = 46 then (byteT a (notS zeroS), a + 1)
    else if b.toNat = 42 ∧ bg = false then (⟨5, a, zeroS, 0, -1, 0⟩, a + 1)
    else if b.toNat = 94 ∧ fi = true then (⟨1, a, zeroS, 0, 0, 0⟩, a + 1)
    else if b.toNat = 36 ∧ eolM t a = true then (⟨2, a, zeroS, 0, 0, 0⟩, a + 1)
    else (oneT a b, a + 1)) := rfl
  obtain ⟨b, hb⟩ : ∃ b, b = t.getD a 0 := ⟨_, rfl⟩
  have hb8 := b.toNat_lt
  rw [← hb] at hrd
  dsimp only at hrd
  generalize readT t a fi bg = r at hrd ⊢
  refine calls_of_ES TB Try.func76 rfl _ Try.ntmps76 rfl (Sat.start w) ?_
  refine .go ?_; repeat constructor
  (refine EL.alloc rfl rfl rfl ?_; intro g8)
  refine EL.assign rfl rfl rfl ?_
  refine .go ?_; repeat constructor
  refine .go ?_; repeat constructor
  refine EL.move rfl rfl rfl ?_
  refine EL.move rfl rfl rfl ?_
  refine EL.indexSN rfl rfl rfl rfl rfl rfl (by omega) ?_
  refine EL.rew (d := 16) (v' := Uv b) rfl (by rw [hb]) ?_
  refine EL.assign rfl rfl rfl ?_
  refine .go ?_; repeat constructor
  refine .go ?_; repeat constructor
  refine EL.move rfl rfl rfl ?_
  refine EL.eqlI rfl rfl rfl rfl ?_
  refine EL.assign rfl rfl rfl ?_
  refine .go ?_; repeat constructor
  refine ES.condD rfl (fun h1 => ?_) (fun h1 => ?_)
  · rw [if_pos (by omega)] at hrd
    subst hrd
    refine .go ?_; repeat constructor
    refine EL.move rfl rfl rfl ?_
    refine EL.move rfl rfl rfl ?_
    refine EL.move rfl rfl rfl ?_
    refine EL.callP rfl rfl rfl ent98 rfl (escaped_c t a bg ha ht) ?_
    refine EL.extract rfl rfl rfl rfl ?_
    refine EL.extract rfl rfl rfl rfl ?_
    (apply EL.storeAll; exact rfl; exact rfl; exact rfl; exact rfl; exact rfl; (case p => repeat constructor); exact rfl; (case h1 => exact (by first | rfl | exact all1 rfl | (intro u hu; simp only [List.mem_cons, List.not_mem_nil, or_false] at hu; rcases hu with rfl | rfl | rfl | rfl <;> rfl) | (intro u hu; simp at hu; rcases hu with rfl | rfl | rfl | rfl <;> rfl) | (intro u hu; simp at hu; rcases hu with rfl | rfl | rfl <;> rfl) | (intro u hu; simp at hu; rcases hu with rfl | rfl <;> rfl) | (intro u hu; simp at hu; obtain ⟨_, _, rfl⟩ := hu; rfl))))
    refine EL.assign rfl rfl rfl ?_
    refine .go ?_; repeat constructor
    exact PX.ret rfl Try.results76 (.cons (.blkA rfl rfl rfl (by repeat constructor) rfl) (.cons (.tmp rfl) .nil)) (fun w hs => ⟨(), rfl, hs.ent (.i (by repeat constructor))⟩)
  rw [if_neg (by omega)] at hrd
  refine .go ?_; repeat constructor
  refine EL.move rfl rfl rfl ?_
  refine EL.eqlI rfl rfl rfl rfl ?_
  refine EL.assign rfl rfl rfl ?_
  refine .go ?_; repeat constructor
  refine ES.condD rfl (fun h2 => ?_) (fun h2 => ?_)
  · rw [if_pos (by omega)] at hrd
    have hbp := brParse_c t a ht (by omega)
    generalize brackM t a = q at hrd hbp
    obtain ⟨⟨s0, s1, s2, s3⟩, qa, qe⟩ := q
    dsimp only at hrd hbp
    refine .go ?_; repeat constructor
    refine EL.move rfl rfl rfl ?_
    refine EL.move rfl rfl rfl ?_
    refine EL.callPw rfl rfl rfl ent99 rfl (fun w hs => hbp w (GR.sat hG hs)) ?_
    refine EL.move rfl rfl rfl ?_
    refine EL.extract rfl rfl rfl rfl ?_
    refine EL.extract rfl rfl rfl rfl ?_
    refine EL.extract rfl rfl rfl rfl ?_
    (refine EL.alloc rfl rfl rfl ?_; intro g11)
    (apply EL.storeAll; exact rfl; exact rfl; exact rfl; exact rfl; exact rfl; (case p => repeat constructor); exact rfl; (case h1 => exact (by first | rfl | exact all1 rfl | (intro u hu; simp only [List.mem_cons, List.not_mem_nil, or_false] at hu; rcases hu with rfl | rfl | rfl | rfl <;> rfl) | (intro u hu; simp at hu; rcases hu with rfl | rfl | rfl | rfl <;> rfl) | (intro u hu; simp at hu; rcases hu with rfl | rfl | rfl <;> rfl) | (intro u hu; simp at hu; rcases hu with rfl | rfl <;> rfl) | (intro u hu; simp at hu; obtain ⟨_, _, rfl⟩ := hu; rfl))))
    refine EL.assign rfl rfl rfl ?_
    refine EL.assign rfl rfl rfl ?_
    refine .go ?_; repeat constructor
    refine EL.move rfl rfl rfl ?_
    refine EL.neqI rfl rfl rfl rfl ?_
    refine .go ?_; repeat constructor
    refine ES.condN rfl (fun h3 => ?_) (fun h3 => ?_)
    · rw [if_pos h3] at hrd
      subst hrd
      refine .go ?_; repeat constructor
      refine EL.move rfl rfl rfl ?_
      refine EL.move rfl rfl rfl ?_
      refine EL.callP rfl rfl rfl ent100 rfl (bad_c a qe) ?_
      refine EL.move rfl rfl rfl ?_
      (apply EL.storeAll; exact rfl; exact rfl; exact rfl; exact rfl; exact rfl; (case p => repeat constructor); exact rfl; (case h1 => exact (by first | rfl | exact all1 rfl | (intro u hu; simp only [List.mem_cons, List.not_mem_nil, or_false] at hu; rcases hu with rfl | rfl | rfl | rfl <;> rfl) | (intro u hu; simp at hu; rcases hu with rfl | rfl | rfl | rfl <;> rfl) | (intro u hu; simp at hu; rcases hu with rfl | rfl | rfl <;> rfl) | (intro u hu; simp at hu; rcases hu with rfl | rfl <;> rfl) | (intro u hu; simp at hu; obtain ⟨_, _, rfl⟩ := hu; rfl))))
      refine EL.assign rfl rfl rfl ?_
      refine .go ?_; repeat constructor
      exact PX.ret rfl Try.results76 (.cons (.blkA rfl rfl rfl (by repeat constructor) rfl) (.cons (.tmp rfl) .nil)) (fun w hs => ⟨(), rfl, hs.ent (.i (by repeat constructor))⟩)
    · rw [if_neg (by simpa using h3)] at hrd
      subst hrd
      refine .go ?_; repeat constructor
      refine EL.move rfl rfl rfl ?_
      (apply EL.loadAggB; exact rfl; exact rfl; exact rfl; exact rfl; exact rfl; (case hm => repeat constructor); exact rfl)
      refine EL.buildS (tokCells (byteT a ⟨s0, s1, s2, s3⟩)) rfl rfl rfl rfl rfl rfl rfl ?_
      refine EL.move rfl rfl rfl ?_
      (apply EL.storeAll; exact rfl; exact rfl; exact rfl; exact rfl; exact rfl; (case p => repeat constructor); exact rfl; (case h1 => exact (by first | rfl | exact all1 rfl | (intro u hu; simp only [List.mem_cons, List.not_mem_nil, or_false] at hu; rcases hu with rfl | rfl | rfl | rfl <;> rfl) | (intro u hu; simp at hu; rcases hu with rfl | rfl | rfl | rfl <;> rfl) | (intro u hu; simp at hu; rcases hu with rfl | rfl | rfl <;> rfl) | (intro u hu; simp at hu; rcases hu with rfl | rfl <;> rfl) | (intro u hu; simp at hu; obtain ⟨_, _, rfl⟩ := hu; rfl))))
      refine EL.assign rfl rfl rfl ?_
      refine .go ?_; repeat constructor
      exact PX.ret rfl Try.results76 (.cons (.blkA rfl rfl rfl (by repeat constructor) rfl) (.cons (.tmp rfl) .nil)) (fun w hs => ⟨(), rfl, hs.ent (.i (by repeat constructor))⟩)
  rw [if_neg (by omega)] at hrd
  refine .go ?_; repeat constructor
  refine EL.move rfl rfl rfl ?_
  refine EL.eqlI rfl rfl rfl rfl ?_
  refine EL.assign rfl rfl rfl ?_
  refine .go ?_; repeat constructor
  refine ES.condD rfl (fun h3 => ?_) (fun h3 => ?_)
  · rw [if_pos (by omega)] at hrd
    subst hrd
    refine .go ?_; repeat constructor
    refine EL.move rfl rfl rfl ?_
    refine EL.buildZA rfl rfl rfl rfl rfl ?_
    refine EL.callP rfl rfl rfl ent90 rfl (not_c zeroS) ?_
    refine EL.buildS (tokCells (byteT a (notS zeroS))) rfl rfl rfl rfl rfl rfl rfl ?_
    refine EL.move rfl rfl rfl ?_
    refine EL.add1 rfl rfl rfl rfl (by omega) ?_
    (apply EL.storeAll; exact rfl; exact rfl; exact rfl; exact rfl; exact rfl; (case p => repeat constructor); exact rfl; (case h1 => exact (by first | rfl | exact all1 rfl | (intro u hu; simp only [List.mem_cons, List.not_mem_nil, or_false] at hu; rcases hu with rfl | rfl | rfl | rfl <;> rfl) | (intro u hu; simp at hu; rcases hu with rfl | rfl | rfl | rfl <;> rfl) | (intro u hu; simp at hu; rcases hu with rfl | rfl | rfl <;> rfl) | (intro u hu; simp at hu; rcases hu with rfl | rfl <;> rfl) | (intro u hu; simp at hu; obtain ⟨_, _, rfl⟩ := hu; rfl))))
    refine EL.assign rfl rfl rfl ?_
    refine .go ?_; repeat constructor
    exact PX.ret rfl Try.results76 (.cons (.blkA rfl rfl rfl (by repeat constructor) rfl) (.cons (.tmp rfl) .nil)) (fun w hs => ⟨(), rfl, hs.ent (.i (by repeat constructor))⟩)
  rw [if_neg (by omega)] at hrd
  refine .go ?_; repeat constructor
  refine EL.cutX (X := Unit) (fun _ => [(0, Sv t), (1, Iv (a : Nat)), (2, .bool fi), (8, Pv g8 0), (10, Uv b), (60, .bool (decide ((b.toNat : Int) = 42) && !bg))]) (fun _ => [HA.blk g8 (.cells #[.int .i64 0, .int .i64 0, .int .u64 0, .int .u64 0, .int .u64 0, .int .u64 0, .int .i64 0, .int .i64 0, .int .i64 0] 148)]) ?_ (fun _ => ?_)
  · refine .go ?_; repeat constructor
    refine EL.move rfl rfl rfl ?_
    refine EL.eqlI rfl rfl rfl rfl ?_
    refine EL.move rfl rfl rfl ?_
    first | refine EL.splitD (d := 63) rfl (fun hp63 => ?_) (fun hp63 => ?_) | refine EL.splitN (d := 63) rfl (fun hp63 => ?_) (fun hp63 => ?_) | refine EL.splitB (d := 63) rfl (fun hp63 => ?_) (fun hp63 => ?_)
    · refine EL.move rfl rfl rfl ?_
      refine EL.not rfl rfl rfl ?_
      refine EL.pickT rfl rfl rfl rfl ?_
      refine EL.assign rfl rfl rfl ?_
      exact EL.endX () ⟨rfl, rfl, rfl, rfl, rfl, getA rfl (congrArg Value.bool (by simp_all)), trivial⟩ (.i (by repeat constructor))
    · refine EL.pass rfl rfl rfl ?_
      refine EL.pass rfl rfl rfl ?_
      refine EL.pickF rfl rfl rfl rfl ?_
      refine EL.assign rfl rfl rfl ?_
      exact EL.endX () ⟨rfl, rfl, rfl, rfl, rfl, getA rfl (congrArg Value.bool (by simp_all)), trivial⟩ (.i (by repeat constructor))
  refine ES.cond rfl (fun h4 => ?_) (fun h4 => ?_)
  · rw [Bool.and_eq_true, decide_eq_true_eq] at h4
    rw [if_pos ⟨by omega, by simpa using h4.2⟩] at hrd
    subst hrd
    refine .go ?_; repeat constructor
    refine EL.move rfl rfl rfl ?_
    refine EL.buildS (tokCells ⟨5, a, zeroS, 0, -1, 0⟩) rfl rfl rfl rfl rfl rfl rfl ?_
    refine EL.move rfl rfl rfl ?_
    refine EL.add1 rfl rfl rfl rfl (by omega) ?_
    (apply EL.storeAll; exact rfl; exact rfl; exact rfl; exact rfl; exact rfl; (case p => repeat constructor); exact rfl; (case h1 => exact (by first | rfl | exact all1 rfl | (intro u hu; simp only [List.mem_cons, List.not_mem_nil, or_false] at hu; rcases hu with rfl | rfl | rfl | rfl <;> rfl) | (intro u hu; simp at hu; rcases hu with rfl | rfl | rfl | rfl <;> rfl) | (intro u hu; simp at hu; rcases hu with rfl | rfl | rfl <;> rfl) | (intro u hu; simp at hu; rcases hu with rfl | rfl <;> rfl) | (intro u hu; simp at hu; obtain ⟨_, _, rfl⟩ := hu; rfl))))
    refine EL.assign rfl rfl rfl ?_
    refine .go ?_; repeat constructor
    exact PX.ret rfl Try.results76 (.cons (.blkA rfl rfl rfl (by repeat constructor) rfl) (.cons (.tmp rfl) .nil)) (fun w hs => ⟨(), rfl, hs.ent (.i (by repeat constructor))⟩)
  rw [if_neg (by rintro ⟨h5, h6⟩; rw [decide_eq_true (by omega), h6] at h4; cases h4)] at hrd
  refine .go ?_; repeat constructor
  refine EL.cutX (X := Unit) (fun _ => [(0, Sv t), (1, Iv (a : Nat)), (8, Pv g8 0), (10, Uv b), (71, .bool (decide ((b.toNat : Int) = 94) && fi))]) (fun _ => [HA.blk g8 (.cells #[.int .i64 0, .int .i64 0, .int .u64 0, .int .u64 0, .int .u64 0, .int .u64 0, .int .i64 0, .int .i64 0, .int .i64 0] 148)]) ?_ (fun _ => ?_)
  · refine .go ?_; repeat constructor
    refine EL.move rfl rfl rfl ?_
    refine EL.eqlI rfl rfl rfl rfl ?_
    refine EL.move rfl rfl rfl ?_
    first | refine EL.splitD (d := 74) rfl (fun hp74 => ?_) (fun hp74 => ?_) | refine EL.splitN (d := 74) rfl (fun hp74 => ?_) (fun hp74 => ?_) | refine EL.splitB (d := 74) rfl (fun hp74 => ?_) (fun hp74 => ?_)
    · refine EL.move rfl rfl rfl ?_
      refine EL.pickT rfl rfl rfl rfl ?_
      refine EL.assign rfl rfl rfl ?_
      exact EL.endX () ⟨rfl, rfl, rfl, rfl, getA rfl (congrArg Value.bool (by simp_all)), trivial⟩ (.i (by repeat constructor))
    · refine EL.pass rfl rfl rfl ?_
      refine EL.pickF rfl rfl rfl rfl ?_
      refine EL.assign rfl rfl rfl ?_
      exact EL.endX () ⟨rfl, rfl, rfl, rfl, getA rfl (congrArg Value.bool (by simp_all)), trivial⟩ (.i (by repeat constructor))
  refine ES.cond rfl (fun h5 => ?_) (fun h5 => ?_)
  · rw [Bool.and_eq_true, decide_eq_true_eq] at h5
    rw [if_pos ⟨by omega, h5.2⟩] at hrd
    subst hrd
    refine .go ?_; repeat constructor
    refine EL.move rfl rfl rfl ?_
    refine EL.buildS (tokCells ⟨1, a, zeroS, 0, 0, 0⟩) rfl rfl rfl rfl rfl rfl rfl ?_
    refine EL.move rfl rfl rfl ?_
    refine EL.add1 rfl rfl rfl rfl (by omega) ?_
    (apply EL.storeAll; exact rfl; exact rfl; exact rfl; exact rfl; exact rfl; (case p => repeat constructor); exact rfl; (case h1 => exact (by first | rfl | exact all1 rfl | (intro u hu; simp only [List.mem_cons, List.not_mem_nil, or_false] at hu; rcases hu with rfl | rfl | rfl | rfl <;> rfl) | (intro u hu; simp at hu; rcases hu with rfl | rfl | rfl | rfl <;> rfl) | (intro u hu; simp at hu; rcases hu with rfl | rfl | rfl <;> rfl) | (intro u hu; simp at hu; rcases hu with rfl | rfl <;> rfl) | (intro u hu; simp at hu; obtain ⟨_, _, rfl⟩ := hu; rfl))))
    refine EL.assign rfl rfl rfl ?_
    refine .go ?_; repeat constructor
    exact PX.ret rfl Try.results76 (.cons (.blkA rfl rfl rfl (by repeat constructor) rfl) (.cons (.tmp rfl) .nil)) (fun w hs => ⟨(), rfl, hs.ent (.i (by repeat constructor))⟩)
  rw [if_neg (by rintro ⟨h6, h7⟩; rw [decide_eq_true (by omega), h7] at h5; cases h5)] at hrd
  refine .go ?_; repeat constructor
  refine EL.cutX (X := Unit) (fun _ => [(0, Sv t), (1, Iv (a : Nat)), (8, Pv g8 0), (10, Uv b), (81, .bool (decide ((b.toNat : Int) = 36) && eolM t a))]) (fun _ => [HA.blk g8 (.cells #[.int .i64 0, .int .i64 0, .int .u64 0, .int .u64 0, .int .u64 0, .int .u64 0, .int .i64 0, .int .i64 0, .int .i64 0] 148)]) ?_ (fun _ => ?_)
  · refine .go ?_; repeat constructor
    refine EL.move rfl rfl rfl ?_
    refine EL.eqlI rfl rfl rfl rfl ?_
    refine EL.move rfl rfl rfl ?_
    first | refine EL.splitD (d := 84) rfl (fun hp84 => ?_) (fun hp84 => ?_) | refine EL.splitN (d := 84) rfl (fun hp84 => ?_) (fun hp84 => ?_) | refine EL.splitB (d := 84) rfl (fun hp84 => ?_) (fun hp84 => ?_)
    · refine EL.move rfl rfl rfl ?_
      refine EL.add1 rfl rfl rfl rfl (by omega) ?_
      refine EL.move rfl rfl rfl ?_
      refine EL.lenS rfl rfl rfl rfl rfl ?_
      refine EL.eqlI rfl rfl rfl rfl ?_
      refine EL.move rfl rfl rfl ?_
      first | refine EL.splitD (d := 90) rfl (fun hp90 => ?_) (fun hp90 => ?_) | refine EL.splitN (d := 90) rfl (fun hp90 => ?_) (fun hp90 => ?_) | refine EL.splitB (d := 90) rfl (fun hp90 => ?_) (fun hp90 => ?_)
      · refine EL.pass rfl rfl rfl ?_
        refine EL.pass rfl rfl rfl ?_
        refine EL.pass rfl rfl rfl ?_
        refine EL.pass rfl rfl rfl ?_
        refine EL.pass rfl rfl rfl ?_
        refine EL.pass rfl rfl rfl ?_
        refine EL.pass rfl rfl rfl ?_
        refine EL.pass rfl rfl rfl ?_
        refine EL.pass rfl rfl rfl ?_
        refine EL.pass rfl rfl rfl ?_
        refine EL.pass rfl rfl rfl ?_
        refine EL.pass rfl rfl rfl ?_
        refine EL.pass rfl rfl rfl ?_
        refine EL.pass rfl rfl rfl ?_
        refine EL.pickT rfl rfl rfl rfl ?_
        refine EL.pickT rfl rfl rfl rfl ?_
        refine EL.assign rfl rfl rfl ?_
        exact EL.endX () ⟨rfl, rfl, rfl, rfl, getA rfl (congrArg Value.bool (by unfold eolM; rw [Bool.eq_iff_iff]; simp only [decide_eq_true_eq, Bool.and_eq_true, Bool.or_eq_true, true_iff, Bool.false_eq_true, false_iff]; first | omega | exact ⟨by omega, .inl (by omega)⟩ | (rw [show a + 3 - (a + 1) = 2 by omega]; exact ⟨fun h => ⟨by omega, .inr ⟨by omega, h⟩⟩, fun h => h.2.elim (fun h => absurd h (by omega)) (fun h => h.2)⟩) | exact fun h => h.2.elim (fun h => absurd h (by omega)) (fun h => absurd h.1 (by omega)))), trivial⟩ (.i (by repeat constructor))
      · refine EL.move rfl rfl rfl ?_
        refine EL.addN (n := 2) rfl rfl rfl rfl rfl (by omega) ?_
        refine EL.move rfl rfl rfl ?_
        refine EL.lenS rfl rfl rfl rfl rfl ?_
        refine EL.lss rfl rfl rfl rfl ?_
        refine EL.move rfl rfl rfl ?_
        first | refine EL.splitD (d := 96) rfl (fun hp96 => ?_) (fun hp96 => ?_) | refine EL.splitN (d := 96) rfl (fun hp96 => ?_) (fun hp96 => ?_) | refine EL.splitB (d := 96) rfl (fun hp96 => ?_) (fun hp96 => ?_)
        · refine EL.move rfl rfl rfl ?_
          refine EL.move rfl rfl rfl ?_
          refine EL.add1 rfl rfl rfl rfl (by omega) ?_
          refine EL.move rfl rfl rfl ?_
          refine EL.addN (n := 3) rfl rfl rfl rfl rfl (by omega) ?_
          refine EL.sliceS rfl rfl rfl rfl rfl ⟨_, rfl⟩ ⟨_, rfl⟩ (by omega) (by omega) ?_
          refine EL.eqlS rfl rfl rfl rfl ?_
          refine EL.pickT rfl rfl rfl rfl ?_
          refine EL.pickF rfl rfl rfl rfl ?_
          refine EL.pickT rfl rfl rfl rfl ?_
          refine EL.assign rfl rfl rfl ?_
          exact EL.endX () ⟨rfl, rfl, rfl, rfl, getA rfl (congrArg Value.bool (by unfold eolM; rw [Bool.eq_iff_iff]; simp only [decide_eq_true_eq, Bool.and_eq_true, Bool.or_eq_true, true_iff, Bool.false_eq_true, false_iff]; first | omega | exact ⟨by omega, .inl (by omega)⟩ | (rw [show a + 3 - (a + 1) = 2 by omega]; exact ⟨fun h => ⟨by omega, .inr ⟨by omega, h⟩⟩, fun h => h.2.elim (fun h => absurd h (by omega)) (fun h => h.2)⟩) | exact fun h => h.2.elim (fun h => absurd h (by omega)) (fun h => absurd h.1 (by omega)))), trivial⟩ (.i (by repeat constructor))
        · refine EL.pass rfl rfl rfl ?_
          refine EL.pass rfl rfl rfl ?_
          refine EL.pass rfl rfl rfl ?_
          refine EL.pass rfl rfl rfl ?_
          refine EL.pass rfl rfl rfl ?_
          refine EL.pass rfl rfl rfl ?_
          refine EL.pass rfl rfl rfl ?_
          refine EL.pickF rfl rfl rfl rfl ?_
          refine EL.pickF rfl rfl rfl rfl ?_
          refine EL.pickT rfl rfl rfl rfl ?_
          refine EL.assign rfl rfl rfl ?_
          exact EL.endX () ⟨rfl, rfl, rfl, rfl, getA rfl (congrArg Value.bool (by unfold eolM; rw [Bool.eq_iff_iff]; simp only [decide_eq_true_eq, Bool.and_eq_true, Bool.or_eq_true, true_iff, Bool.false_eq_true, false_iff]; first | omega | exact ⟨by omega, .inl (by omega)⟩ | (rw [show a + 3 - (a + 1) = 2 by omega]; exact ⟨fun h => ⟨by omega, .inr ⟨by omega, h⟩⟩, fun h => h.2.elim (fun h => absurd h (by omega)) (fun h => h.2)⟩) | exact fun h => h.2.elim (fun h => absurd h (by omega)) (fun h => absurd h.1 (by omega)))), trivial⟩ (.i (by repeat constructor))
    · refine EL.pass rfl rfl rfl ?_
      refine EL.pass rfl rfl rfl ?_
      refine EL.pass rfl rfl rfl ?_
      refine EL.pass rfl rfl rfl ?_
      refine EL.pass rfl rfl rfl ?_
      refine EL.pass rfl rfl rfl ?_
      refine EL.pass rfl rfl rfl ?_
      refine EL.pass rfl rfl rfl ?_
      refine EL.pass rfl rfl rfl ?_
      refine EL.pass rfl rfl rfl ?_
      refine EL.pass rfl rfl rfl ?_
      refine EL.pass rfl rfl rfl ?_
      refine EL.pass rfl rfl rfl ?_
      refine EL.pass rfl rfl rfl ?_
      refine EL.pass rfl rfl rfl ?_
      refine EL.pass rfl rfl rfl ?_
      refine EL.pass rfl rfl rfl ?_
      refine EL.pass rfl rfl rfl ?_
      refine EL.pass rfl rfl rfl ?_
      refine EL.pass rfl rfl rfl ?_
      refine EL.pass rfl rfl rfl ?_
      refine EL.pickF rfl rfl rfl rfl ?_
      refine EL.assign rfl rfl rfl ?_
      exact EL.endX () ⟨rfl, rfl, rfl, rfl, getA rfl (congrArg Value.bool (by unfold eolM; rw [Bool.eq_iff_iff]; simp only [decide_eq_true_eq, Bool.and_eq_true, Bool.or_eq_true, true_iff, Bool.false_eq_true, false_iff]; first | omega | exact ⟨by omega, .inl (by omega)⟩ | (rw [show a + 3 - (a + 1) = 2 by omega]; exact ⟨fun h => ⟨by omega, .inr ⟨by omega, h⟩⟩, fun h => h.2.elim (fun h => absurd h (by omega)) (fun h => h.2)⟩) | exact fun h => h.2.elim (fun h => absurd h (by omega)) (fun h => absurd h.1 (by omega)))), trivial⟩ (.i (by repeat constructor))
  refine ES.cond rfl (fun h6 => ?_) (fun h6 => ?_)
  · rw [Bool.and_eq_true, decide_eq_true_eq] at h6
    rw [if_pos ⟨by omega, h6.2⟩] at hrd
    subst hrd
    refine .go ?_; repeat constructor
    refine EL.move rfl rfl rfl ?_
    refine EL.buildS (tokCells ⟨2, a, zeroS, 0, 0, 0⟩) rfl rfl rfl rfl rfl rfl rfl ?_
    refine EL.move rfl rfl rfl ?_
    refine EL.add1 rfl rfl rfl rfl (by omega) ?_
    (apply EL.storeAll; exact rfl; exact rfl; exact rfl; exact rfl; exact rfl; (case p => repeat constructor); exact rfl; (case h1 => exact (by first | rfl | exact all1 rfl | (intro u hu; simp only [List.mem_cons, List.not_mem_nil, or_false] at hu; rcases hu with rfl | rfl | rfl | rfl <;> rfl) | (intro u hu; simp at hu; rcases hu with rfl | rfl | rfl | rfl <;> rfl) | (intro u hu; simp at hu; rcases hu with rfl | rfl | rfl <;> rfl) | (intro u hu; simp at hu; rcases hu with rfl | rfl <;> rfl) | (intro u hu; simp at hu; obtain ⟨_, _, rfl⟩ := hu; rfl))))
    refine EL.assign rfl rfl rfl ?_
    refine .go ?_; repeat constructor
    exact PX.ret rfl Try.results76 (.cons (.blkA rfl rfl rfl (by repeat constructor) rfl) (.cons (.tmp rfl) .nil)) (fun w hs => ⟨(), rfl, hs.ent (.i (by repeat constructor))⟩)
  · rw [if_neg (by rintro ⟨h7, h8⟩; rw [decide_eq_true (by omega), h8] at h6; cases h6)] at hrd
    subst hrd
    refine .go ?_; repeat constructor
    refine EL.move rfl rfl rfl ?_
    refine EL.move rfl rfl rfl ?_
    refine EL.callP rfl rfl rfl ent101 rfl (one_c a b) ?_
    refine EL.move rfl rfl rfl ?_
    refine EL.add1 rfl rfl rfl rfl (by omega) ?_
    (apply EL.storeAll; exact rfl; exact rfl; exact rfl; exact rfl; exact rfl; (case p => repeat constructor); exact rfl; (case h1 => exact (by first | rfl | exact all1 rfl | (intro u hu; simp only [List.mem_cons, List.not_mem_nil, or_false] at hu; rcases hu with rfl | rfl | rfl | rfl <;> rfl) | (intro u hu; simp at hu; rcases hu with rfl | rfl | rfl | rfl <;> rfl) | (intro u hu; simp at hu; rcases hu with rfl | rfl | rfl <;> rfl) | (intro u hu; simp at hu; rcases hu with rfl | rfl <;> rfl) | (intro u hu; simp at hu; obtain ⟨_, _, rfl⟩ := hu; rfl))))
    refine EL.assign rfl rfl rfl ?_
    refine .go ?_; repeat constructor
    exact PX.ret rfl Try.results76 (.cons (.blkA rfl rfl rfl (by repeat constructor) rfl) (.cons (.tmp rfl) .nil)) (fun w hs => ⟨(), rfl, hs.ent (.i (by repeat constructor))⟩)
end Go.Proofs.Ytblpgpgbnlhjlaa
