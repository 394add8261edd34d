/- Texts of this claim, bundled. -/
import Derived.Test.YtblpgpgbnlhjlaaZs2
namespace Go.Proofs.Ytblpgpgbnlhjlaa
open Go Go.RowKit Sl
set_option maxRecDepth 100000
set_option maxHeartbeats 8000000
set_option linter.unusedVariables false
set_option linter.unusedSimpArgs false
attribute [local irreducible] ES EL PX wps
def dashM (t : List UInt8) (a : Nat) : Bool := (decide ((a : Int) < (t.length : Int)) && decide (((t.getD a 0).toNat : Int) = 45)) && (decide ((t.length : Int) ≤ ((a + 1 : Nat) : Int)) || !decide (((t.getD (a + 1) 0).toNat : Int) = 93))
theorem dash_lt {t : List UInt8} {a : Nat} (h : dashM t a = true) : a < t.length := by
  unfold dashM at h
  simp only [Bool.and_eq_true, decide_eq_true_eq] at h
  omega
theorem dash_c (g : Nat) (t : List UInt8) (a : Nat) (e : Int) (ht : t.length ≤ 1073741824) (ha : a ≤ t.length) (w0 : World) (B : Nat) :
    MutAt Try.prog 115 #[Pv g 0] [RD g t a e] (fun _ : Unit => .bool (dashM t a)) (fun _ => [RD g t a e]) w0 B := by
  intro R w h
  replace h : Sat w0 B (RD g t a e :: R) w := h
  refine calls_of_ES TB Try.func115 rfl _ Try.ntmps115 rfl h ?_
  refine .go ?_; repeat constructor
  refine EL.assign rfl rfl rfl ?_
  refine .go ?_; repeat constructor
  refine ES.draw (X := Unit) (fun _ => [(2, .bool (dashM t a))]) (fun _ => RD g t a e :: R) (RD g t a e :: R) mixed (.i (by repeat constructor)) ?_ (fun _ => ?_)
  · refine ED.take 0 rfl (by decide +kernel) CutX.no_panic (by decide +kernel) rfl rfl rfl (RV.move rfl) ?_
    refine ED.take 1 rfl (by decide +kernel) CutX.no_panic (by decide +kernel) rfl rfl rfl (RV.nilCheck rfl) ?_
    refine ED.take 2 rfl (by decide +kernel) CutX.no_panic (by decide +kernel) rfl rfl rfl (RV.fieldAddr rfl rfl rfl rfl rfl rfl) ?_
    refine ED.take 3 rfl (by decide +kernel) CutX.no_panic (by decide +kernel) rfl rfl rfl (RV.loadB rfl rfl rfl (by repeat constructor) rfl) ?_
    refine ED.take 4 rfl (by decide +kernel) CutX.no_panic (by decide +kernel) rfl rfl rfl (RV.move rfl) ?_
    refine ED.take 5 rfl (by decide +kernel) CutX.no_panic (by decide +kernel) rfl rfl rfl (RV.nilCheck rfl) ?_
    refine ED.take 6 rfl (by decide +kernel) CutX.no_panic (by decide +kernel) rfl rfl rfl (RV.fieldAddr rfl rfl rfl rfl rfl rfl) ?_
    refine ED.take 7 rfl (by decide +kernel) CutX.no_panic (by decide +kernel) rfl rfl rfl (RV.loadB rfl rfl rfl (by repeat constructor) rfl) ?_
    refine ED.take 8 rfl (by decide +kernel) CutX.no_panic (by decide +kernel) rfl rfl rfl (RV.lenS rfl rfl rfl) ?_
    refine ED.take 9 rfl (by decide +kernel) CutX.no_panic (by decide +kernel) rfl rfl rfl (RV.lss rfl rfl) ?_
    refine ED.take 10 rfl (by decide +kernel) CutX.no_panic (by decide +kernel) rfl rfl rfl (RV.move rfl) ?_
    first | refine ED.part (d := 13) rfl (fun hp13 => ?_) (fun hp13 => ?_) | refine ED.partN (d := 13) rfl (fun hp13 => ?_) (fun hp13 => ?_) | refine ED.partB (d := 13) rfl (fun hp13 => ?_) (fun hp13 => ?_)
    · refine ED.take 11 rfl (by decide +kernel) CutX.no_panic (by decide +kernel) rfl rfl rfl (RV.move rfl) ?_
      refine ED.take 12 rfl (by decide +kernel) CutX.no_panic (by decide +kernel) rfl rfl rfl (RV.nilCheck rfl) ?_
      refine ED.take 13 rfl (by decide +kernel) CutX.no_panic (by decide +kernel) rfl rfl rfl (RV.fieldAddr rfl rfl rfl rfl rfl rfl) ?_
      refine ED.take 14 rfl (by decide +kernel) CutX.no_panic (by decide +kernel) rfl rfl rfl (RV.loadB rfl rfl rfl (by repeat constructor) rfl) ?_
      refine ED.take 15 rfl (by decide +kernel) CutX.no_panic (by decide +kernel) rfl rfl rfl (RV.move rfl) ?_
      refine ED.take 16 rfl (by decide +kernel) CutX.no_panic (by decide +kernel) rfl rfl rfl (RV.nilCheck rfl) ?_
      refine ED.take 17 rfl (by decide +kernel) CutX.no_panic (by decide +kernel) rfl rfl rfl (RV.fieldAddr rfl rfl rfl rfl rfl rfl) ?_
      refine ED.take 18 rfl (by decide +kernel) CutX.no_panic (by decide +kernel) rfl rfl rfl (RV.loadB rfl rfl rfl (by repeat constructor) rfl) ?_
      refine ED.take 19 rfl (by decide +kernel) CutX.no_panic (by decide +kernel) rfl rfl rfl (RV.indexSN rfl rfl rfl rfl (by omega)) ?_
      refine ED.take 20 rfl (by decide +kernel) CutX.no_panic (by decide +kernel) rfl rfl rfl (RV.eqlI rfl rfl) ?_
      refine ED.take 21 rfl (by decide +kernel) CutX.no_panic (by decide +kernel) rfl rfl rfl (RV.pickT rfl rfl) ?_
      refine ED.take 22 rfl (by decide +kernel) CutX.no_panic (by decide +kernel) rfl rfl rfl (RV.move rfl) ?_
      first | refine ED.part (d := 25) rfl (fun hp25 => ?_) (fun hp25 => ?_) | refine ED.partN (d := 25) rfl (fun hp25 => ?_) (fun hp25 => ?_) | refine ED.partB (d := 25) rfl (fun hp25 => ?_) (fun hp25 => ?_)
      · refine ED.take 23 rfl (by decide +kernel) CutX.no_panic (by decide +kernel) rfl rfl rfl (RV.move rfl) ?_
        refine ED.take 24 rfl (by decide +kernel) CutX.no_panic (by decide +kernel) rfl rfl rfl (RV.nilCheck rfl) ?_
        refine ED.take 25 rfl (by decide +kernel) CutX.no_panic (by decide +kernel) rfl rfl rfl (RV.fieldAddr rfl rfl rfl rfl rfl rfl) ?_
        refine ED.take 26 rfl (by decide +kernel) CutX.no_panic (by decide +kernel) rfl rfl rfl (RV.loadB rfl rfl rfl (by repeat constructor) rfl) ?_
        refine ED.take 27 rfl (by decide +kernel) CutX.no_panic (by decide +kernel) rfl rfl rfl (RV.add1 rfl rfl (by omega)) ?_
        refine ED.take 28 rfl (by decide +kernel) CutX.no_panic (by decide +kernel) rfl rfl rfl (RV.move rfl) ?_
        refine ED.take 29 rfl (by decide +kernel) CutX.no_panic (by decide +kernel) rfl rfl rfl (RV.nilCheck rfl) ?_
        refine ED.take 30 rfl (by decide +kernel) CutX.no_panic (by decide +kernel) rfl rfl rfl (RV.fieldAddr rfl rfl rfl rfl rfl rfl) ?_
        refine ED.take 31 rfl (by decide +kernel) CutX.no_panic (by decide +kernel) rfl rfl rfl (RV.loadB rfl rfl rfl (by repeat constructor) rfl) ?_
        refine ED.take 32 rfl (by decide +kernel) CutX.no_panic (by decide +kernel) rfl rfl rfl (RV.lenS rfl rfl rfl) ?_
        refine ED.take 33 rfl (by decide +kernel) CutX.no_panic (by decide +kernel) rfl rfl rfl (RV.geq rfl rfl) ?_
        refine ED.take 34 rfl (by decide +kernel) CutX.no_panic (by decide +kernel) rfl rfl rfl (RV.move rfl) ?_
        first | refine ED.part (d := 37) rfl (fun hp37 => ?_) (fun hp37 => ?_) | refine ED.partN (d := 37) rfl (fun hp37 => ?_) (fun hp37 => ?_) | refine ED.partB (d := 37) rfl (fun hp37 => ?_) (fun hp37 => ?_)
        · refine ED.pass 35 rfl (by decide +kernel) CutX.no_panic (by decide +kernel) rfl rfl rfl ?_
          refine ED.pass 36 rfl (by decide +kernel) CutX.no_panic (by decide +kernel) rfl rfl rfl ?_
          refine ED.pass 37 rfl (by decide +kernel) CutX.no_panic (by decide +kernel) rfl rfl rfl ?_
          refine ED.pass 38 rfl (by decide +kernel) CutX.no_panic (by decide +kernel) rfl rfl rfl ?_
          refine ED.pass 39 rfl (by decide +kernel) CutX.no_panic (by decide +kernel) rfl rfl rfl ?_
          refine ED.pass 40 rfl (by decide +kernel) CutX.no_panic (by decide +kernel) rfl rfl rfl ?_
          refine ED.pass 41 rfl (by decide +kernel) CutX.no_panic (by decide +kernel) rfl rfl rfl ?_
          refine ED.pass 42 rfl (by decide +kernel) CutX.no_panic (by decide +kernel) rfl rfl rfl ?_
          refine ED.pass 43 rfl (by decide +kernel) CutX.no_panic (by decide +kernel) rfl rfl rfl ?_
          refine ED.pass 44 rfl (by decide +kernel) CutX.no_panic (by decide +kernel) rfl rfl rfl ?_
          refine ED.pass 45 rfl (by decide +kernel) CutX.no_panic (by decide +kernel) rfl rfl rfl ?_
          refine ED.take 46 rfl (by decide +kernel) CutX.no_panic (by decide +kernel) rfl rfl rfl (RV.pickT rfl rfl) ?_
          refine ED.take 47 rfl (by decide +kernel) CutX.no_panic (by decide +kernel) rfl rfl rfl (RV.pickT rfl rfl) ?_
          refine ED.take 48 rfl (by decide +kernel) CutX.no_panic (by decide +kernel) rfl rfl rfl (RV.assign rfl) ?_
          refine ED.done (by decide +kernel) ?_
          exact PX.cutX () ⟨getA rfl (congrArg Value.bool (by unfold dashM; simp_all <;> omega)), trivial⟩ (.i (by repeat constructor))
        · refine ED.take 35 rfl (by decide +kernel) CutX.no_panic (by decide +kernel) rfl rfl rfl (RV.move rfl) ?_
          refine ED.take 36 rfl (by decide +kernel) CutX.no_panic (by decide +kernel) rfl rfl rfl (RV.nilCheck rfl) ?_
          refine ED.take 37 rfl (by decide +kernel) CutX.no_panic (by decide +kernel) rfl rfl rfl (RV.fieldAddr rfl rfl rfl rfl rfl rfl) ?_
          refine ED.take 38 rfl (by decide +kernel) CutX.no_panic (by decide +kernel) rfl rfl rfl (RV.loadB rfl rfl rfl (by repeat constructor) rfl) ?_
          refine ED.take 39 rfl (by decide +kernel) CutX.no_panic (by decide +kernel) rfl rfl rfl (RV.move rfl) ?_
          refine ED.take 40 rfl (by decide +kernel) CutX.no_panic (by decide +kernel) rfl rfl rfl (RV.nilCheck rfl) ?_
          refine ED.take 41 rfl (by decide +kernel) CutX.no_panic (by decide +kernel) rfl rfl rfl (RV.fieldAddr rfl rfl rfl rfl rfl rfl) ?_
          refine ED.take 42 rfl (by decide +kernel) CutX.no_panic (by decide +kernel) rfl rfl rfl (RV.loadB rfl rfl rfl (by repeat constructor) rfl) ?_
          refine ED.take 43 rfl (by decide +kernel) CutX.no_panic (by decide +kernel) rfl rfl rfl (RV.add1 rfl rfl (by omega)) ?_
          refine ED.take 44 rfl (by decide +kernel) CutX.no_panic (by decide +kernel) rfl rfl rfl (RV.indexSN rfl rfl rfl rfl (by omega)) ?_
          refine ED.take 45 rfl (by decide +kernel) CutX.no_panic (by decide +kernel) rfl rfl rfl (RV.neqI rfl rfl) ?_
          refine ED.take 46 rfl (by decide +kernel) CutX.no_panic (by decide +kernel) rfl rfl rfl (RV.pickF rfl rfl) ?_
          refine ED.take 47 rfl (by decide +kernel) CutX.no_panic (by decide +kernel) rfl rfl rfl (RV.pickT rfl rfl) ?_
          refine ED.take 48 rfl (by decide +kernel) CutX.no_panic (by decide +kernel) rfl rfl rfl (RV.assign rfl) ?_
          refine ED.done (by decide +kernel) ?_
          exact PX.cutX () ⟨getA rfl (congrArg Value.bool (by unfold dashM; simp_all <;> omega)), trivial⟩ (.i (by repeat constructor))
      · refine ED.pass 23 rfl (by decide +kernel) CutX.no_panic (by decide +kernel) rfl rfl rfl ?_
        refine ED.pass 24 rfl (by decide +kernel) CutX.no_panic (by decide +kernel) rfl rfl rfl ?_
        refine ED.pass 25 rfl (by decide +kernel) CutX.no_panic (by decide +kernel) rfl rfl rfl ?_
        refine ED.pass 26 rfl (by decide +kernel) CutX.no_panic (by decide +kernel) rfl rfl rfl ?_
        refine ED.pass 27 rfl (by decide +kernel) CutX.no_panic (by decide +kernel) rfl rfl rfl ?_
        refine ED.pass 28 rfl (by decide +kernel) CutX.no_panic (by decide +kernel) rfl rfl rfl ?_
        refine ED.pass 29 rfl (by decide +kernel) CutX.no_panic (by decide +kernel) rfl rfl rfl ?_
        refine ED.pass 30 rfl (by decide +kernel) CutX.no_panic (by decide +kernel) rfl rfl rfl ?_
        refine ED.pass 31 rfl (by decide +kernel) CutX.no_panic (by decide +kernel) rfl rfl rfl ?_
        refine ED.pass 32 rfl (by decide +kernel) CutX.no_panic (by decide +kernel) rfl rfl rfl ?_
        refine ED.pass 33 rfl (by decide +kernel) CutX.no_panic (by decide +kernel) rfl rfl rfl ?_
        refine ED.pass 34 rfl (by decide +kernel) CutX.no_panic (by decide +kernel) rfl rfl rfl ?_
        refine ED.pass 35 rfl (by decide +kernel) CutX.no_panic (by decide +kernel) rfl rfl rfl ?_
        refine ED.pass 36 rfl (by decide +kernel) CutX.no_panic (by decide +kernel) rfl rfl rfl ?_
        refine ED.pass 37 rfl (by decide +kernel) CutX.no_panic (by decide +kernel) rfl rfl rfl ?_
        refine ED.pass 38 rfl (by decide +kernel) CutX.no_panic (by decide +kernel) rfl rfl rfl ?_
        refine ED.pass 39 rfl (by decide +kernel) CutX.no_panic (by decide +kernel) rfl rfl rfl ?_
        refine ED.pass 40 rfl (by decide +kernel) CutX.no_panic (by decide +kernel) rfl rfl rfl ?_
        refine ED.pass 41 rfl (by decide +kernel) CutX.no_panic (by decide +kernel) rfl rfl rfl ?_
        refine ED.pass 42 rfl (by decide +kernel) CutX.no_panic (by decide +kernel) rfl rfl rfl ?_
        refine ED.pass 43 rfl (by decide +kernel) CutX.no_panic (by decide +kernel) rfl rfl rfl ?_
        refine ED.pass 44 rfl (by decide +kernel) CutX.no_panic (by decide +kernel) rfl rfl rfl ?_
        refine ED.pass 45 rfl (by decide +kernel) CutX.no_panic (by decide +kernel) rfl rfl rfl ?_
        refine ED.pass 46 rfl (by decide +kernel) CutX.no_panic (by decide +kernel) rfl rfl rfl ?_
        refine ED.take 47 rfl (by decide +kernel) CutX.no_panic (by decide +kernel) rfl rfl rfl (RV.pickF rfl rfl) ?_
        refine ED.take 48 rfl (by decide +kernel) CutX.no_panic (by decide +kernel) rfl rfl rfl (RV.assign rfl) ?_
        refine ED.done (by decide +kernel) ?_
        exact PX.cutX () ⟨getA rfl (congrArg Value.bool (by unfold dashM; simp_all <;> omega)), trivial⟩ (.i (by repeat constructor))
    · refine ED.pass 11 rfl (by decide +kernel) CutX.no_panic (by decide +kernel) rfl rfl rfl ?_
      refine ED.pass 12 rfl (by decide +kernel) CutX.no_panic (by decide +kernel) rfl rfl rfl ?_
      refine ED.pass 13 rfl (by decide +kernel) CutX.no_panic (by decide +kernel) rfl rfl rfl ?_
      refine ED.pass 14 rfl (by decide +kernel) CutX.no_panic (by decide +kernel) rfl rfl rfl ?_
      refine ED.pass 15 rfl (by decide +kernel) CutX.no_panic (by decide +kernel) rfl rfl rfl ?_
      refine ED.pass 16 rfl (by decide +kernel) CutX.no_panic (by decide +kernel) rfl rfl rfl ?_
      refine ED.pass 17 rfl (by decide +kernel) CutX.no_panic (by decide +kernel) rfl rfl rfl ?_
      refine ED.pass 18 rfl (by decide +kernel) CutX.no_panic (by decide +kernel) rfl rfl rfl ?_
      refine ED.pass 19 rfl (by decide +kernel) CutX.no_panic (by decide +kernel) rfl rfl rfl ?_
      refine ED.pass 20 rfl (by decide +kernel) CutX.no_panic (by decide +kernel) rfl rfl rfl ?_
      refine ED.take 21 rfl (by decide +kernel) CutX.no_panic (by decide +kernel) rfl rfl rfl (RV.pickF rfl rfl) ?_
      refine ED.take 22 rfl (by decide +kernel) CutX.no_panic (by decide +kernel) rfl rfl rfl (RV.move rfl) ?_
      refine ED.pass 23 rfl (by decide +kernel) CutX.no_panic (by decide +kernel) rfl rfl rfl ?_
      refine ED.pass 24 rfl (by decide +kernel) CutX.no_panic (by decide +kernel) rfl rfl rfl ?_
      refine ED.pass 25 rfl (by decide +kernel) CutX.no_panic (by decide +kernel) rfl rfl rfl ?_
      refine ED.pass 26 rfl (by decide +kernel) CutX.no_panic (by decide +kernel) rfl rfl rfl ?_
      refine ED.pass 27 rfl (by decide +kernel) CutX.no_panic (by decide +kernel) rfl rfl rfl ?_
      refine ED.pass 28 rfl (by decide +kernel) CutX.no_panic (by decide +kernel) rfl rfl rfl ?_
      refine ED.pass 29 rfl (by decide +kernel) CutX.no_panic (by decide +kernel) rfl rfl rfl ?_
      refine ED.pass 30 rfl (by decide +kernel) CutX.no_panic (by decide +kernel) rfl rfl rfl ?_
      refine ED.pass 31 rfl (by decide +kernel) CutX.no_panic (by decide +kernel) rfl rfl rfl ?_
      refine ED.pass 32 rfl (by decide +kernel) CutX.no_panic (by decide +kernel) rfl rfl rfl ?_
      refine ED.pass 33 rfl (by decide +kernel) CutX.no_panic (by decide +kernel) rfl rfl rfl ?_
      refine ED.pass 34 rfl (by decide +kernel) CutX.no_panic (by decide +kernel) rfl rfl rfl ?_
      refine ED.pass 35 rfl (by decide +kernel) CutX.no_panic (by decide +kernel) rfl rfl rfl ?_
      refine ED.pass 36 rfl (by decide +kernel) CutX.no_panic (by decide +kernel) rfl rfl rfl ?_
      refine ED.pass 37 rfl (by decide +kernel) CutX.no_panic (by decide +kernel) rfl rfl rfl ?_
      refine ED.pass 38 rfl (by decide +kernel) CutX.no_panic (by decide +kernel) rfl rfl rfl ?_
      refine ED.pass 39 rfl (by decide +kernel) CutX.no_panic (by decide +kernel) rfl rfl rfl ?_
      refine ED.pass 40 rfl (by decide +kernel) CutX.no_panic (by decide +kernel) rfl rfl rfl ?_
      refine ED.pass 41 rfl (by decide +kernel) CutX.no_panic (by decide +kernel) rfl rfl rfl ?_
      refine ED.pass 42 rfl (by decide +kernel) CutX.no_panic (by decide +kernel) rfl rfl rfl ?_
      refine ED.pass 43 rfl (by decide +kernel) CutX.no_panic (by decide +kernel) rfl rfl rfl ?_
      refine ED.pass 44 rfl (by decide +kernel) CutX.no_panic (by decide +kernel) rfl rfl rfl ?_
      refine ED.pass 45 rfl (by decide +kernel) CutX.no_panic (by decide +kernel) rfl rfl rfl ?_
      refine ED.pass 46 rfl (by decide +kernel) CutX.no_panic (by decide +kernel) rfl rfl rfl ?_
      refine ED.take 47 rfl (by decide +kernel) CutX.no_panic (by decide +kernel) rfl rfl rfl (RV.pickF rfl rfl) ?_
      refine ED.take 48 rfl (by decide +kernel) CutX.no_panic (by decide +kernel) rfl rfl rfl (RV.assign rfl) ?_
      refine ED.done (by decide +kernel) ?_
      exact PX.cutX () ⟨getA rfl (congrArg Value.bool (by unfold dashM; simp_all <;> omega)), trivial⟩ (.i (by repeat constructor))
  refine .go ?_; repeat constructor
  exact PX.ret rfl Try.results115 (.cons (.tmp rfl) .nil) (fun w hs => ⟨(), rfl, hs.ent (.i (by repeat constructor))⟩)
structure Sp where
  set : BS
  at_ : Nat
  e : Int
def spanT (t : List UInt8) (a : Nat) : Sp :=
  let i := itemM t a
  if i.e ≠ 0 ∨ dashM t i.at_ = false then ⟨i.set, i.at_, i.e⟩
  else if t.length ≤ i.at_ + 1 then ⟨i.set, i.at_ + 1, 6⟩
  else if i.single = false then ⟨i.set, i.at_ + 1, 7⟩
  else
    let j := itemM t (i.at_ + 1)
    if j.e ≠ 0 then ⟨i.set, j.at_, j.e⟩
    else if j.single = false then ⟨i.set, j.at_, 7⟩
    else if (spanM i.b j.b).2 = 0 ∧ dashM t j.at_ = true then ⟨(spanM i.b j.b).1, j.at_, 7⟩ else ⟨(spanM i.b j.b).1, j.at_, (spanM i.b j.b).2⟩
theorem span_at (t : List UInt8) (a : Nat) (h : a < t.length) : a ≤ (spanT t a).at_ ∧ (spanT t a).at_ ≤ t.length ∧ ((spanT t a).e = 0 → a < (spanT t a).at_) := by
  have h1 := item_at t a h
  unfold spanT
  dsimp only
  split
  · exact h1
  · rename_i hd
    have hd1 : (itemM t a).e = 0 ∧ dashM t (itemM t a).at_ = true := by
      simp only [not_or, Decidable.not_not, Bool.not_eq_false] at hd
      exact hd
    have hlt := dash_lt hd1.2
    have h2 := h1.2.2 hd1.1
    split
    · exact ⟨by simp only; omega, by simp only; omega, fun _ => by simp only; omega⟩
    · rename_i hl
      have h3 := item_at t ((itemM t a).at_ + 1) (by omega)
      split
      · exact ⟨by simp only; omega, by simp only; omega, fun _ => by simp only; omega⟩
      · split
        · exact ⟨by simp only; omega, h3.2.1, fun _ => by simp only; omega⟩
        · split
          · exact ⟨by simp only; omega, h3.2.1, fun _ => by simp only; omega⟩
          · split
            · exact ⟨by simp only; omega, h3.2.1, fun _ => by simp only; omega⟩
            · exact ⟨by simp only; omega, h3.2.1, fun _ => by simp only; omega⟩
theorem spanR_c (g : Nat) (t : List UInt8) (a : Nat) (ha : a < t.length) (ht : t.length ≤ 1073741824) (w0 : World) (B : Nat) (hG : GR w0 B) :
    MutAt Try.prog 110 #[Pv g 0] [RD g t a 0] (fun _ : Unit => Bs (spanT t a).set) (fun _ => [RD g t (spanT t a).at_ (spanT t a).e]) w0 B := by
  intro R w h
  replace h : Sat w0 B (RD g t a 0 :: R) w := h
  have hia := item_at t a ha
  have hic := item_c g t a ha ht w0 B hG
  have hsp : spanT t a = (let i := itemM t a
    if i.e ≠ 0 ∨ dashM t i.at_ = false then ⟨i.set, i.at_, i.e⟩
    else if t.length ≤ i.at_ + 1 then ⟨i.set, i.at_ + 1, 6⟩
    else if i.single = false then ⟨i.set, i.at_ + 1, 7⟩
    else
      let j := itemM t (i.at_ + 1)
      if j.e ≠ 0 then ⟨i.set, j.at_, j.e⟩
      else if j.single = false then ⟨i.set, j.at_, 7⟩
      else if (spanM i.b j.b).2 = 0 ∧ dashM t j.at_ = true then ⟨(spanM i.b j.b).1, j.at_, 7⟩ else ⟨(spanM i.b j.b).1, j.at_, (spanM i.b j.b).2⟩) := rfl
  obtain ⟨r, hr⟩ : ∃ r, r = spanT t a := ⟨_, rfl⟩
  rw [← hr] at hsp ⊢
  dsimp only at hsp
  generalize itemM t a = i at hia hic hsp
  obtain ⟨⟨s0, s1, s2, s3⟩, ib, ising, ia, ie⟩ := i
  dsimp only at hia hic hsp
  refine calls_of_ES TB Try.func110 rfl _ Try.ntmps110 rfl h ?_
  refine .go ?_; repeat constructor
  (refine EL.alloc rfl rfl rfl ?_; intro g2)
  refine .go ?_; repeat constructor
  refine EL.move rfl rfl rfl ?_
  refine EL.callMw1 rfl rfl rfl ent114 rfl hic (by repeat constructor) ?_
  refine EL.move rfl rfl rfl ?_
  refine EL.extract rfl rfl rfl rfl ?_
  refine EL.extract rfl rfl rfl rfl ?_
  refine EL.extract rfl rfl rfl rfl ?_
  (refine EL.alloc rfl rfl rfl ?_; intro g3)
  (apply EL.storeAll; exact rfl; exact rfl; exact rfl; exact rfl; exact rfl; (case p => repeat constructor); exact rfl; (case h1 => exact (by first | rfl | exact all1 rfl | (intro u hu; simp only [List.mem_cons, List.not_mem_nil, or_false] at hu; rcases hu with rfl | rfl | rfl | rfl <;> rfl) | (intro u hu; simp at hu; rcases hu with rfl | rfl | rfl | rfl <;> rfl) | (intro u hu; simp at hu; rcases hu with rfl | rfl | rfl <;> rfl) | (intro u hu; simp at hu; rcases hu with rfl | rfl <;> rfl) | (intro u hu; simp at hu; obtain ⟨_, _, rfl⟩ := hu; rfl))))
  refine EL.assign rfl rfl rfl ?_
  refine EL.assign rfl rfl rfl ?_
  refine .go ?_; repeat constructor
  refine EL.cutX (X := Unit) (fun _ => [(0, Pv g 0), (2, Pv g2 0), (3, Pv g3 0), (4, Uv ib), (5, .bool ising), (23, .bool (!decide (ie = 0) || !dashM t ia))]) (fun _ => SB g3 ⟨s0, s1, s2, s3⟩ :: RD g t ia ie :: SB g2 zeroS :: R) ?_ (fun _ => ?_)
  · refine .go ?_; repeat constructor
    refine EL.move rfl rfl rfl ?_
    refine EL.nilCheck rfl rfl rfl ?_
    refine EL.fieldAddr rfl rfl rfl rfl rfl rfl rfl rfl ?_
    (apply EL.loadB; exact rfl; exact rfl; exact rfl; exact rfl; exact rfl; (case hm => repeat constructor); exact rfl)
    refine EL.neqI rfl rfl rfl rfl ?_
    refine EL.move rfl rfl rfl ?_
    first | refine EL.splitD (d := 19) rfl (fun hp19 => ?_) (fun hp19 => ?_) | refine EL.splitN (d := 19) rfl (fun hp19 => ?_) (fun hp19 => ?_) | refine EL.splitB (d := 19) rfl (fun hp19 => ?_) (fun hp19 => ?_)
    · refine EL.pass rfl rfl rfl ?_
      refine EL.pass rfl rfl rfl ?_
      refine EL.pass rfl rfl rfl ?_
      refine EL.pickT rfl rfl rfl rfl ?_
      exact EL.endX () ⟨rfl, rfl, rfl, rfl, rfl, getA rfl (congrArg Value.bool (by simp_all)), trivial⟩ (.i (by repeat constructor))
    · refine EL.move rfl rfl rfl ?_
      refine EL.callMw1 rfl rfl rfl ent115 rfl (dash_c g t ia ie ht hia.2.1 _ _) (by repeat constructor) ?_
      refine EL.not rfl rfl rfl ?_
      refine EL.pickF rfl rfl rfl rfl ?_
      exact EL.endX () ⟨rfl, rfl, rfl, rfl, rfl, getA rfl (congrArg Value.bool (by simp_all)), trivial⟩ (.i (by repeat constructor))
  refine ES.cond rfl (fun hc => ?_) (fun hc => ?_)
  · rw [if_pos (by
      rcases Bool.or_eq_true_iff.1 hc with h1 | h1
      · exact .inl (by simpa using h1)
      · exact .inr (by simpa using h1))] at hsp
    rw [hsp]
    refine .go ?_; repeat constructor
    (apply EL.loadAggB; exact rfl; exact rfl; exact rfl; exact rfl; exact rfl; (case hm => repeat constructor); exact rfl)
    (apply EL.storeAll; exact rfl; exact rfl; exact rfl; exact rfl; exact rfl; (case p => repeat constructor); exact rfl; (case h1 => exact (by first | rfl | exact all1 rfl | (intro u hu; simp only [List.mem_cons, List.not_mem_nil, or_false] at hu; rcases hu with rfl | rfl | rfl | rfl <;> rfl) | (intro u hu; simp at hu; rcases hu with rfl | rfl | rfl | rfl <;> rfl) | (intro u hu; simp at hu; rcases hu with rfl | rfl | rfl <;> rfl) | (intro u hu; simp at hu; rcases hu with rfl | rfl <;> rfl) | (intro u hu; simp at hu; obtain ⟨_, _, rfl⟩ := hu; rfl))))
    refine .go ?_; repeat constructor
    exact PX.ret rfl Try.results110 (.cons (.blkA rfl rfl rfl (by repeat constructor) rfl) .nil) (fun w hs => ⟨(), rfl, hs.ent (.i (by repeat constructor))⟩)
  rw [Bool.or_eq_false_iff] at hc
  have he0 : ie = 0 := by simpa using hc.1
  have hda : dashM t ia = true := by simpa using hc.2
  subst he0
  rw [if_neg (by rw [hda]; simp)] at hsp
  have hlt := dash_lt hda
  refine .go ?_; repeat constructor
  refine EL.move rfl rfl rfl ?_
  refine EL.nilCheck rfl rfl rfl ?_
  refine EL.fieldAddr rfl rfl rfl rfl rfl rfl rfl rfl ?_
  (apply EL.loadB; exact rfl; exact rfl; exact rfl; exact rfl; exact rfl; (case hm => repeat constructor); exact rfl)
  refine EL.add1 rfl rfl rfl rfl (by omega) ?_
  refine EL.nilCheck rfl rfl rfl ?_
  refine EL.fieldAddr rfl rfl rfl rfl rfl rfl rfl rfl ?_
  (apply EL.storeB; exact rfl; exact rfl; exact rfl; exact rfl; exact rfl; exact rfl; (case p => repeat constructor); exact (by first | decide | exact Nat.le_of_ble_eq_true rfl | simp))
  refine .go ?_; repeat constructor
  refine ES.draw (X := Unit) (fun _ => [(0, Pv g 0), (2, Pv g2 0), (3, Pv g3 0), (4, Uv ib), (5, .bool ising), (41, .bool (decide ((t.length : Int) ≤ ((ia + 1 : Nat) : Int))))]) (fun _ => SB g3 ⟨s0, s1, s2, s3⟩ :: RD g t (ia + 1) 0 :: SB g2 zeroS :: R) (SB g3 ⟨s0, s1, s2, s3⟩ :: RD g t (ia + 1) 0 :: SB g2 zeroS :: R) mixed (.i (by repeat constructor)) ?_ (fun _ => ?_)
  · refine ED.take 0 rfl (by decide +kernel) CutX.no_panic (by decide +kernel) rfl rfl rfl (RV.move rfl) ?_
    refine ED.take 1 rfl (by decide +kernel) CutX.no_panic (by decide +kernel) rfl rfl rfl (RV.nilCheck rfl) ?_
    refine ED.take 2 rfl (by decide +kernel) CutX.no_panic (by decide +kernel) rfl rfl rfl (RV.fieldAddr rfl rfl rfl rfl rfl rfl) ?_
    refine ED.take 3 rfl (by decide +kernel) CutX.no_panic (by decide +kernel) rfl rfl rfl (RV.loadB rfl rfl rfl (by repeat constructor) rfl) ?_
    refine ED.take 4 rfl (by decide +kernel) CutX.no_panic (by decide +kernel) rfl rfl rfl (RV.move rfl) ?_
    refine ED.take 5 rfl (by decide +kernel) CutX.no_panic (by decide +kernel) rfl rfl rfl (RV.nilCheck rfl) ?_
    refine ED.take 6 rfl (by decide +kernel) CutX.no_panic (by decide +kernel) rfl rfl rfl (RV.fieldAddr rfl rfl rfl rfl rfl rfl) ?_
    refine ED.take 7 rfl (by decide +kernel) CutX.no_panic (by decide +kernel) rfl rfl rfl (RV.loadB rfl rfl rfl (by repeat constructor) rfl) ?_
    refine ED.take 8 rfl (by decide +kernel) CutX.no_panic (by decide +kernel) rfl rfl rfl (RV.lenS rfl rfl rfl) ?_
    refine ED.take 9 rfl (by decide +kernel) CutX.no_panic (by decide +kernel) rfl rfl rfl (RV.geq rfl rfl) ?_
    refine ED.done (by decide +kernel) ?_
    exact PX.cutX () ⟨rfl, rfl, rfl, rfl, rfl, rfl, trivial⟩ (.i (by repeat constructor))
  refine ES.condD rfl (fun hge => ?_) (fun hlt2 => ?_)
  · rw [if_pos (by omega)] at hsp
    rw [hsp]
    refine .go ?_; repeat constructor
    refine EL.move rfl rfl rfl ?_
    refine EL.nilCheck rfl rfl rfl ?_
    refine EL.fieldAddr rfl rfl rfl rfl rfl rfl rfl rfl ?_
    (apply EL.storeB; exact rfl; exact rfl; exact rfl; exact rfl; exact rfl; exact rfl; (case p => repeat constructor); exact (by first | decide | exact Nat.le_of_ble_eq_true rfl | simp))
    refine .go ?_; repeat constructor
    (apply EL.loadAggB; exact rfl; exact rfl; exact rfl; exact rfl; exact rfl; (case hm => repeat constructor); exact rfl)
    (apply EL.storeAll; exact rfl; exact rfl; exact rfl; exact rfl; exact rfl; (case p => repeat constructor); exact rfl; (case h1 => exact (by first | rfl | exact all1 rfl | (intro u hu; simp only [List.mem_cons, List.not_mem_nil, or_false] at hu; rcases hu with rfl | rfl | rfl | rfl <;> rfl) | (intro u hu; simp at hu; rcases hu with rfl | rfl | rfl | rfl <;> rfl) | (intro u hu; simp at hu; rcases hu with rfl | rfl | rfl <;> rfl) | (intro u hu; simp at hu; rcases hu with rfl | rfl <;> rfl) | (intro u hu; simp at hu; obtain ⟨_, _, rfl⟩ := hu; rfl))))
    refine .go ?_; repeat constructor
    exact PX.ret rfl Try.results110 (.cons (.blkA rfl rfl rfl (by repeat constructor) rfl) .nil) (fun w hs => ⟨(), rfl, hs.ent (.i (by repeat constructor))⟩)
  rw [if_neg (by omega)] at hsp
  refine .go ?_; repeat constructor
  refine EL.move rfl rfl rfl ?_
  refine EL.not rfl rfl rfl ?_
  refine .go ?_; repeat constructor
  refine ES.cond rfl (fun hs1 => ?_) (fun hs1 => ?_)
  · rw [if_pos (by simpa using hs1)] at hsp
    rw [hsp]
    refine .go ?_; repeat constructor
    refine EL.move rfl rfl rfl ?_
    refine EL.nilCheck rfl rfl rfl ?_
    refine EL.fieldAddr rfl rfl rfl rfl rfl rfl rfl rfl ?_
    (apply EL.storeB; exact rfl; exact rfl; exact rfl; exact rfl; exact rfl; exact rfl; (case p => repeat constructor); exact (by first | decide | exact Nat.le_of_ble_eq_true rfl | simp))
    refine .go ?_; repeat constructor
    (apply EL.loadAggB; exact rfl; exact rfl; exact rfl; exact rfl; exact rfl; (case hm => repeat constructor); exact rfl)
    (apply EL.storeAll; exact rfl; exact rfl; exact rfl; exact rfl; exact rfl; (case p => repeat constructor); exact rfl; (case h1 => exact (by first | rfl | exact all1 rfl | (intro u hu; simp only [List.mem_cons, List.not_mem_nil, or_false] at hu; rcases hu with rfl | rfl | rfl | rfl <;> rfl) | (intro u hu; simp at hu; rcases hu with rfl | rfl | rfl | rfl <;> rfl) | (intro u hu; simp at hu; rcases hu with rfl | rfl | rfl <;> rfl) | (intro u hu; simp at hu; rcases hu with rfl | rfl <;> rfl) | (intro u hu; simp at hu; obtain ⟨_, _, rfl⟩ := hu; rfl))))
    refine .go ?_; repeat constructor
    exact PX.ret rfl Try.results110 (.cons (.blkA rfl rfl rfl (by repeat constructor) rfl) .nil) (fun w hs => ⟨(), rfl, hs.ent (.i (by repeat constructor))⟩)
  rw [if_neg (by simpa using hs1)] at hsp
  have hja := item_at t (ia + 1) (by omega)
  have hjc := item_c g t (ia + 1) (by omega) ht w0 B hG
  generalize itemM t (ia + 1) = j at hja hjc hsp
  obtain ⟨⟨u0, u1, u2, u3⟩, jb, jsing, ja, je⟩ := j
  dsimp only at hja hjc hsp
  refine .go ?_; repeat constructor
  refine EL.move rfl rfl rfl ?_
  refine EL.callMw1 rfl rfl rfl ent114 rfl hjc (by repeat constructor) ?_
  refine EL.move rfl rfl rfl ?_
  refine EL.extract rfl rfl rfl rfl ?_
  refine EL.extract rfl rfl rfl rfl ?_
  refine EL.extract rfl rfl rfl rfl ?_
  (refine EL.alloc rfl rfl rfl ?_; intro g6)
  (apply EL.storeAll; exact rfl; exact rfl; exact rfl; exact rfl; exact rfl; (case p => repeat constructor); exact rfl; (case h1 => exact (by first | rfl | exact all1 rfl | (intro u hu; simp only [List.mem_cons, List.not_mem_nil, or_false] at hu; rcases hu with rfl | rfl | rfl | rfl <;> rfl) | (intro u hu; simp at hu; rcases hu with rfl | rfl | rfl | rfl <;> rfl) | (intro u hu; simp at hu; rcases hu with rfl | rfl | rfl <;> rfl) | (intro u hu; simp at hu; rcases hu with rfl | rfl <;> rfl) | (intro u hu; simp at hu; obtain ⟨_, _, rfl⟩ := hu; rfl))))
  refine EL.assign rfl rfl rfl ?_
  refine EL.assign rfl rfl rfl ?_
  refine .go ?_; repeat constructor
  refine EL.move rfl rfl rfl ?_
  refine EL.nilCheck rfl rfl rfl ?_
  refine EL.fieldAddr rfl rfl rfl rfl rfl rfl rfl rfl ?_
  (apply EL.loadB; exact rfl; exact rfl; exact rfl; exact rfl; exact rfl; (case hm => repeat constructor); exact rfl)
  refine EL.neqI rfl rfl rfl rfl ?_
  refine .go ?_; repeat constructor
  refine ES.condN rfl (fun hne => ?_) (fun heq => ?_)
  · rw [if_pos hne] at hsp
    rw [hsp]
    refine .go ?_; repeat constructor
    (apply EL.loadAggB; exact rfl; exact rfl; exact rfl; exact rfl; exact rfl; (case hm => repeat constructor); exact rfl)
    (apply EL.storeAll; exact rfl; exact rfl; exact rfl; exact rfl; exact rfl; (case p => repeat constructor); exact rfl; (case h1 => exact (by first | rfl | exact all1 rfl | (intro u hu; simp only [List.mem_cons, List.not_mem_nil, or_false] at hu; rcases hu with rfl | rfl | rfl | rfl <;> rfl) | (intro u hu; simp at hu; rcases hu with rfl | rfl | rfl | rfl <;> rfl) | (intro u hu; simp at hu; rcases hu with rfl | rfl | rfl <;> rfl) | (intro u hu; simp at hu; rcases hu with rfl | rfl <;> rfl) | (intro u hu; simp at hu; obtain ⟨_, _, rfl⟩ := hu; rfl))))
    refine .go ?_; repeat constructor
    exact PX.ret rfl Try.results110 (.cons (.blkA rfl rfl rfl (by repeat constructor) rfl) .nil) (fun w hs => ⟨(), rfl, hs.ent (.i (by repeat constructor))⟩)
  rw [if_neg (by simpa using heq)] at hsp
  subst heq
  refine .go ?_; repeat constructor
  refine EL.move rfl rfl rfl ?_
  refine EL.not rfl rfl rfl ?_
  refine .go ?_; repeat constructor
  refine ES.cond rfl (fun hs2 => ?_) (fun hs2 => ?_)
  · rw [if_pos (by simpa using hs2)] at hsp
    rw [hsp]
    refine .go ?_; repeat constructor
    refine EL.move rfl rfl rfl ?_
    refine EL.nilCheck rfl rfl rfl ?_
    refine EL.fieldAddr rfl rfl rfl rfl rfl rfl rfl rfl ?_
    (apply EL.storeB; exact rfl; exact rfl; exact rfl; exact rfl; exact rfl; exact rfl; (case p => repeat constructor); exact (by first | decide | exact Nat.le_of_ble_eq_true rfl | simp))
    refine .go ?_; repeat constructor
    (apply EL.loadAggB; exact rfl; exact rfl; exact rfl; exact rfl; exact rfl; (case hm => repeat constructor); exact rfl)
    (apply EL.storeAll; exact rfl; exact rfl; exact rfl; exact rfl; exact rfl; (case p => repeat constructor); exact rfl; (case h1 => exact (by first | rfl | exact all1 rfl | (intro u hu; simp only [List.mem_cons, List.not_mem_nil, or_false] at hu; rcases hu with rfl | rfl | rfl | rfl <;> rfl) | (intro u hu; simp at hu; rcases hu with rfl | rfl | rfl | rfl <;> rfl) | (intro u hu; simp at hu; rcases hu with rfl | rfl | rfl <;> rfl) | (intro u hu; simp at hu; rcases hu with rfl | rfl <;> rfl) | (intro u hu; simp at hu; obtain ⟨_, _, rfl⟩ := hu; rfl))))
    refine .go ?_; repeat constructor
    exact PX.ret rfl Try.results110 (.cons (.blkA rfl rfl rfl (by repeat constructor) rfl) .nil) (fun w hs => ⟨(), rfl, hs.ent (.i (by repeat constructor))⟩)
  rw [if_neg (by simpa using hs2)] at hsp
  have hspc := span_c ib jb
  obtain ⟨q, hq⟩ : ∃ q, q = spanM ib jb := ⟨_, rfl⟩
  rw [← hq] at hspc hsp
  obtain ⟨⟨v0, v1, v2, v3⟩, qe⟩ := q
  dsimp only at hspc hsp
  refine .go ?_; repeat constructor
  refine EL.move rfl rfl rfl ?_
  refine EL.move rfl rfl rfl ?_
  refine EL.move rfl rfl rfl ?_
  refine EL.callP rfl rfl rfl ent116 rfl hspc ?_
  refine EL.move rfl rfl rfl ?_
  refine EL.extract rfl rfl rfl rfl ?_
  refine EL.extract rfl rfl rfl rfl ?_
  (apply EL.storeAll; exact rfl; exact rfl; exact rfl; exact rfl; exact rfl; (case p => repeat constructor); exact rfl; (case h1 => exact (by first | rfl | exact all1 rfl | (intro u hu; simp only [List.mem_cons, List.not_mem_nil, or_false] at hu; rcases hu with rfl | rfl | rfl | rfl <;> rfl) | (intro u hu; simp at hu; rcases hu with rfl | rfl | rfl | rfl <;> rfl) | (intro u hu; simp at hu; rcases hu with rfl | rfl | rfl <;> rfl) | (intro u hu; simp at hu; rcases hu with rfl | rfl <;> rfl) | (intro u hu; simp at hu; obtain ⟨_, _, rfl⟩ := hu; rfl))))
  refine EL.nilCheck rfl rfl rfl ?_
  refine EL.fieldAddr rfl rfl rfl rfl rfl rfl rfl rfl ?_
  (apply EL.storeB; exact rfl; exact rfl; exact rfl; exact rfl; exact rfl; exact rfl; (case p => repeat constructor); exact (by first | decide | exact Nat.le_of_ble_eq_true rfl | simp))
  refine .go ?_; repeat constructor
  refine EL.cutX (X := Unit) (fun _ => [(0, Pv g 0), (2, Pv g2 0), (3, Pv g3 0), (87, .bool (decide (qe = 0) && dashM t ja))]) (fun _ => SB g3 ⟨v0, v1, v2, v3⟩ :: RD g t ja qe :: SB g2 zeroS :: R) ?_ (fun _ => ?_)
  · refine .go ?_; repeat constructor
    refine EL.move rfl rfl rfl ?_
    refine EL.nilCheck rfl rfl rfl ?_
    refine EL.fieldAddr rfl rfl rfl rfl rfl rfl rfl rfl ?_
    (apply EL.loadB; exact rfl; exact rfl; exact rfl; exact rfl; exact rfl; (case hm => repeat constructor); exact rfl)
    refine EL.eqlI rfl rfl rfl rfl ?_
    refine EL.move rfl rfl rfl ?_
    first | refine EL.splitD (d := 84) rfl (fun hp84 => ?_) (fun hp84 => ?_) | refine EL.splitN (d := 84) rfl (fun hp84 => ?_) (fun hp84 => ?_) | refine EL.splitB (d := 84) rfl (fun hp84 => ?_) (fun hp84 => ?_)
    · refine EL.move rfl rfl rfl ?_
      refine EL.callMw1 rfl rfl rfl ent115 rfl (dash_c g t ja qe ht hja.2.1 _ _) (by repeat constructor) ?_
      refine EL.pickT rfl rfl rfl rfl ?_
      exact EL.endX () ⟨rfl, rfl, rfl, getA rfl (congrArg Value.bool (by simp_all)), trivial⟩ (.i (by repeat constructor))
    · refine EL.pass rfl rfl rfl ?_
      refine EL.pass rfl rfl rfl ?_
      refine EL.pickF rfl rfl rfl rfl ?_
      exact EL.endX () ⟨rfl, rfl, rfl, getA rfl (congrArg Value.bool (by simp_all)), trivial⟩ (.i (by repeat constructor))
  refine ES.cond rfl (fun hb => ?_) (fun hb => ?_)
  · rw [if_pos (by simpa using hb)] at hsp
    rw [hsp]
    refine .go ?_; repeat constructor
    refine EL.move rfl rfl rfl ?_
    refine EL.nilCheck rfl rfl rfl ?_
    refine EL.fieldAddr rfl rfl rfl rfl rfl rfl rfl rfl ?_
    (apply EL.storeB; exact rfl; exact rfl; exact rfl; exact rfl; exact rfl; exact rfl; (case p => repeat constructor); exact (by first | decide | exact Nat.le_of_ble_eq_true rfl | simp))
    refine .go ?_; repeat constructor
    (apply EL.loadAggB; exact rfl; exact rfl; exact rfl; exact rfl; exact rfl; (case hm => repeat constructor); exact rfl)
    (apply EL.storeAll; exact rfl; exact rfl; exact rfl; exact rfl; exact rfl; (case p => repeat constructor); exact rfl; (case h1 => exact (by first | rfl | exact all1 rfl | (intro u hu; simp only [List.mem_cons, List.not_mem_nil, or_false] at hu; rcases hu with rfl | rfl | rfl | rfl <;> rfl) | (intro u hu; simp at hu; rcases hu with rfl | rfl | rfl | rfl <;> rfl) | (intro u hu; simp at hu; rcases hu with rfl | rfl | rfl <;> rfl) | (intro u hu; simp at hu; rcases hu with rfl | rfl <;> rfl) | (intro u hu; simp at hu; obtain ⟨_, _, rfl⟩ := hu; rfl))))
    refine .go ?_; repeat constructor
    exact PX.ret rfl Try.results110 (.cons (.blkA rfl rfl rfl (by repeat constructor) rfl) .nil) (fun w hs => ⟨(), rfl, hs.ent (.i (by repeat constructor))⟩)
  · rw [if_neg (by intro hh; rw [hh.1, hh.2] at hb; simp at hb)] at hsp
    rw [hsp]
    refine .go ?_; repeat constructor
    (apply EL.loadAggB; exact rfl; exact rfl; exact rfl; exact rfl; exact rfl; (case hm => repeat constructor); exact rfl)
    (apply EL.storeAll; exact rfl; exact rfl; exact rfl; exact rfl; exact rfl; (case p => repeat constructor); exact rfl; (case h1 => exact (by first | rfl | exact all1 rfl | (intro u hu; simp only [List.mem_cons, List.not_mem_nil, or_false] at hu; rcases hu with rfl | rfl | rfl | rfl <;> rfl) | (intro u hu; simp at hu; rcases hu with rfl | rfl | rfl | rfl <;> rfl) | (intro u hu; simp at hu; rcases hu with rfl | rfl | rfl <;> rfl) | (intro u hu; simp at hu; rcases hu with rfl | rfl <;> rfl) | (intro u hu; simp at hu; obtain ⟨_, _, rfl⟩ := hu; rfl))))
    refine .go ?_; repeat constructor
    exact PX.ret rfl Try.results110 (.cons (.blkA rfl rfl rfl (by repeat constructor) rfl) .nil) (fun w hs => ⟨(), rfl, hs.ent (.i (by repeat constructor))⟩)
def brBad (t : List UInt8) (a : Nat) : Bool := decide ((t.length : Int) ≤ (a : Int)) || !decide (((t.getD a 0).toNat : Int) = 91)
def brNot (t : List UInt8) (a : Nat) : Bool := decide (((a + 1 : Nat) : Int) < (t.length : Int)) && decide (((t.getD (a + 1) 0).toNat : Int) = 94)
def brEnd (t : List UInt8) (a : Nat) (first : Bool) : Bool := decide (((t.getD a 0).toNat : Int) = 93) && !first
theorem brBad_false {t : List UInt8} {a : Nat} (h : brBad t a = false) : a < t.length ∧ (t.getD a 0).toNat = 91 := by
  unfold brBad at h
  simp only [Bool.or_eq_false_iff, Bool.not_eq_false', decide_eq_true_eq, decide_eq_false_iff_not] at h
  exact ⟨by omega, by omega⟩
theorem brNot_true {t : List UInt8} {a : Nat} (h : brNot t a = true) : a + 1 < t.length := by
  unfold brNot at h
  simp only [Bool.and_eq_true, decide_eq_true_eq] at h
  omega
def brGo (t : List UInt8) : Nat → Nat → Bool → BS → Sp
  | 0, _, _, _ => ⟨zeroS, 0, 6⟩
  | n + 1, a, first, s =>
    if t.length ≤ a then ⟨zeroS, 0, 6⟩
    else if brEnd t a first = true then ⟨s, a + 1, 0⟩
    else if (spanT t a).e ≠ 0 then ⟨zeroS, 0, (spanT t a).e⟩
    else brGo t n (spanT t a).at_ false (orS s (spanT t a).set)
def brFrom (t : List UInt8) (a : Nat) : Sp := brGo t (t.length + 1 - a) a true zeroS
def brackM (t : List UInt8) (a : Nat) : Sp :=
  if brBad t a = true then ⟨zeroS, 0, 1⟩
  else if brNot t a = true then ⟨if (brFrom t (a + 2)).e = 0 then notS (brFrom t (a + 2)).set else (brFrom t (a + 2)).set, (brFrom t (a + 2)).at_, (brFrom t (a + 2)).e⟩
  else brFrom t (a + 1)
def brOut (nt : Bool) (r : Sp) : Sp := if nt = true then ⟨if r.e = 0 then notS r.set else r.set, r.at_, r.e⟩ else r
theorem brOut_bad (nt : Bool) (e : Int) (h : e ≠ 0) : brOut nt ⟨zeroS, 0, e⟩ = ⟨zeroS, 0, e⟩ := by
  unfold brOut
  split
  · simp [h]
  · rfl
theorem brGo_next (t : List UInt8) : ∀ (n a : Nat) (f : Bool) (s : BS), a ≤ t.length → (brGo t n a f s).e = 0 → a < (brGo t n a f s).at_ ∧ (brGo t n a f s).at_ ≤ t.length
  | 0, _, _, _, _, h => by simp [brGo] at h
  | n + 1, a, f, s, ha, h => by
    rw [brGo] at h ⊢
    split at h
    · simp at h
    · rename_i h1
      rw [if_neg h1]
      split at h
      · rename_i h2
        rw [if_pos h2]
        simp only
        omega
      · rename_i h2
        rw [if_neg h2]
        split at h
        · rename_i h3; exact absurd h h3
        · rename_i h3
          rw [if_neg h3]
          have hs := span_at t a (by omega)
          have := brGo_next t n _ _ _ hs.2.1 h
          have := hs.2.2 (by simpa using h3)
          omega
theorem brack_next (t : List UInt8) (a : Nat) (h : (brackM t a).e = 0) : a + 1 < (brackM t a).at_ ∧ (brackM t a).at_ ≤ t.length := by
  unfold brackM at h ⊢
  split at h
  · simp at h
  · rename_i h1
    have hb := brBad_false (by simpa using h1)
    rw [if_neg h1]
    split at h
    · rename_i h2
      have := brNot_true h2
      rw [if_pos h2]
      have := brGo_next t _ (a + 2) true zeroS (by omega) h
      exact ⟨by have := this.1; simp only [brFrom]; omega, this.2⟩
    · rename_i h2
      rw [if_neg h2]
      have := brGo_next t _ (a + 1) true zeroS (by omega) h
      exact this
def BrI (t : List UInt8) (res : Sp) (a : Nat) (first : Bool) (s : BS) (e : Int) : Prop :=
  (e = 0 ∧ a ≤ t.length + 1 ∧ ∃ n, t.length + 1 ≤ n + a ∧ brGo t n a first s = res) ∨ (e ≠ 0 ∧ res = ⟨zeroS, 0, e⟩)
theorem brParse_c (t : List UInt8) (a : Nat) (ht : t.length ≤ 1073741824) (ha : a ≤ 1073741824) (w : World) (hG : GR w w.heap.size) :
    Pure Try.prog 99 #[Sv t, Iv (a : Nat)] (fun _ : Unit => .tuple #[Bs (brackM t a).set, Iv ((brackM t a).at_ : Nat), Iv (brackM t a).e]) (fun _ => []) w := by
  refine calls_of_ES TB Try.func99 rfl _ Try.ntmps99 rfl (Sat.start w) ?_
  refine .go ?_; repeat constructor
  (refine EL.alloc rfl rfl rfl ?_; intro g4)
  refine EL.assign rfl rfl rfl ?_
  refine EL.assign rfl rfl rfl ?_
  refine .go ?_; repeat constructor
  refine EL.cutX (X := Unit) (fun _ => [(0, Sv t), (1, Iv (a : Nat)), (4, Pv g4 0), (24, .bool (brBad t a))]) (fun _ => [SB g4 zeroS]) ?_ (fun _ => ?_)
  · refine .go ?_; repeat constructor
    refine EL.move rfl rfl rfl ?_
    refine EL.lss rfl rfl rfl rfl ?_
    refine EL.move rfl rfl rfl ?_
    refine EL.rew (d := 13) (v' := .bool false) rfl (congrArg Value.bool (decide_eq_false (by omega))) ?_
    refine EL.move rfl rfl rfl ?_
    refine EL.move rfl rfl rfl ?_
    refine EL.lenS rfl rfl rfl rfl rfl ?_
    refine EL.geq rfl rfl rfl rfl ?_
    refine EL.pickF rfl rfl rfl rfl ?_
    refine EL.move rfl rfl rfl ?_
    first | refine EL.splitD (d := 19) rfl (fun hp19 => ?_) (fun hp19 => ?_) | refine EL.splitN (d := 19) rfl (fun hp19 => ?_) (fun hp19 => ?_) | refine EL.splitB (d := 19) rfl (fun hp19 => ?_) (fun hp19 => ?_)
    · refine EL.pass rfl rfl rfl ?_
      refine EL.pass rfl rfl rfl ?_
      refine EL.pass rfl rfl rfl ?_
      refine EL.pass rfl rfl rfl ?_
      refine EL.pickT rfl rfl rfl rfl ?_
      exact EL.endX () ⟨rfl, rfl, rfl, getA rfl (congrArg Value.bool (by unfold brBad; simp_all <;> omega)), trivial⟩ (.i (by repeat constructor))
    · refine EL.move rfl rfl rfl ?_
      refine EL.move rfl rfl rfl ?_
      refine EL.indexSN rfl rfl rfl rfl rfl rfl (by omega) ?_
      refine EL.neqI rfl rfl rfl rfl ?_
      refine EL.pickF rfl rfl rfl rfl ?_
      exact EL.endX () ⟨rfl, rfl, rfl, getA rfl (congrArg Value.bool (by unfold brBad; simp_all <;> omega)), trivial⟩ (.i (by repeat constructor))
  refine ES.cond rfl (fun hbad => ?_) (fun hok => ?_)
  · have hm : brackM t a = ⟨zeroS, 0, 1⟩ := by unfold brackM; rw [if_pos hbad]
    rw [hm]
    refine .go ?_; repeat constructor
    refine EL.buildZA rfl rfl rfl rfl rfl ?_
    (apply EL.storeAll; exact rfl; exact rfl; exact rfl; exact rfl; exact rfl; (case p => repeat constructor); exact rfl; (case h1 => exact (by first | rfl | exact all1 rfl | (intro u hu; simp only [List.mem_cons, List.not_mem_nil, or_false] at hu; rcases hu with rfl | rfl | rfl | rfl <;> rfl) | (intro u hu; simp at hu; rcases hu with rfl | rfl | rfl | rfl <;> rfl) | (intro u hu; simp at hu; rcases hu with rfl | rfl | rfl <;> rfl) | (intro u hu; simp at hu; rcases hu with rfl | rfl <;> rfl) | (intro u hu; simp at hu; obtain ⟨_, _, rfl⟩ := hu; rfl))))
    refine EL.assign rfl rfl rfl ?_
    refine EL.assign rfl rfl rfl ?_
    refine .go ?_; repeat constructor
    exact PX.ret rfl Try.results99 (.cons (.blkA rfl rfl rfl (by repeat constructor) rfl) (.cons (.tmp rfl) (.cons (.tmp rfl) .nil))) (fun w hs => ⟨(), rfl, hs.ent (.i (by repeat constructor))⟩)
  have hok2 := brBad_false hok
  obtain ⟨nt, hnt⟩ : ∃ nt, nt = brNot t a := ⟨_, rfl⟩
  refine .go ?_; repeat constructor
  refine EL.move rfl rfl rfl ?_
  refine EL.move rfl rfl rfl ?_
  refine EL.add1 rfl rfl rfl rfl (by omega) ?_
  refine EL.buildS #[Sv t, Iv ((a + 1 : Nat) : Int), Iv 0] rfl rfl rfl rfl rfl rfl rfl ?_
  (refine EL.box rfl rfl rfl ?_; intro g30)
  refine EL.assign rfl rfl rfl ?_
  refine .go ?_; repeat constructor
  refine EL.cutX (X := Unit) (fun _ => [(0, Sv t), (4, Pv g4 0), (7, Pv g30 0), (8, .bool nt)]) (fun _ => [RD g30 t (a + 1) 0, SB g4 zeroS]) ?_ (fun _ => ?_)
  · refine .go ?_; repeat constructor
    refine EL.move rfl rfl rfl ?_
    refine EL.nilCheck rfl rfl rfl ?_
    refine EL.fieldAddr rfl rfl rfl rfl rfl rfl rfl rfl ?_
    (apply EL.loadB; exact rfl; exact rfl; exact rfl; exact rfl; exact rfl; (case hm => repeat constructor); exact rfl)
    refine EL.move rfl rfl rfl ?_
    refine EL.lenS rfl rfl rfl rfl rfl ?_
    refine EL.lss rfl rfl rfl rfl ?_
    refine EL.move rfl rfl rfl ?_
    first | refine EL.splitD (d := 38) rfl (fun hp38 => ?_) (fun hp38 => ?_) | refine EL.splitN (d := 38) rfl (fun hp38 => ?_) (fun hp38 => ?_) | refine EL.splitB (d := 38) rfl (fun hp38 => ?_) (fun hp38 => ?_)
    · refine EL.move rfl rfl rfl ?_
      refine EL.move rfl rfl rfl ?_
      refine EL.nilCheck rfl rfl rfl ?_
      refine EL.fieldAddr rfl rfl rfl rfl rfl rfl rfl rfl ?_
      (apply EL.loadB; exact rfl; exact rfl; exact rfl; exact rfl; exact rfl; (case hm => repeat constructor); exact rfl)
      refine EL.indexSN rfl rfl rfl rfl rfl rfl (by omega) ?_
      refine EL.eqlI rfl rfl rfl rfl ?_
      refine EL.pickT rfl rfl rfl rfl ?_
      refine EL.assign rfl rfl rfl ?_
      exact EL.endX () ⟨rfl, rfl, rfl, getA rfl (congrArg Value.bool (by rw [hnt]; unfold brNot; simp_all <;> omega)), trivial⟩ (.i (by repeat constructor))
    · refine EL.pass rfl rfl rfl ?_
      refine EL.pass rfl rfl rfl ?_
      refine EL.pass rfl rfl rfl ?_
      refine EL.pass rfl rfl rfl ?_
      refine EL.pass rfl rfl rfl ?_
      refine EL.pass rfl rfl rfl ?_
      refine EL.pass rfl rfl rfl ?_
      refine EL.pickF rfl rfl rfl rfl ?_
      refine EL.assign rfl rfl rfl ?_
      exact EL.endX () ⟨rfl, rfl, rfl, getA rfl (congrArg Value.bool (by rw [hnt]; unfold brNot; simp_all <;> omega)), trivial⟩ (.i (by repeat constructor))
  refine .go ?_; repeat constructor
  refine EL.move rfl rfl rfl ?_
  refine .go ?_; repeat constructor
  refine ES.cutC (X := Unit) (fun _ => [(0, Sv t), (4, Pv g4 0), (7, Pv g30 0), (8, .bool nt)]) (fun _ => [RD g30 t (if nt = true then a + 2 else a + 1) 0, SB g4 zeroS]) ?_ (fun _ => ?_)
  · refine ES.cond rfl (fun hn => ?_) (fun hn => ?_)
    · rw [if_pos hn]
      refine .go ?_; repeat constructor
      refine EL.move rfl rfl rfl ?_
      refine EL.nilCheck rfl rfl rfl ?_
      refine EL.fieldAddr rfl rfl rfl rfl rfl rfl rfl rfl ?_
      (apply EL.loadB; exact rfl; exact rfl; exact rfl; exact rfl; exact rfl; (case hm => repeat constructor); exact rfl)
      refine EL.add1 rfl rfl rfl rfl (by omega) ?_
      refine EL.nilCheck rfl rfl rfl ?_
      refine EL.fieldAddr rfl rfl rfl rfl rfl rfl rfl rfl ?_
      (apply EL.storeB; exact rfl; exact rfl; exact rfl; exact rfl; exact rfl; exact rfl; (case p => repeat constructor); exact (by first | decide | exact Nat.le_of_ble_eq_true rfl | simp))
      refine .go ?_; repeat constructor
      exact PX.cutX () ⟨rfl, rfl, rfl, rfl, trivial⟩ (.i (by repeat constructor))
    · rw [if_neg (by rw [hn]; decide)]
      refine .go ?_; repeat constructor
      exact PX.cutX () ⟨rfl, rfl, rfl, rfl, trivial⟩ (.i (by repeat constructor))
  have hm : brackM t a = brOut nt (brFrom t (if nt = true then a + 2 else a + 1)) := by
    unfold brackM brOut
    rw [if_neg (by rw [hok]; decide), ← hnt]
    split <;> rfl
  rw [hm]
  have hfrom : (if nt = true then a + 2 else a + 1) ≤ t.length := by
    split
    · rename_i hn
      rw [hnt] at hn
      have := brNot_true hn
      omega
    · omega
  generalize (if nt = true then a + 2 else a + 1) = from_ at hfrom ⊢
  obtain ⟨res, hres⟩ : ∃ res, res = brFrom t from_ := ⟨_, rfl⟩
  rw [← hres]
  refine .go ?_; repeat constructor
  (refine EL.alloc rfl rfl rfl ?_; intro g9)
  refine .go ?_; repeat constructor
  refine EL.assign rfl rfl rfl ?_
  refine .go ?_; repeat constructor
  refine ES.loop (σ := Nat × Bool × BS × Int) (fun (a, first, s, e) => BrI t res a first s e) (fun (a, first, s, e) => [(0, Sv t), (4, Pv g4 0), (7, Pv g30 0), (8, .bool nt), (9, Pv g9 0), (10, .bool first)])
    (fun (a, first, s, e) => [RD g30 t a e, SB g9 s, SB g4 zeroS]) (fun (a, first, s, e) => if e = 0 then t.length + 2 - a else 0) (from_, true, zeroS, 0) (.inl ⟨rfl, by omega, t.length + 1 - from_, by omega, by rw [hres]; rfl⟩) ⟨rfl, rfl, rfl, rfl, rfl, rfl, trivial⟩ (.i (by repeat constructor)) ?_
  rintro ⟨a, first, s, e⟩ hI
  dsimp only at hI ⊢
  refine .go ?_; repeat constructor
  refine EL.move rfl rfl rfl ?_
  refine EL.nilCheck rfl rfl rfl ?_
  refine EL.fieldAddr rfl rfl rfl rfl rfl rfl rfl rfl ?_
  (apply EL.loadB; exact rfl; exact rfl; exact rfl; exact rfl; exact rfl; (case hm => repeat constructor); exact rfl)
  refine EL.eqlI rfl rfl rfl rfl ?_
  refine .go ?_; repeat constructor
  refine ES.condD rfl (fun he => ?_) (fun hne => ?_)
  · subst he
    obtain ⟨hale, n, hn, hgo⟩ : a ≤ t.length + 1 ∧ ∃ n, t.length + 1 ≤ n + a ∧ brGo t n a first s = res := by
      rcases hI with ⟨_, h⟩ | ⟨hh, _⟩
      · exact h
      · exact absurd rfl hh
    refine .go ?_; repeat constructor
    refine EL.move rfl rfl rfl ?_
    refine EL.nilCheck rfl rfl rfl ?_
    refine EL.fieldAddr rfl rfl rfl rfl rfl rfl rfl rfl ?_
    (apply EL.loadB; exact rfl; exact rfl; exact rfl; exact rfl; exact rfl; (case hm => repeat constructor); exact rfl)
    refine EL.move rfl rfl rfl ?_
    refine EL.lenS rfl rfl rfl rfl rfl ?_
    refine EL.geq rfl rfl rfl rfl ?_
    refine .go ?_; repeat constructor
    refine ES.condD rfl (fun hge => ?_) (fun hlt => ?_)
    · have hr : res = ⟨zeroS, 0, 6⟩ := by
        rw [← hgo]
        cases n with
        | zero => rfl
        | succ n => rw [brGo, if_pos (by omega)]
      rw [hr, brOut_bad nt 6 (by decide)]
      refine .go ?_; repeat constructor
      refine EL.move rfl rfl rfl ?_
      refine EL.nilCheck rfl rfl rfl ?_
      refine EL.fieldAddr rfl rfl rfl rfl rfl rfl rfl rfl ?_
      (apply EL.storeB; exact rfl; exact rfl; exact rfl; exact rfl; exact rfl; exact rfl; (case p => repeat constructor); exact (by first | decide | exact Nat.le_of_ble_eq_true rfl | simp))
      refine .go ?_; repeat constructor
      refine ES.draw (X := Unit) (fun _ => [(4, Pv g4 0), (5, Iv 0), (6, Iv 6)]) (fun _ => [SB g4 zeroS]) [RD g30 t a 6] mixed (.i (by repeat constructor)) ?_ (fun _ => ?_)
      · refine ED.take 1 rfl (by decide +kernel) CutX.no_panic (by decide +kernel) rfl rfl rfl (RV.move rfl) ?_
        refine ED.take 2 rfl (by decide +kernel) CutX.no_panic (by decide +kernel) rfl rfl rfl (RV.nilCheck rfl) ?_
        refine ED.take 3 rfl (by decide +kernel) CutX.no_panic (by decide +kernel) rfl rfl rfl (RV.fieldAddr rfl rfl rfl rfl rfl rfl) ?_
        refine ED.take 4 rfl (by decide +kernel) CutX.no_panic (by decide +kernel) rfl rfl rfl (RV.loadB rfl rfl rfl (by repeat constructor) rfl) ?_
        refine ED.loud 0 rfl (by decide +kernel) ?_
        refine EL.buildZA rfl rfl rfl rfl rfl ?_
        refine ED.next (.i (by repeat constructor)) ?_
        refine ED.loud 5 rfl (by decide +kernel) ?_
        (apply EL.storeAll; exact rfl; exact rfl; exact rfl; exact rfl; exact rfl; (case p => repeat constructor); exact rfl; (case h1 => exact (by first | rfl | exact all1 rfl | (intro u hu; simp only [List.mem_cons, List.not_mem_nil, or_false] at hu; rcases hu with rfl | rfl | rfl | rfl <;> rfl) | (intro u hu; simp at hu; rcases hu with rfl | rfl | rfl | rfl <;> rfl) | (intro u hu; simp at hu; rcases hu with rfl | rfl | rfl <;> rfl) | (intro u hu; simp at hu; rcases hu with rfl | rfl <;> rfl) | (intro u hu; simp at hu; obtain ⟨_, _, rfl⟩ := hu; rfl))))
        refine ED.next (.i (by repeat constructor)) ?_
        refine ED.take 6 rfl (by decide +kernel) CutX.no_panic (by decide +kernel) rfl rfl rfl (RV.assign rfl) ?_
        refine ED.take 7 rfl (by decide +kernel) CutX.no_panic (by decide +kernel) rfl rfl rfl (RV.assign rfl) ?_
        refine ED.done (by decide +kernel) ?_
        exact PX.cutX () ⟨rfl, rfl, rfl, trivial⟩ (.i (by repeat constructor))
      refine .go ?_; repeat constructor
      exact PX.ret rfl Try.results99 (.cons (.blkA rfl rfl rfl (by repeat constructor) rfl) (.cons (.tmp rfl) (.cons (.tmp rfl) .nil))) (fun w hs => ⟨(), rfl, hs.ent (.i (by repeat constructor))⟩)
    · have hlt' : a < t.length := by omega
      obtain ⟨m, rfl⟩ : ∃ m, n = m + 1 := ⟨n - 1, by omega⟩
      rw [brGo, if_neg (by omega)] at hgo
      have hsa := span_at t a hlt'
      have hsc := spanR_c g30 t a hlt' ht _ _ hG
      refine .go ?_; repeat constructor
      refine EL.cutX (X := Unit) (fun _ => [(0, Sv t), (4, Pv g4 0), (7, Pv g30 0), (8, .bool nt), (9, Pv g9 0), (80, .bool (brEnd t a first))]) (fun _ => [RD g30 t a 0, SB g9 s, SB g4 zeroS]) ?_ (fun _ => ?_)
      · refine .go ?_; repeat constructor
        refine EL.move rfl rfl rfl ?_
        refine EL.move rfl rfl rfl ?_
        refine EL.nilCheck rfl rfl rfl ?_
        refine EL.fieldAddr rfl rfl rfl rfl rfl rfl rfl rfl ?_
        (apply EL.loadB; exact rfl; exact rfl; exact rfl; exact rfl; exact rfl; (case hm => repeat constructor); exact rfl)
        refine EL.indexSN rfl rfl rfl rfl rfl rfl (by omega) ?_
        refine EL.eqlI rfl rfl rfl rfl ?_
        refine EL.move rfl rfl rfl ?_
        first | refine EL.splitD (d := 77) rfl (fun hp77 => ?_) (fun hp77 => ?_) | refine EL.splitN (d := 77) rfl (fun hp77 => ?_) (fun hp77 => ?_) | refine EL.splitB (d := 77) rfl (fun hp77 => ?_) (fun hp77 => ?_)
        · refine EL.move rfl rfl rfl ?_
          refine EL.not rfl rfl rfl ?_
          refine EL.pickT rfl rfl rfl rfl ?_
          exact EL.endX () ⟨rfl, rfl, rfl, rfl, rfl, getA rfl (congrArg Value.bool (by unfold brEnd; simp_all <;> omega)), trivial⟩ (.i (by repeat constructor))
        · refine EL.pass rfl rfl rfl ?_
          refine EL.pass rfl rfl rfl ?_
          refine EL.pickF rfl rfl rfl rfl ?_
          exact EL.endX () ⟨rfl, rfl, rfl, rfl, rfl, getA rfl (congrArg Value.bool (by unfold brEnd; simp_all <;> omega)), trivial⟩ (.i (by repeat constructor))
      refine ES.cond rfl (fun hend => ?_) (fun hnend => ?_)
      · rw [if_pos hend] at hgo
        rw [← hgo]
        refine .go ?_; repeat constructor
        refine EL.move rfl rfl rfl ?_
        refine .go ?_; repeat constructor
        cases nt
        · refine ES.condF rfl ?_
          refine .g0 ?_; repeat constructor
          refine ES.draw (X := Unit) (fun _ => [(4, Pv g4 0), (5, Iv ((a + 1 : Nat) : Int)), (6, Iv 0)]) (fun _ => [SB g4 s]) [RD g30 t a 0, SB g9 s] mixed (.i (by repeat constructor)) ?_ (fun _ => ?_)
          · refine ED.take 0 rfl (by decide +kernel) CutX.no_panic (by decide +kernel) rfl rfl rfl (RV.loadAggB rfl rfl rfl (by repeat constructor) rfl) ?_
            refine ED.take 1 rfl (by decide +kernel) CutX.no_panic (by decide +kernel) rfl rfl rfl (RV.move rfl) ?_
            refine ED.take 2 rfl (by decide +kernel) CutX.no_panic (by decide +kernel) rfl rfl rfl (RV.nilCheck rfl) ?_
            refine ED.take 3 rfl (by decide +kernel) CutX.no_panic (by decide +kernel) rfl rfl rfl (RV.fieldAddr rfl rfl rfl rfl rfl rfl) ?_
            refine ED.take 4 rfl (by decide +kernel) CutX.no_panic (by decide +kernel) rfl rfl rfl (RV.loadB rfl rfl rfl (by repeat constructor) rfl) ?_
            refine ED.take 5 rfl (by decide +kernel) CutX.no_panic (by decide +kernel) rfl rfl rfl (RV.add1 rfl rfl (by omega)) ?_
            refine ED.loud 6 rfl (by decide +kernel) ?_
            (apply EL.storeAll; exact rfl; exact rfl; exact rfl; exact rfl; exact rfl; (case p => repeat constructor); exact rfl; (case h1 => exact (by first | rfl | exact all1 rfl | (intro u hu; simp only [List.mem_cons, List.not_mem_nil, or_false] at hu; rcases hu with rfl | rfl | rfl | rfl <;> rfl) | (intro u hu; simp at hu; rcases hu with rfl | rfl | rfl | rfl <;> rfl) | (intro u hu; simp at hu; rcases hu with rfl | rfl | rfl <;> rfl) | (intro u hu; simp at hu; rcases hu with rfl | rfl <;> rfl) | (intro u hu; simp at hu; obtain ⟨_, _, rfl⟩ := hu; rfl))))
            refine ED.next (.i (by repeat constructor)) ?_
            refine ED.take 7 rfl (by decide +kernel) CutX.no_panic (by decide +kernel) rfl rfl rfl (RV.assign rfl) ?_
            refine ED.take 8 rfl (by decide +kernel) CutX.no_panic (by decide +kernel) rfl rfl rfl (RV.assign rfl) ?_
            refine ED.done (by decide +kernel) ?_
            exact PX.cutX () ⟨rfl, rfl, rfl, trivial⟩ (.i (by repeat constructor))
          refine .go ?_; repeat constructor
          exact PX.ret rfl Try.results99 (.cons (.blkA rfl rfl rfl (by repeat constructor) rfl) (.cons (.tmp rfl) (.cons (.tmp rfl) .nil))) (fun w hs => ⟨(), rfl, hs.ent (.i (by repeat constructor))⟩)
        · refine ES.condT rfl ?_
          refine .go ?_; repeat constructor
          (apply EL.loadAggB; exact rfl; exact rfl; exact rfl; exact rfl; exact rfl; (case hm => repeat constructor); exact rfl)
          refine EL.callP rfl rfl rfl ent90 rfl (not_c s) ?_
          (apply EL.storeAll; exact rfl; exact rfl; exact rfl; exact rfl; exact rfl; (case p => repeat constructor); exact rfl; (case h1 => exact (by first | rfl | exact all1 rfl | (intro u hu; simp only [List.mem_cons, List.not_mem_nil, or_false] at hu; rcases hu with rfl | rfl | rfl | rfl <;> rfl) | (intro u hu; simp at hu; rcases hu with rfl | rfl | rfl | rfl <;> rfl) | (intro u hu; simp at hu; rcases hu with rfl | rfl | rfl <;> rfl) | (intro u hu; simp at hu; rcases hu with rfl | rfl <;> rfl) | (intro u hu; simp at hu; obtain ⟨_, _, rfl⟩ := hu; rfl))))
          refine .go ?_; repeat constructor
          refine ES.draw (X := Unit) (fun _ => [(4, Pv g4 0), (5, Iv ((a + 1 : Nat) : Int)), (6, Iv 0)]) (fun _ => [SB g4 (notS s)]) [RD g30 t a 0, SB g9 (notS s)] mixed (.i (by repeat constructor)) ?_ (fun _ => ?_)
          · refine ED.take 0 rfl (by decide +kernel) CutX.no_panic (by decide +kernel) rfl rfl rfl (RV.loadAggB rfl rfl rfl (by repeat constructor) rfl) ?_
            refine ED.take 1 rfl (by decide +kernel) CutX.no_panic (by decide +kernel) rfl rfl rfl (RV.move rfl) ?_
            refine ED.take 2 rfl (by decide +kernel) CutX.no_panic (by decide +kernel) rfl rfl rfl (RV.nilCheck rfl) ?_
            refine ED.take 3 rfl (by decide +kernel) CutX.no_panic (by decide +kernel) rfl rfl rfl (RV.fieldAddr rfl rfl rfl rfl rfl rfl) ?_
            refine ED.take 4 rfl (by decide +kernel) CutX.no_panic (by decide +kernel) rfl rfl rfl (RV.loadB rfl rfl rfl (by repeat constructor) rfl) ?_
            refine ED.take 5 rfl (by decide +kernel) CutX.no_panic (by decide +kernel) rfl rfl rfl (RV.add1 rfl rfl (by omega)) ?_
            refine ED.loud 6 rfl (by decide +kernel) ?_
            (apply EL.storeAll; exact rfl; exact rfl; exact rfl; exact rfl; exact rfl; (case p => repeat constructor); exact rfl; (case h1 => exact (by first | rfl | exact all1 rfl | (intro u hu; simp only [List.mem_cons, List.not_mem_nil, or_false] at hu; rcases hu with rfl | rfl | rfl | rfl <;> rfl) | (intro u hu; simp at hu; rcases hu with rfl | rfl | rfl | rfl <;> rfl) | (intro u hu; simp at hu; rcases hu with rfl | rfl | rfl <;> rfl) | (intro u hu; simp at hu; rcases hu with rfl | rfl <;> rfl) | (intro u hu; simp at hu; obtain ⟨_, _, rfl⟩ := hu; rfl))))
            refine ED.next (.i (by repeat constructor)) ?_
            refine ED.take 7 rfl (by decide +kernel) CutX.no_panic (by decide +kernel) rfl rfl rfl (RV.assign rfl) ?_
            refine ED.take 8 rfl (by decide +kernel) CutX.no_panic (by decide +kernel) rfl rfl rfl (RV.assign rfl) ?_
            refine ED.done (by decide +kernel) ?_
            exact PX.cutX () ⟨rfl, rfl, rfl, trivial⟩ (.i (by repeat constructor))
          refine .go ?_; repeat constructor
          exact PX.ret rfl Try.results99 (.cons (.blkA rfl rfl rfl (by repeat constructor) rfl) (.cons (.tmp rfl) (.cons (.tmp rfl) .nil))) (fun w hs => ⟨(), rfl, hs.ent (.i (by repeat constructor))⟩)
      · rw [if_neg (by rw [hnend]; decide)] at hgo
        refine .g0 ?_; repeat constructor
        refine ES.draw (X := Unit) (fun _ => [(0, Sv t), (4, Pv g4 0), (7, Pv g30 0), (8, .bool nt), (9, Pv g9 0)]) (fun _ => [RD g30 t (spanT t a).at_ (spanT t a).e, SB g9 (orS s (spanT t a).set), SB g4 zeroS]) [SB g9 s, SB g4 zeroS] mixed (.i (by repeat constructor)) ?_ (fun _ => ?_)
        · refine ED.take 0 rfl (by decide +kernel) CutX.no_panic (by decide +kernel) rfl rfl rfl (RV.loadAggB rfl rfl rfl (by repeat constructor) rfl) ?_
          refine ED.take 1 rfl (by decide +kernel) CutX.no_panic (by decide +kernel) rfl rfl rfl (RV.move rfl) ?_
          refine ED.loud 2 rfl (by decide +kernel) ?_
          refine EL.callMw1 rfl rfl rfl ent110 rfl hsc (by repeat constructor) ?_
          refine ED.next (.i (by repeat constructor)) ?_
          refine ED.loud 3 rfl (by decide +kernel) ?_
          refine EL.callP rfl rfl rfl ent109 rfl (or_c s (spanT t a).set) ?_
          refine ED.next (.i (by repeat constructor)) ?_
          refine ED.last 4 rfl (by decide +kernel) (by decide +kernel) (by decide +kernel) ?_
          (apply EL.storeAll; exact rfl; exact rfl; exact rfl; exact rfl; exact rfl; (case p => repeat constructor); exact rfl; (case h1 => exact (by first | rfl | exact all1 rfl | (intro u hu; simp only [List.mem_cons, List.not_mem_nil, or_false] at hu; rcases hu with rfl | rfl | rfl | rfl <;> rfl) | (intro u hu; simp at hu; rcases hu with rfl | rfl | rfl | rfl <;> rfl) | (intro u hu; simp at hu; rcases hu with rfl | rfl | rfl <;> rfl) | (intro u hu; simp at hu; rcases hu with rfl | rfl <;> rfl) | (intro u hu; simp at hu; obtain ⟨_, _, rfl⟩ := hu; rfl))))
          refine EL.endQ ?_
          exact PX.cutX () ⟨rfl, rfl, rfl, rfl, rfl, trivial⟩ (.i (by repeat constructor))
        refine .go ?_; repeat constructor
        refine EL.assign rfl rfl rfl ?_
        refine .go ?_; repeat constructor
        refine PX.loop ((spanT t a).at_, false, orS s (spanT t a).set, (spanT t a).e) ?_ ?_ ⟨rfl, rfl, rfl, rfl, rfl, rfl, trivial⟩ (.i (by repeat constructor))
        · by_cases he : (spanT t a).e = 0
          · rw [if_neg (by simpa using he)] at hgo
            have := hsa.2.2 he
            exact .inl ⟨he, by omega, m, by omega, hgo⟩
          · rw [if_pos he] at hgo
            exact .inr ⟨he, hgo.symm⟩
        · simp only [if_true]
          split
          · rename_i he
            have := hsa.2.2 he
            omega
          · omega
  · rcases hI with ⟨hh, _⟩ | ⟨_, hr⟩
    · exact absurd hh hne
    rw [hr, brOut_bad nt e hne]
    refine .g0 ?_; repeat constructor
    refine ES.draw (X := Unit) (fun _ => [(4, Pv g4 0), (5, Iv 0), (6, Iv e)]) (fun _ => [SB g4 zeroS]) [RD g30 t a e] mixed (.i (by repeat constructor)) ?_ (fun _ => ?_)
    · refine ED.take 1 rfl (by decide +kernel) CutX.no_panic (by decide +kernel) rfl rfl rfl (RV.move rfl) ?_
      refine ED.take 2 rfl (by decide +kernel) CutX.no_panic (by decide +kernel) rfl rfl rfl (RV.nilCheck rfl) ?_
      refine ED.take 3 rfl (by decide +kernel) CutX.no_panic (by decide +kernel) rfl rfl rfl (RV.fieldAddr rfl rfl rfl rfl rfl rfl) ?_
      refine ED.take 4 rfl (by decide +kernel) CutX.no_panic (by decide +kernel) rfl rfl rfl (RV.loadB rfl rfl rfl (by repeat constructor) rfl) ?_
      refine ED.loud 0 rfl (by decide +kernel) ?_
      refine EL.buildZA rfl rfl rfl rfl rfl ?_
      refine ED.next (.i (by repeat constructor)) ?_
      refine ED.loud 5 rfl (by decide +kernel) ?_
      (apply EL.storeAll; exact rfl; exact rfl; exact rfl; exact rfl; exact rfl; (case p => repeat constructor); exact rfl; (case h1 => exact (by first | rfl | exact all1 rfl | (intro u hu; simp only [List.mem_cons, List.not_mem_nil, or_false] at hu; rcases hu with rfl | rfl | rfl | rfl <;> rfl) | (intro u hu; simp at hu; rcases hu with rfl | rfl | rfl | rfl <;> rfl) | (intro u hu; simp at hu; rcases hu with rfl | rfl | rfl <;> rfl) | (intro u hu; simp at hu; rcases hu with rfl | rfl <;> rfl) | (intro u hu; simp at hu; obtain ⟨_, _, rfl⟩ := hu; rfl))))
      refine ED.next (.i (by repeat constructor)) ?_
      refine ED.take 6 rfl (by decide +kernel) CutX.no_panic (by decide +kernel) rfl rfl rfl (RV.assign rfl) ?_
      refine ED.take 7 rfl (by decide +kernel) CutX.no_panic (by decide +kernel) rfl rfl rfl (RV.assign rfl) ?_
      refine ED.done (by decide +kernel) ?_
      exact PX.cutX () ⟨rfl, rfl, rfl, trivial⟩ (.i (by repeat constructor))
    refine .go ?_; repeat constructor
    exact PX.ret rfl Try.results99 (.cons (.blkA rfl rfl rfl (by repeat constructor) rfl) (.cons (.tmp rfl) (.cons (.tmp rfl) .nil))) (fun w hs => ⟨(), rfl, hs.ent (.i (by repeat constructor))⟩)
end Go.Proofs.Ytblpgpgbnlhjlaa
namespace Go.Proofs.Ytblpgpgbnlhjlaa
open Go Go.RowKit Sl
set_option maxRecDepth 100000
set_option maxHeartbeats 8000000
set_option linter.unusedVariables false
set_option linter.unusedSimpArgs false
attribute [local irreducible] ES EL PX wps
inductive RE where
  | cat (ks : List RE)
  | byte (s : BS)
  | bol
  | eol
  | group (n : Nat) (k : RE)
  | rep (lo : Nat) (hi : Int) (k : RE)
  | back (n : Nat)
deriving Inhabited
def RE.kind : RE → Nat
  | .cat _ => 0
  | .byte _ => 1
  | .bol => 2
  | .eol => 3
  | .group .. => 4
  | .rep .. => 5
  | .back _ => 6
def RE.set : RE → BS
  | .byte s => s
  | _ => zeroS
def RE.lo : RE → Nat
  | .rep lo _ _ => lo
  | _ => 0
def RE.hi : RE → Int
  | .rep _ hi _ => hi
  | _ => 0
def RE.num : RE → Nat
  | .group n _ => n
  | .back n => n
  | _ => 0
def RE.kids : RE → List RE
  | .cat ks => ks
  | .group _ k => [k]
  | .rep _ _ k => [k]
  | _ => []
structure Tok where
  kind : Nat
  at_ : Nat
  set : BS
  lo : Int
  hi : Int
  e : Int
def badT (a : Nat) (e : Int) : Tok := ⟨7, a, zeroS, 0, 0, e⟩
def byteT (a : Nat) (s : BS) : Tok := ⟨0, a, s, 0, 0, 0⟩
def oneT (a : Nat) (b : UInt8) : Tok := byteT a (ofS [b])
def isDig (b : UInt8) : Bool := decide (48 ≤ b.toNat ∧ b.toNat ≤ 57)
def numGo (t : List UInt8) : Nat → Nat → Nat → Nat × Nat
  | 0, n, a => (n, a)
  | k + 1, n, a => if a < t.length ∧ isDig (t.getD a 0) = true then numGo t k (min (10 * n + ((t.getD a 0).toNat - 48)) 256) (a + 1) else (n, a)
def numM (t : List UInt8) (a : Nat) : Int × Nat :=
  let r := numGo t (t.length - a) 0 a
  (if r.2 = a then -1 else (r.1 : Int), r.2)
def ivM (t : List UInt8) (a : Nat) : Option (Nat × Int × Nat) :=
  let l := numM t a
  let h := if l.2 < t.length ∧ t.getD l.2 0 = 44 then numM t (l.2 + 1) else l
  if l.1 < 0 ∨ 255 < l.1 ∨ 255 < h.1 ∨ (0 ≤ h.1 ∧ h.1 < l.1) then none
  else if t.length < h.2 + 2 ∨ (t.drop h.2).take 2 ≠ [92, 125] then none
  else some (l.1.toNat, h.1, h.2 + 2)
def isAln (b : UInt8) : Bool := isDig b || decide (97 ≤ (b ||| 32).toNat ∧ (b ||| 32).toNat ≤ 122)
def escT (t : List UInt8) (a : Nat) (begin_ : Bool) : Tok × Nat :=
  if a + 1 = t.length then (badT a 6, a)
  else
    let b := t.getD (a + 1) 0
    if b.toNat = 40 then (⟨3, a, zeroS, 0, 0, 0⟩, a + 2)
    else if b.toNat = 41 then (⟨4, a, zeroS, 0, 0, 0⟩, a + 2)
    else if b.toNat = 123 then
      match ivM t (a + 2) with
      | none => (badT a 9, a)
      | some (lo, hi, n) => if begin_ = true then (badT a 9, a) else (⟨5, a, zeroS, (lo : Int), hi, 0⟩, n)
    else if b.toNat = 125 then (badT a 9, a)
    else if b.toNat = 110 then (oneT a 10, a + 2)
    else if 49 ≤ b.toNat ∧ b.toNat ≤ 57 then (⟨6, a, zeroS, ((b.toNat - 48 : Nat) : Int), 0, 0⟩, a + 2)
    else if isAln b = true then (badT a 12, a)
    else (oneT a b, a + 2)
def eolM (t : List UInt8) (a : Nat) : Bool := decide (a + 1 = t.length) || (decide (a + 2 < t.length) && decide ((t.drop (a + 1)).take 2 = [92, 41]))
def readT (t : List UInt8) (a : Nat) (first begin_ : Bool) : Tok × Nat :=
  let b := t.getD a 0
  if b.toNat = 92 then escT t a begin_
  else if b.toNat = 91 then (if (brackM t a).e ≠ 0 then (badT a (brackM t a).e, a) else (byteT a (brackM t a).set, (brackM t a).at_))
  else if b.toNat = 46 then (byteT a (notS zeroS), a + 1)
  else if b.toNat = 42 ∧ begin_ = false then (⟨5, a, zeroS, 0, -1, 0⟩, a + 1)
  else if b.toNat = 94 ∧ first = true then (⟨1, a, zeroS, 0, 0, 0⟩, a + 1)
  else if b.toNat = 36 ∧ eolM t a = true then (⟨2, a, zeroS, 0, 0, 0⟩, a + 1)
  else (oneT a b, a + 1)
def toksGo (t : List UInt8) : Nat → Nat → Bool → Bool → List Tok
  | 0, _, _, _ => []
  | n + 1, a, first, begin_ =>
    if t.length ≤ a then []
    else
      let r := readT t a first begin_
      if r.1.kind = 7 then [r.1] else r.1 :: toksGo t n r.2 (decide (r.1.kind = 3)) (decide (r.1.kind = 3) || decide (r.1.kind = 1))
def toksM (t : List UInt8) : List Tok := toksGo t t.length 0 true true
structure Frame where
  kids : List RE
  sizes : List Nat
  group : Nat
  at_ : Nat
structure PS where
  top : Frame
  rest : List Frame
  groups : Nat
  shut : List Bool
  size : Nat
def Frame.put (f : Frame) (r : RE) (n : Nat) : Frame := { f with kids := f.kids ++ [r], sizes := f.sizes ++ [n] }
def growE (n : Nat) : Int := if 256 < n then 13 else 0
def timesM (lo : Nat) (hi : Int) : Nat := if hi < 0 then max lo 1 else hi.toNat
def takeM (p : PS) (k : Tok) : PS × Int :=
  match k.kind with
  | 0 => ({ p with top := p.top.put (.byte k.set) 1, size := p.size + 1 }, growE (p.size + 1))
  | 1 => ({ p with top := p.top.put .bol 0 }, 0)
  | 2 => ({ p with top := p.top.put .eol 0 }, 0)
  | 3 => if p.groups = 9 then (p, 4) else ({ p with top := ⟨[], [], p.groups + 1, k.at_⟩, rest := p.top :: p.rest, groups := p.groups + 1 }, 0)
  | 4 => match p.rest with
    | [] => (p, 10)
    | f :: r => ({ p with top := f.put (.group p.top.group (.cat p.top.kids)) p.top.sizes.sum, rest := r, shut := p.shut.set p.top.group true }, 0)
  | 5 =>
    let old := p.top.sizes.getLastD 0
    let f := { p.top with kids := p.top.kids.dropLast ++ [.rep k.lo.toNat k.hi (p.top.kids.getLastD .bol)], sizes := p.top.sizes.dropLast ++ [old * timesM k.lo.toNat k.hi] }
    ({ p with top := f, size := p.size - old + old * timesM k.lo.toNat k.hi }, growE (p.size - old + old * timesM k.lo.toNat k.hi))
  | 6 => if p.shut.getD k.lo.toNat false = true then ({ p with top := p.top.put (.back k.lo.toNat) 1, size := p.size + 1 }, growE (p.size + 1)) else (p, 11)
  | _ => (p, k.e)
structure Parsed where
  tree : RE
  e : Int
  at_ : Nat
def endM (p : PS) : Parsed := match p.rest with
  | [] => ⟨.cat p.top.kids, 0, 0⟩
  | _ => ⟨.cat [], 10, p.top.at_⟩
def parseGo : List Tok → PS → Parsed
  | [], p => endM p
  | k :: ks, p => if (takeM p k).2 ≠ 0 then ⟨.cat [], (takeM p k).2, k.at_⟩ else parseGo ks (takeM p k).1
def ps0 : PS := ⟨⟨[], [], 0, 0⟩, [], 0, List.replicate 10 false, 0⟩
def parseM (t : List UInt8) : Parsed := if 512 < t.length then ⟨.cat [], 2, 0⟩ else parseGo (toksM t) ps0
def Frame.tot (f : Frame) : Nat := f.sizes.sum
structure PS.Ok (p : PS) : Prop where
  len : ∀ f ∈ p.top :: p.rest, f.kids.length = f.sizes.length
  tot : p.size = p.top.tot + (p.rest.map Frame.tot).sum
  le : p.size ≤ 256
  shut : p.shut.length = 10
  groups : p.groups ≤ 9
  num : ∀ f ∈ p.top :: p.rest, f.group ≤ 9
theorem ps0_ok : ps0.Ok := ⟨by simp [ps0], by simp [ps0, Frame.tot], by simp [ps0], by simp [ps0], by simp [ps0], by simp [ps0]⟩
end Go.Proofs.Ytblpgpgbnlhjlaa
namespace Go.Proofs.Ytblpgpgbnlhjlaa.Sl
open Go Go.RowKit
set_option linter.unusedVariables false
set_option linter.unusedSimpArgs false
def putAt (cs : List Value) (off : Nat) (vs : List Value) : List Value := cs.take off ++ vs ++ cs.drop (off + vs.length)
theorem putAt_len (cs : List Value) (off : Nat) (vs : List Value) (h : off + vs.length ≤ cs.length) : (putAt cs off vs).length = cs.length := by
  simp only [putAt, List.length_append, List.length_take, List.length_drop]; omega
section n
variable {C : Cx} {all : Array Oper} {ops : List Oper} {Q : Qt} {E : Env} {H H' R : List HA} {d ty t g off e : Nat} {pos : String} {af : Array Edge} {gd : Option (Nat × Bool)} {x y z : Operand} {v u : Value}
theorem setRow_grown (w : World) (g : Nat) (cs : Array Value) : w.grownBy (w.setRow g cs) (some g) :=
  ⟨rfl, rfl, rfl, by simp [World.setRow], fun k hk hne => by
    have : k ≠ g := fun e => hne (by rw [e])
    simp [World.setRow, Array.getElem?_modify, Ne.symm this]⟩
theorem setRow_get {w : World} {g : Nat} {cs cur : Array Value} {e : Nat} (h : w.heap[g]? = some (.cells cur e (0, 0))) : (w.setRow g cs).heap[g]? = some (.cells cs e (0, 0)) := by
  have hlt := (Array.getElem?_eq_some_iff.1 h).1
  simp [World.setRow, Array.getElem?_modify, h]
theorem run_put {P : Program} {w : World} {cs : Array Value} {vs : List Value} (h : w.heap[g]? = some (.cells cs e (0, 0))) (hl : off + vs.length ≤ cs.size) (h1 : ∀ u ∈ vs, u.oneCell' = true) :
    (storeCells ⟨g, off, none⟩ vs).run P w = .ok () (w.setRow g (putAt cs.toList off vs).toArray) := by
  have := run_storeCells_at (P := P) g off e vs 0 cs w h (by omega) h1
  simpa [putAt] using this
theorem EL.storeBA {ti : TI} {cs : Array Value} {vs : List Value} (hg : guardOk all E gd = some true) (hx : E.ev x = some (Pv g off)) (hy : E.ev y = some (.agg vs.toArray)) (ht : C.T.f t = some ti) (hsz : ti.size = vs.length)
    (p : PickSet H (HA.blk g (.cells cs e (0, 0))) (HA.blk g (.cells (putAt cs.toList off vs).toArray e (0, 0))) H') (hl : off + vs.length ≤ cs.size) (h1 : ∀ u ∈ vs, u.oneCell' = true) (k : EL C all ops Q E H') : EL C all (⟨none, .store t x y, ty, pos, af, gd⟩ :: ops) Q E H :=
  EL.unit hg rfl (by simp) (fun a w ha => by
    have hT := ((C.T.ok t ti ht).runInfo w)
    obtain ⟨R, p1, p2⟩ := p.split
    have hs1 := ha.2.perm p1
    have hb : w.heap[g]? = some (.cells cs e (0, 0)) := hs1.head
    have hr := run_put (P := C.P) hb hl h1
    have hn : (w.setRow g (putAt cs.toList off vs).toArray).heap[g]? = some (.cells (putAt cs.toList off vs).toArray e (0, 0)) := setRow_get hb
    refine ⟨_, ?_, Sat.perm (hs1.turned (A' := HA.blk g (.cells (putAt cs.toList off vs).toArray e (0, 0))) (setRow_grown w g _) (fun k hk => by cases hk; simp [HA.blk]) hn (fun g' hg' => ?_) (by simp [HA.blk])) p2.symm⟩
    · simp [execOp, ha.1.ev hx, ha.1.ev hy, Instr.storeAt, Instr.sureAddr, storeVar, hT.1, hsz, Value.cells, hr, Result.andThen]
    · simp only [HA.blk, List.mem_singleton] at hg'
      subst hg'
      exact ⟨(Array.getElem?_eq_some_iff.1 hn).1, .inl (by simp [HA.blk])⟩) k
theorem ownsRow_put {w : World} {len cap n sz : Nat} {cs vs : List Value} (h : w.ownsRow 0 e sz (.slice (some ⟨g, 0, none⟩) len cap) n cs) (hl : off + vs.length ≤ cs.length) :
    ∃ cur : Array Value, w.heap[g]? = some (.cells cur e (0, 0)) ∧ off + vs.length ≤ cur.size ∧ (w.setRow g (putAt cur.toList off vs).toArray).ownsRow 0 e sz (.slice (some ⟨g, 0, none⟩) len cap) n (putAt cs off vs) := by
  obtain ⟨hl0, h2⟩ := h
  rcases h2 with ⟨h', _⟩ | ⟨g', cap', cur, hv, hb, hh, r1, r2, r3, r4⟩
  · cases h'
  · have hv' := hv
    simp only [Value.slice.injEq, Option.some.injEq, Addr.mk.injEq] at hv'
    obtain ⟨⟨rfl, _⟩, rfl, rfl⟩ := hv'
    have hc : cs.length ≤ cur.size := by rw [← r4, List.length_take]; simp only [Array.length_toList]; omega
    refine ⟨cur, hh, by omega, by rw [putAt_len _ _ _ hl]; exact hl0, .inr ⟨g, cap, _, rfl, hb, setRow_get hh, r1, r2, by simp only [List.size_toArray]; rw [putAt_len _ _ _ (by simp only [Array.length_toList]; omega)]; simpa using r3, ?_⟩⟩
    simp only [putAt]
    have e1 : cur.toList.take off = cs.take off := by rw [← r4, List.take_take]; congr 1; omega
    rw [e1, List.append_assoc, List.append_assoc, List.take_append, List.take_append, List.length_take]
    have e2 : (cs.take off).take (len * sz) = cs.take off := by rw [List.take_take]; congr 1; omega
    rw [e2, Nat.min_eq_left (show off ≤ cs.length by omega), List.take_of_length_le (show vs.length ≤ len * sz - off by omega)]
    congr 2
    rw [← r4, List.drop_take]
    congr 1
    omega
theorem EL.storeRA {ti : TI} {len cap n sz : Nat} {cs vs : List Value} (hg : guardOk all E gd = some true) (hx : E.ev x = some (Pv g off)) (hy : E.ev y = some (.agg vs.toArray)) (ht : C.T.f t = some ti) (hsz : ti.size = vs.length)
    (p : PickSet H (HA.row (.slice (some ⟨g, 0, none⟩) len cap) e sz n cs) (HA.row (.slice (some ⟨g, 0, none⟩) len cap) e sz n (putAt cs off vs)) H') (hl : off + vs.length ≤ cs.length) (h1 : ∀ u ∈ vs, u.oneCell' = true) (k : EL C all ops Q E H') : EL C all (⟨none, .store t x y, ty, pos, af, gd⟩ :: ops) Q E H :=
  EL.unit hg rfl (by simp) (fun a w ha => by
    have hT := ((C.T.ok t ti ht).runInfo w)
    obtain ⟨R, p1, p2⟩ := p.split
    have hs1 := ha.2.perm p1
    have hb : w.ownsRow 0 e sz (.slice (some ⟨g, 0, none⟩) len cap) n cs := hs1.head
    obtain ⟨cur, hh, hle, hn⟩ := ownsRow_put hb hl
    have hr := run_put (P := C.P) hh hle h1
    refine ⟨_, ?_, Sat.perm (hs1.turned (A' := HA.row (.slice (some ⟨g, 0, none⟩) len cap) e sz n (putAt cs off vs)) (setRow_grown w g _) (fun k hk => by cases hk; simp [HA.row, Value.ownBlock]) hn (fun g' hg' => ?_) (by simp [HA.row, Value.ownBlock])) p2.symm⟩
    · simp [execOp, ha.1.ev hx, ha.1.ev hy, Instr.storeAt, Instr.sureAddr, storeVar, hT.1, hsz, Value.cells, hr, Result.andThen]
    · simp only [HA.row, Value.ownBlock, Option.toList_some, List.mem_singleton] at hg'
      subst hg'
      exact ⟨(Array.getElem?_eq_some_iff.1 (setRow_get hh)).1, .inl (by simp [HA.row, Value.ownBlock])⟩) k
theorem RV.loadRA {ti : TI} {len cap n sz : Nat} {cs : List Value} (vs : List Value) (hx : E.ev x = some (Pv g off)) (ht : C.T.f t = some ti) (hu : ti.agg = true) (hsz : ti.size = vs.length) (hm : Mem H (HA.row (.slice (some ⟨g, 0, none⟩) len cap) e sz n cs)) (hv : (cs.drop off).take vs.length = vs) :
    RunV C E H ⟨some d, .load t x, ty, pos, af, gd⟩ (.agg vs.toArray) :=
  RV.loadAgg hx ht hu hsz (fun w hs j u hj => by
    rw [add_n]
    refine row_cell (hs.all _ hm.mem) _ _ ?_
    rw [← hv, List.getElem?_take] at hj
    split at hj
    · rwa [List.getElem?_drop] at hj
    · cases hj)
theorem RV.loadBA {ti : TI} {cs : Array Value} {fr : Nat × Nat} (vs : List Value) (hx : E.ev x = some (Pv g off)) (ht : C.T.f t = some ti) (hu : ti.agg = true) (hsz : ti.size = vs.length) (hm : Mem H (HA.blk g (.cells cs e fr))) (hv : (cs.toList.drop off).take vs.length = vs) :
    RunV C E H ⟨some d, .load t x, ty, pos, af, gd⟩ (.agg vs.toArray) :=
  RV.loadAgg hx ht hu hsz (fun w hs j u hj => by
    rw [add_n, blk_cell (hs.all _ hm.mem)]
    rw [← hv, List.getElem?_take] at hj
    split at hj
    · rw [List.getElem?_drop] at hj; simpa using hj
    · cases hj)
theorem RV.sliceHi {ti te : TI} {el hi n cap : Nat} {ad : Option Addr} {kd : IntKind} (hx : E.ev x = some (.slice ad n cap)) (hy : E.ev y = some (.int kd (hi : Nat))) (ht : C.T.f t = some ti) (hu : ti.u = .slice el) (hte : C.T.f el = some te) (hhi : hi ≤ cap) :
    RunV C E H ⟨some d, .slice t x none (some y) none, ty, pos, af, gd⟩ (.slice ad hi cap) := fun a w ha => by
  have hT := (C.T.ok t ti ht).u
  rw [hu] at hT
  have hI := (C.T.ok el te hte).runInfo w
  cases ad with
  | none => simp [execOp, ha.1.ev hx, ha.1.ev hy, Instr.sliceAt, Instr.slice, Instr.sliceBounds, Instr.sliceBound, asIntOf, run_underlying hT, hI.1, Result.andThen, hhi]
  | some ad => simp [execOp, ha.1.ev hx, ha.1.ev hy, Instr.sliceAt, Instr.slice, Instr.sliceBounds, Instr.sliceBound, asIntOf, run_underlying hT, hI.1, Result.andThen, hhi, Addr.add]
theorem ownsRow_cut {w : World} {ad : Option Addr} {len cap n sz m : Nat} {cs : List Value} (h : w.ownsRow 0 e sz (.slice ad len cap) n cs) (hm : m ≤ n) : w.ownsRow 0 e sz (.slice ad m cap) m (cs.take (m * sz)) := by
  obtain ⟨hl, h2⟩ := h
  have hmn : m * sz ≤ n * sz := Nat.mul_le_mul_right _ hm
  refine ⟨by rw [List.length_take]; omega, ?_⟩
  rcases h2 with ⟨h', h0⟩ | ⟨g', cap', cur, hv, hb, hh, r1, r2, r3, r4⟩
  · simp only [Value.slice.injEq] at h'
    obtain ⟨rfl, rfl, rfl⟩ := h'
    obtain rfl : m = 0 := by omega
    exact .inl ⟨rfl, rfl⟩
  · simp only [Value.slice.injEq] at hv
    obtain ⟨rfl, rfl, rfl⟩ := hv
    refine .inr ⟨g', cap, cur, rfl, hb, hh, by omega, r2, r3, ?_⟩
    rw [← r4, List.take_take, Nat.min_eq_left hmn]
theorem Sat.cutRow {w0 w : World} {B : Nat} {ad : Option Addr} {len cap n sz m : Nat} {cs : List Value} (h : Sat w0 B (HA.row (.slice ad len cap) e sz n cs :: R) w) (hm : m ≤ n) : Sat w0 B (HA.row (.slice ad m cap) e sz m (cs.take (m * sz)) :: R) w := by
  have hf : (HA.row (.slice ad m cap) e sz m (cs.take (m * sz))).fp = (HA.row (.slice ad len cap) e sz n cs).fp := by
    simp only [HA.row]
    cases ad <;> rfl
  refine ⟨h.below, h.base, by have := h.nodup; rw [fps_cons] at this ⊢; rw [hf]; exact this, fun g hg => h.lo g (by rw [fps_cons] at hg ⊢; rw [← hf]; exact hg), fun X hX => ?_⟩
  rcases List.mem_cons.1 hX with rfl | hX
  · have h1 : w.ownsRow 0 e sz (.slice ad len cap) n cs := h.head
    exact ownsRow_cut h1 hm
  · exact h.all X (by simp [hX])
end n
end Go.Proofs.Ytblpgpgbnlhjlaa.Sl
namespace Go.Proofs.Ytblpgpgbnlhjlaa
open Go Go.RowKit Sl
set_option maxRecDepth 100000
set_option maxHeartbeats 8000000
set_option linter.unusedVariables false
set_option linter.unusedSimpArgs false
attribute [local irreducible] ES EL PX wps
def reCells (r : RE) (kv : Value) : List Value := [Iv (r.kind : Nat), Wv r.set.a, Wv r.set.b, Wv r.set.c, Wv r.set.d, Iv (r.lo : Nat), Iv r.hi, Iv (r.num : Nat), kv]
def Reads (S : Nat → Prop) (w : World) (ad : Option Addr) (cs : List Value) : Prop :=
  cs ≠ [] → ∃ g off, ad = some ⟨g, off, none⟩ ∧ S g ∧ ∃ ca ta, w.heap[g]? = some (.cells ca ta (0, 0)) ∧ ∀ j v, cs[j]? = some v → ca[off + j]? = some v
theorem Reads.nil {S : Nat → Prop} {w : World} {ad : Option Addr} : Reads S w ad [] := fun h => absurd rfl h
theorem Reads.mono {S S' : Nat → Prop} {w : World} {ad : Option Addr} {cs : List Value} (h : Reads S w ad cs) (hs : ∀ g, S g → S' g) : Reads S' w ad cs := fun hne => by
  obtain ⟨g, off, h1, h2, h3⟩ := h hne
  exact ⟨g, off, h1, hs g h2, h3⟩
theorem Reads.loc {S : Nat → Prop} {w w' : World} {ad : Option Addr} {cs : List Value} (h : Reads S w ad cs) (hl : ∀ g, S g → w'.heap[g]? = w.heap[g]?) : Reads S w' ad cs := fun hne => by
  obtain ⟨g, off, h1, h2, ca, ta, h3, h4⟩ := h hne
  exact ⟨g, off, h1, h2, ca, ta, by rw [hl g h2]; exact h3, h4⟩
theorem Reads.cell {S : Nat → Prop} {w : World} {g off : Nat} {cs : List Value} (h : Reads S w (some ⟨g, off, none⟩) cs) (j : Nat) (v : Value) (hj : cs[j]? = some v) : w.cell? ⟨g, off + j, none⟩ = some v := by
  obtain ⟨g', off', h1, _, ca, ta, h3, h4⟩ := h (fun e => by subst e; simp at hj)
  simp only [Option.some.injEq, Addr.mk.injEq] at h1
  obtain ⟨rfl, rfl, _⟩ := h1
  simp only [World.cell?, h3]
  exact h4 j v hj
theorem Reads.rd {w : World} {B : Nat} {ad : Option Addr} {cs : List Value} (h : Reads (· < B) w ad cs) : Rd w B ad cs := fun hne => by
  obtain ⟨g, off, h1, h2, ca, ta, h3, h4⟩ := h hne
  exact ⟨g, off, h1, h2, fun j v hj => by simp only [World.cell?, h3]; exact h4 j v hj⟩
theorem row_reads {w : World} {e sz g n cap : Nat} {cs : List Value} (h : w.ownsRow 0 e sz (.slice (some ⟨g, 0, none⟩) n cap) n cs) : ∃ ca ta, w.heap[g]? = some (.cells ca ta (0, 0)) ∧ ∀ j v, cs[j]? = some v → ca[0 + j]? = some v := by
  obtain ⟨_, (⟨h', _⟩ | ⟨g', cap', cur, hv, _, hh, _, _, _, ht⟩)⟩ := h
  · cases h'
  · simp only [Value.slice.injEq, Option.some.injEq, Addr.mk.injEq] at hv
    obtain ⟨⟨rfl, _⟩, _, _⟩ := hv
    refine ⟨cur, e, hh, fun j v hj => ?_⟩
    rw [← ht] at hj
    rw [Nat.zero_add]
    rw [List.getElem?_take] at hj
    split at hj
    · simpa using hj
    · cases hj
inductive Forest (S : Nat → Prop) (w : World) : List RE → List Value → Prop
  | nil : Forest S w [] []
  | cons (r : RE) (ks : List RE) (ad : Option Addr) (cap : Nat) (cs0 cs : List Value) (hc : r.kids.length ≤ cap) (h0 : Forest S w r.kids cs0) (hr : Reads S w ad cs0) (h : Forest S w ks cs) : Forest S w (r :: ks) (reCells r (.slice ad r.kids.length cap) ++ cs)
theorem Forest.len {S : Nat → Prop} {w : World} {ks : List RE} {cs : List Value} (h : Forest S w ks cs) : cs.length = ks.length * 9 := by
  induction h with
  | nil => rfl
  | cons r ks ad cap cs0 cs hc h0 hr h ih0 ih => simp only [List.length_append, ih, List.length_cons, reCells, List.length_nil]; omega
theorem Forest.mono {S S' : Nat → Prop} {w : World} {ks : List RE} {cs : List Value} (h : Forest S w ks cs) (hs : ∀ g, S g → S' g) : Forest S' w ks cs := by
  induction h with
  | nil => exact .nil
  | cons r ks ad cap cs0 cs hc h0 hr h ih0 ih => exact .cons r ks ad cap cs0 cs hc ih0 (hr.mono hs) ih
theorem Forest.loc {S : Nat → Prop} {w w' : World} {ks : List RE} {cs : List Value} (h : Forest S w ks cs) (hl : ∀ g, S g → w'.heap[g]? = w.heap[g]?) : Forest S w' ks cs := by
  induction h with
  | nil => exact .nil
  | cons r ks ad cap cs0 cs hc h0 hr h ih0 ih => exact .cons r ks ad cap cs0 cs hc ih0 (hr.loc hl) ih
theorem Forest.append {S : Nat → Prop} {w : World} {ks ks' : List RE} {cs cs' : List Value} (h : Forest S w ks cs) (h' : Forest S w ks' cs') : Forest S w (ks ++ ks') (cs ++ cs') := by
  induction h with
  | nil => exact h'
  | cons r ks ad cap cs0 cs hc h0 hr h ih0 ih => rw [List.append_assoc]; exact .cons r _ ad cap cs0 _ hc h0 hr ih
theorem Forest.one {S : Nat → Prop} {w : World} (r : RE) (ad : Option Addr) (cap : Nat) (cs0 : List Value) (hc : r.kids.length ≤ cap) (h0 : Forest S w r.kids cs0) (hr : Reads S w ad cs0) : Forest S w [r] (reCells r (.slice ad r.kids.length cap)) := by
  have := Forest.cons r [] ad cap cs0 [] hc h0 hr .nil
  simpa using this
theorem Forest.leaf {S : Nat → Prop} {w : World} (r : RE) (h : r.kids = []) : Forest S w [r] (reCells r (.slice none 0 0)) := by
  have := Forest.one (S := S) (w := w) r none 0 [] (by rw [h]; exact Nat.le_refl _) (by rw [h]; exact .nil) Reads.nil
  rw [h] at this; exact this
theorem drop9 (c cs : List Value) (h : c.length = 9) (i : Nat) : (c ++ cs).drop ((i + 1) * 9) = cs.drop (i * 9) := by
  rw [List.drop_append, List.drop_of_length_le (by omega), List.nil_append]
  congr 1; omega
theorem take9 (c cs : List Value) (h : c.length = 9) (i : Nat) : (c ++ cs).take ((i + 1) * 9) = c ++ cs.take (i * 9) := by
  rw [List.take_append, List.take_of_length_le (by omega)]
  congr 2; omega
theorem Forest.get {S : Nat → Prop} {w : World} {ks : List RE} {cs : List Value} (h : Forest S w ks cs) : ∀ (i : Nat) (r : RE), ks[i]? = some r → ∃ ad cap cs0, (cs.drop (i * 9)).take 9 = reCells r (.slice ad r.kids.length cap) ∧ Forest S w r.kids cs0 ∧ Reads S w ad cs0 ∧ r.kids.length ≤ cap := by
  induction h with
  | nil => intro i r hi; simp at hi
  | cons r ks ad cap cs0 cs hc h0 hr h ih0 ih =>
    intro i r' hi
    cases i with
    | zero =>
      simp only [List.getElem?_cons_zero, Option.some.injEq] at hi
      subst hi
      exact ⟨ad, cap, cs0, by simp [reCells], h0, hr, hc⟩
    | succ i =>
      simp only [List.getElem?_cons_succ] at hi
      obtain ⟨ad', cap', cs1, h1, h2, h3⟩ := ih i r' hi
      refine ⟨ad', cap', cs1, ?_, h2, h3⟩
      rw [drop9 _ _ rfl]
      exact h1
theorem Forest.drop {S : Nat → Prop} {w : World} {ks : List RE} {cs : List Value} (h : Forest S w ks cs) : ∀ i, Forest S w (ks.drop i) (cs.drop (i * 9)) := by
  induction h with
  | nil => intro i; simp; exact .nil
  | cons r ks ad cap cs0 cs hc h0 hr h ih0 ih =>
    intro i
    cases i with
    | zero => simp only [List.drop_zero, Nat.zero_mul]; exact .cons r ks ad cap cs0 cs hc h0 hr h
    | succ i =>
      rw [drop9 _ _ rfl]
      exact ih i
theorem Forest.take {S : Nat → Prop} {w : World} {ks : List RE} {cs : List Value} (h : Forest S w ks cs) : ∀ i, Forest S w (ks.take i) (cs.take (i * 9)) := by
  induction h with
  | nil => intro i; simp; exact .nil
  | cons r ks ad cap cs0 cs hc h0 hr h ih0 ih =>
    intro i
    cases i with
    | zero => simp only [List.take_zero, Nat.zero_mul]; exact .nil
    | succ i =>
      rw [take9 _ _ rfl]
      exact Forest.cons r _ ad cap cs0 _ hc h0 hr (ih i)
def HA.forest (fp : List Nat) (ks : List RE) (cs : List Value) : HA := ⟨fp, fun w => Forest (· ∈ fp) w ks cs, fun w w' h hw => hw.loc (fun g hg => h g hg)⟩
theorem Sat.rule {w0 w : World} {B : Nat} {Hs R : List HA} {A : HA} (h : Sat w0 B (Hs ++ R) w) (hf : (fps Hs).Perm A.fp) (hA : (∀ X ∈ Hs, X.holds w) → A.holds w) : Sat w0 B (A :: R) w := by
  have hp : (fps (Hs ++ R)).Perm (fps (A :: R)) := by rw [fps_append, fps_cons]; exact hf.append_right _
  refine ⟨h.below, h.base, hp.nodup_iff.1 h.nodup, fun g hg => h.lo g (hp.mem_iff.2 hg), fun X hX => ?_⟩
  rcases List.mem_cons.1 hX with rfl | hX
  · exact hA (fun Y hY => h.all Y (by simp [hY]))
  · exact h.all X (by simp [hX])
theorem Sat.forest0 {w0 w : World} {B : Nat} {H : List HA} (h : Sat w0 B H w) (ks : List RE) (cs : List Value) (hf : ∀ S w, Forest S w ks cs) : Sat w0 B (HA.forest [] ks cs :: H) w :=
  Sat.rule (Hs := []) h (by simp only [fps, List.flatMap_cons, List.flatMap_nil, HA.forest, HA.row, List.append_nil]; exact List.Perm.refl _) (fun _ => hf _ _)
theorem Sat.forestApp {w0 w : World} {B : Nat} {R : List HA} {fp fp' : List Nat} {ks ks' : List RE} {cs cs' : List Value} (h : Sat w0 B (HA.forest fp ks cs :: HA.forest fp' ks' cs' :: R) w) : Sat w0 B (HA.forest (fp ++ fp') (ks ++ ks') (cs ++ cs') :: R) w :=
  Sat.rule (Hs := [HA.forest fp ks cs, HA.forest fp' ks' cs']) h (by simp only [fps, List.flatMap_cons, List.flatMap_nil, HA.forest, HA.row, List.append_nil]; exact List.Perm.refl _) (fun hh => by
    have h1 : Forest (· ∈ fp) w ks cs := hh (HA.forest fp ks cs) (by simp)
    have h2 : Forest (· ∈ fp') w ks' cs' := hh (HA.forest fp' ks' cs') (by simp)
    exact (h1.mono (fun g hg => by simp [hg])).append (h2.mono (fun g hg => by simp [hg])))
theorem Sat.seal {w0 w : World} {B : Nat} {R : List HA} {fp : List Nat} {ks : List RE} {cs : List Value} {ad : Option Addr} {n cap e : Nat} (r : RE) (hr : r.kids = ks) (h : Sat w0 B (HA.row (.slice ad n cap) e 9 ks.length cs :: HA.forest fp ks cs :: R) w) :
    Sat w0 B (HA.forest ((Value.slice ad n cap).ownBlock.toList ++ fp) [r] (reCells r (.slice ad ks.length cap)) :: R) w :=
  Sat.rule (Hs := [HA.row (.slice ad n cap) e 9 ks.length cs, HA.forest fp ks cs]) h (by simp only [fps, List.flatMap_cons, List.flatMap_nil, HA.forest, HA.row, List.append_nil]; exact List.Perm.refl _) (fun hh => by
    have h1 : w.ownsRow 0 e 9 (.slice ad n cap) ks.length cs := hh (HA.row (.slice ad n cap) e 9 ks.length cs) (by simp)
    have h2 : Forest (· ∈ fp) w ks cs := hh (HA.forest fp ks cs) (by simp)
    subst hr
    refine Forest.one r ad cap cs (row_form h1).2.1 (h2.mono (fun g hg => by simp [hg])) (fun hne => ?_)
    obtain ⟨hl2, _, _, hl, hform⟩ := row_form h1
    obtain ⟨g, rfl⟩ := hform (by
      rcases Nat.eq_zero_or_pos r.kids.length with h0 | h0
      · rw [h0] at hl; exact absurd (List.eq_nil_of_length_eq_zero (by omega)) hne
      · exact h0)
    exact ⟨g, 0, rfl, by simp [Value.ownBlock], row_reads (by obtain rfl := hl2; exact h1)⟩)
theorem Sat.forestEq {w0 w : World} {B : Nat} {R : List HA} {fp : List Nat} {ks ks' : List RE} {cs cs' : List Value} (h : Sat w0 B (HA.forest fp ks cs :: R) w) (hf : ∀ S w, Forest S w ks cs → Forest S w ks' cs') : Sat w0 B (HA.forest fp ks' cs' :: R) w :=
  Sat.rule (Hs := [HA.forest fp ks cs]) h (by simp only [fps, List.flatMap_cons, List.flatMap_nil, HA.forest, HA.row, List.append_nil]; exact List.Perm.refl _) (fun hh => hf _ _ (hh (HA.forest fp ks cs) (by simp)))
abbrev ForestRd (w : World) (B : Nat) (ks : List RE) (cs : List Value) : Prop := Forest (· < B) w ks cs
theorem Forest.sat {w0 w : World} {B : Nat} {H : List HA} {fp : List Nat} {ks : List RE} {cs : List Value} (hs : Sat w0 B H w) (hm : Mem H (HA.forest fp ks cs)) : ForestRd w w.heap.size ks cs := by
  have h : Forest (· ∈ fp) w ks cs := hs.all _ hm.mem
  exact h.mono (fun g hg => (hs.lo g (List.mem_flatMap.2 ⟨_, hm.mem, hg⟩)).2)
theorem Forest.beneath {w0 w : World} {B B' : Nat} {ks : List RE} {cs : List Value} (h : ForestRd w0 B ks cs) (hb : Below B w0 w) (hB : B ≤ B') : ForestRd w B' ks cs :=
  (h.loc (fun g hg => hb.block g hg)).mono (fun g hg => Nat.lt_of_lt_of_le hg hB)
end Go.Proofs.Ytblpgpgbnlhjlaa
namespace Go.Proofs.Ytblpgpgbnlhjlaa
open Go Go.RowKit Sl
set_option maxRecDepth 100000
set_option maxHeartbeats 8000000
set_option linter.unusedVariables false
set_option linter.unusedSimpArgs false
attribute [local irreducible] ES EL PX wps
theorem isDig_int (b : UInt8) : isDig b = (decide (48 ≤ (b.toNat : Int)) && decide ((b.toNat : Int) ≤ 57)) := by
  unfold isDig
  rw [Bool.eq_iff_iff]
  simp only [decide_eq_true_eq, Bool.and_eq_true]
  omega
theorem numGo_le (t : List UInt8) : ∀ (k n a : Nat), n ≤ 256 → a + k ≤ t.length → (numGo t k n a).1 ≤ 256 ∧ a ≤ (numGo t k n a).2 ∧ (numGo t k n a).2 ≤ a + k
  | 0, n, a, hn, _ => ⟨hn, Nat.le_refl _, Nat.le_refl _⟩
  | k + 1, n, a, hn, ha => by
    rw [numGo]
    split
    · have := numGo_le t k (min (10 * n + ((t.getD a 0).toNat - 48)) 256) (a + 1) (by omega) (by omega)
      omega
    · exact ⟨hn, Nat.le_refl _, by simp only; omega⟩
theorem numM_le (t : List UInt8) (a : Nat) (h : a ≤ t.length) : -1 ≤ (numM t a).1 ∧ (numM t a).1 ≤ 256 ∧ a ≤ (numM t a).2 ∧ (numM t a).2 ≤ t.length := by
  have := numGo_le t (t.length - a) 0 a (by omega) (by omega)
  unfold numM
  dsimp only
  split <;> omega
theorem number_c (t : List UInt8) (a : Nat) (ha : a ≤ t.length) (ht : t.length ≤ 1073741824) (w : World) : Pure Try.prog 112 #[Sv t, Iv (a : Nat)] (fun _ : Unit => .tuple #[Iv (numM t a).1, Iv ((numM t a).2 : Nat)]) (fun _ => []) w := by
  refine calls_of_ES TB Try.func112 rfl _ Try.ntmps112 rfl (Sat.start w) ?_
  refine .go ?_; repeat constructor
  refine EL.assign rfl rfl rfl ?_
  refine EL.assign rfl rfl rfl ?_
  refine .go ?_; repeat constructor
  refine EL.move rfl rfl rfl ?_
  refine EL.assign rfl rfl rfl ?_
  refine EL.assign rfl rfl rfl ?_
  refine .go ?_; repeat constructor
  obtain ⟨res, hres⟩ : ∃ res, res = numGo t (t.length - a) 0 a := ⟨_, rfl⟩
  have hm : numM t a = (if res.2 = a then -1 else (res.1 : Int), res.2) := by rw [hres]; rfl
  rw [hm]
  refine ES.loop (σ := Nat × Nat) (fun (n, c) => n ≤ 256 ∧ a ≤ c ∧ c ≤ t.length ∧ numGo t (t.length - c) n c = res) (fun (n, c) => [(0, Sv t), (1, Iv (c : Nat)), (6, Iv (n : Nat)), (7, Iv (a : Nat))]) (fun _ => []) (fun (n, c) => t.length - c) (0, a) ⟨by omega, Nat.le_refl _, ha, hres.symm⟩ ⟨rfl, rfl, rfl, rfl, trivial⟩ (.i (by repeat constructor)) ?_
  rintro ⟨n, c⟩ ⟨hn, hac, hc, hgo⟩
  dsimp only at hn hac hc hgo ⊢
  refine .go ?_; repeat constructor
  refine EL.cutX (X := Unit) (fun _ => [(0, Sv t), (1, Iv (c : Nat)), (6, Iv (n : Nat)), (7, Iv (a : Nat)), (24, .bool (decide ((c : Int) < (t.length : Int)) && isDig (t.getD c 0)))]) (fun _ => []) ?_ (fun _ => ?_)
  · refine .go ?_; repeat constructor
    refine EL.move rfl rfl rfl ?_
    refine EL.move rfl rfl rfl ?_
    refine EL.lenS rfl rfl rfl rfl rfl ?_
    refine EL.lss rfl rfl rfl rfl ?_
    refine EL.move rfl rfl rfl ?_
    first | refine EL.splitD (d := 13) rfl (fun hp13 => ?_) (fun hp13 => ?_) | refine EL.splitN (d := 13) rfl (fun hp13 => ?_) (fun hp13 => ?_) | refine EL.splitB (d := 13) rfl (fun hp13 => ?_) (fun hp13 => ?_)
    · refine EL.move rfl rfl rfl ?_
      refine EL.move rfl rfl rfl ?_
      refine EL.indexSN rfl rfl rfl rfl rfl rfl (by omega) ?_
      refine EL.geq rfl rfl rfl rfl ?_
      refine EL.pickT rfl rfl rfl rfl ?_
      refine EL.move rfl rfl rfl ?_
      first | refine EL.splitD (d := 19) rfl (fun hp19 => ?_) (fun hp19 => ?_) | refine EL.splitN (d := 19) rfl (fun hp19 => ?_) (fun hp19 => ?_) | refine EL.splitB (d := 19) rfl (fun hp19 => ?_) (fun hp19 => ?_)
      · refine EL.move rfl rfl rfl ?_
        refine EL.move rfl rfl rfl ?_
        refine EL.indexSN rfl rfl rfl rfl rfl rfl (by omega) ?_
        refine EL.leq rfl rfl rfl rfl ?_
        refine EL.pickT rfl rfl rfl rfl ?_
        exact EL.endX () ⟨rfl, rfl, rfl, rfl, getA rfl (congrArg Value.bool (by rw [isDig_int]; simp_all <;> omega)), trivial⟩ (.i (by repeat constructor))
      · refine EL.pass rfl rfl rfl ?_
        refine EL.pass rfl rfl rfl ?_
        refine EL.pass rfl rfl rfl ?_
        refine EL.pass rfl rfl rfl ?_
        refine EL.pickF rfl rfl rfl rfl ?_
        exact EL.endX () ⟨rfl, rfl, rfl, rfl, getA rfl (congrArg Value.bool (by rw [isDig_int]; simp_all <;> omega)), trivial⟩ (.i (by repeat constructor))
    · refine EL.pass rfl rfl rfl ?_
      refine EL.pass rfl rfl rfl ?_
      refine EL.pass rfl rfl rfl ?_
      refine EL.pass rfl rfl rfl ?_
      refine EL.pickF rfl rfl rfl rfl ?_
      refine EL.move rfl rfl rfl ?_
      refine EL.pass rfl rfl rfl ?_
      refine EL.pass rfl rfl rfl ?_
      refine EL.pass rfl rfl rfl ?_
      refine EL.pass rfl rfl rfl ?_
      refine EL.pickF rfl rfl rfl rfl ?_
      exact EL.endX () ⟨rfl, rfl, rfl, rfl, getA rfl (congrArg Value.bool (by rw [isDig_int]; simp_all <;> omega)), trivial⟩ (.i (by repeat constructor))
  refine ES.cond rfl (fun hd => ?_) (fun hd => ?_)
  · rw [Bool.and_eq_true, decide_eq_true_eq] at hd
    have hlt : c < t.length := by omega
    have hdig := hd.2
    have hb : 48 ≤ (t.getD c 0).toNat ∧ (t.getD c 0).toNat ≤ 57 := by unfold isDig at hdig; exact of_decide_eq_true hdig
    obtain ⟨k, hk⟩ : ∃ k, t.length - c = k + 1 := ⟨t.length - c - 1, by omega⟩
    rw [hk, numGo, if_pos ⟨hlt, hd.2⟩] at hgo
    refine .go ?_; repeat constructor
    refine EL.move rfl rfl rfl ?_
    refine EL.mulN (m := 10) rfl rfl rfl rfl rfl (by omega) ?_
    refine EL.move rfl rfl rfl ?_
    refine EL.move rfl rfl rfl ?_
    refine EL.indexSN rfl rfl rfl rfl rfl rfl (by omega) ?_
    refine EL.ofRV (RV.subK (n := 48) rfl rfl (by omega) (by simp only [kmax]; omega)) rfl rfl rfl (by intro c h; cases h) ?_
    refine EL.convN rfl rfl rfl rfl rfl rfl (by simp only [kmax]; omega) ?_
    refine EL.addN rfl rfl rfl rfl rfl (by omega) ?_
    refine EL.ofRV (RV.minI rfl rfl) rfl rfl rfl (by intro c h; cases h) ?_
    refine EL.assign rfl rfl rfl ?_
    refine .go ?_; repeat constructor
    refine EL.move rfl rfl rfl ?_
    refine EL.add1 rfl rfl rfl rfl (by omega) ?_
    refine EL.assign rfl rfl rfl ?_
    refine .go ?_; repeat constructor
    refine PX.loop (min (10 * n + ((t.getD c 0).toNat - 48)) 256, c + 1) ⟨by simp only; omega, by simp only; omega, by simp only; omega, by simp only; rw [show t.length - (c + 1) = k by omega]; exact hgo⟩ (by simp only; omega) ⟨rfl, rfl, getA rfl (congrArg Iv (by omega)), rfl, trivial⟩ (.i (by repeat constructor))
  · have hr : res = (n, c) := by
      rw [← hgo]
      cases hk : t.length - c with
      | zero => rfl
      | succ k =>
        rw [numGo, if_neg]
        rintro ⟨h1, h2⟩
        rw [h2, decide_eq_true (by omega)] at hd
        cases hd
    rw [hr]
    refine .go ?_; repeat constructor
    refine EL.move rfl rfl rfl ?_
    refine EL.move rfl rfl rfl ?_
    refine EL.eqlI rfl rfl rfl rfl ?_
    refine .go ?_; repeat constructor
    refine ES.cutC (X := Unit) (fun _ => [(1, Iv (c : Nat)), (6, Iv (if c = a then -1 else (n : Int)))]) (fun _ => []) ?_ (fun _ => ?_)
    · refine ES.condD rfl (fun he => ?_) (fun hne => ?_)
      · refine .go ?_; repeat constructor
        refine EL.assign rfl rfl rfl ?_
        refine .go ?_; repeat constructor
        exact PX.cutX () ⟨rfl, getA rfl (congrArg Iv (by rw [if_pos (by omega)])), trivial⟩ (.i (by repeat constructor))
      · refine .go ?_; repeat constructor
        exact PX.cutX () ⟨rfl, getA rfl (congrArg Iv (by rw [if_neg (by omega)])), trivial⟩ (.i (by repeat constructor))
    refine .go ?_; repeat constructor
    refine EL.move rfl rfl rfl ?_
    refine EL.move rfl rfl rfl ?_
    refine EL.assign rfl rfl rfl ?_
    refine EL.assign rfl rfl rfl ?_
    refine .go ?_; repeat constructor
    exact PX.ret rfl Try.results112 (.cons (.tmp rfl) (.cons (.tmp rfl) .nil)) (fun w hs => ⟨(), rfl, hs.ent (.i (by repeat constructor))⟩)
def ivV (o : Option (Nat × Int × Nat)) : Value := match o with
  | none => .tuple #[Iv 0, Iv 0, Iv 0, .bool false]
  | some (lo, hi, n) => .tuple #[Iv (lo : Nat), Iv hi, Iv (n : Nat), .bool true]
theorem iv_le {t : List UInt8} {a lo n : Nat} {hi : Int} (h : ivM t a = some (lo, hi, n)) : lo ≤ 255 ∧ -1 ≤ hi ∧ hi ≤ 255 ∧ (0 ≤ hi → (lo : Int) ≤ hi) ∧ a < n ∧ n ≤ t.length := by
  have hbeyond : t.length < a → numM t a = (-1, a) := fun h => by
    unfold numM
    rw [show t.length - a = 0 by omega]
    simp [numGo]
  have h1 := numM_le t a
  unfold ivM at h
  dsimp only at h
  obtain ⟨h2, hh⟩ : ∃ h2, h2 = (if (numM t a).2 < t.length ∧ t.getD (numM t a).2 0 = 44 then numM t ((numM t a).2 + 1) else numM t a) := ⟨_, rfl⟩
  rw [← hh] at h
  generalize hl : numM t a = l at h h1 hh hbeyond
  by_cases hb : l.1 < 0 ∨ 255 < l.1 ∨ 255 < h2.1 ∨ (0 ≤ h2.1 ∧ h2.1 < l.1)
  · rw [if_pos hb] at h; cases h
  rw [if_neg hb] at h
  by_cases hb2 : t.length < h2.2 + 2 ∨ (t.drop h2.2).take 2 ≠ [92, 125]
  · rw [if_pos hb2] at h; cases h
  rw [if_neg hb2] at h
  simp only [Option.some.injEq, Prod.mk.injEq] at h
  obtain ⟨rfl, rfl, rfl⟩ := h
  simp only [not_or, Nat.not_lt] at hb hb2
  have ha : a ≤ t.length := by
    rcases Nat.lt_or_ge t.length a with h3 | h3
    · have := hbeyond h3
      subst this
      simp only at hb
      omega
    · exact h3
  have h4 := h1 ha
  have h5 : -1 ≤ h2.1 ∧ a ≤ h2.2 := by
    rw [hh]
    split
    · have := numM_le t (l.2 + 1) (by omega); omega
    · omega
  omega
theorem interval_c (t : List UInt8) (a : Nat) (ha : a ≤ t.length) (ht : t.length ≤ 1073741824) (w : World) : Pure Try.prog 107 #[Sv t, Iv (a : Nat)] (fun _ : Unit => ivV (ivM t a)) (fun _ => []) w := by
  have hl := numM_le t a ha
  have hnc := number_c t a ha ht
  have hiv : ivM t a = (let l := numM t a
    let h := if l.2 < t.length ∧ t.getD l.2 0 = 44 then numM t (l.2 + 1) else l
    if l.1 < 0 ∨ 255 < l.1 ∨ 255 < h.1 ∨ (0 ≤ h.1 ∧ h.1 < l.1) then none
    else if t.length < h.2 + 2 ∨ (t.drop h.2).take 2 ≠ [92, 125] then none
    else some (l.1.toNat, h.1, h.2 + 2)) := rfl
  dsimp only at hiv
  generalize numM t a = l at hl hnc hiv
  obtain ⟨l1, l2⟩ := l
  dsimp only at hl hnc hiv
  have h44 : (((t.getD l2 0).toNat : Int) = 44) ↔ t.getD l2 0 = 44 := u8_lit (t.getD l2 0) 44 (by omega)
  refine calls_of_ES TB Try.func107 rfl _ Try.ntmps107 rfl (Sat.start w) ?_
  refine .go ?_; repeat constructor
  refine EL.assign rfl rfl rfl ?_
  refine EL.assign rfl rfl rfl ?_
  refine EL.assign rfl rfl rfl ?_
  refine EL.assign rfl rfl rfl ?_
  refine .go ?_; repeat constructor
  refine EL.move rfl rfl rfl ?_
  refine EL.move rfl rfl rfl ?_
  refine EL.callP rfl rfl rfl ent112 rfl hnc ?_
  refine EL.move rfl rfl rfl ?_
  refine EL.extract rfl rfl rfl rfl ?_
  refine EL.extract rfl rfl rfl rfl ?_
  refine EL.assign rfl rfl rfl ?_
  refine EL.assign rfl rfl rfl ?_
  refine .go ?_; repeat constructor
  refine EL.move rfl rfl rfl ?_
  refine EL.assign rfl rfl rfl ?_
  refine .go ?_; repeat constructor
  refine EL.cutX (X := Unit) (fun _ => [(0, Sv t), (1, Iv (l2 : Nat)), (4, Iv l1), (5, Iv l1), (24, .bool (decide (l2 < t.length ∧ t.getD l2 0 = 44)))]) (fun _ => []) ?_ (fun _ => ?_)
  · refine .go ?_; repeat constructor
    refine EL.move rfl rfl rfl ?_
    refine EL.move rfl rfl rfl ?_
    refine EL.lenS rfl rfl rfl rfl rfl ?_
    refine EL.lss rfl rfl rfl rfl ?_
    refine EL.move rfl rfl rfl ?_
    first | refine EL.splitD (d := 19) rfl (fun hp19 => ?_) (fun hp19 => ?_) | refine EL.splitN (d := 19) rfl (fun hp19 => ?_) (fun hp19 => ?_) | refine EL.splitB (d := 19) rfl (fun hp19 => ?_) (fun hp19 => ?_)
    · refine EL.move rfl rfl rfl ?_
      refine EL.move rfl rfl rfl ?_
      refine EL.indexSN rfl rfl rfl rfl rfl rfl (by omega) ?_
      refine EL.eqlI rfl rfl rfl rfl ?_
      refine EL.pickT rfl rfl rfl rfl ?_
      exact EL.endX () ⟨rfl, rfl, rfl, rfl, getA rfl (congrArg Value.bool (by rw [Bool.eq_iff_iff]; simp only [decide_eq_true_eq, ← h44]; first | omega | (simp only [Bool.false_eq_true, false_iff]; omega))), trivial⟩ (.i (by repeat constructor))
    · refine EL.pass rfl rfl rfl ?_
      refine EL.pass rfl rfl rfl ?_
      refine EL.pass rfl rfl rfl ?_
      refine EL.pass rfl rfl rfl ?_
      refine EL.pickF rfl rfl rfl rfl ?_
      exact EL.endX () ⟨rfl, rfl, rfl, rfl, getA rfl (congrArg Value.bool (by rw [Bool.eq_iff_iff]; simp only [decide_eq_true_eq, ← h44]; first | omega | (simp only [Bool.false_eq_true, false_iff]; omega))), trivial⟩ (.i (by repeat constructor))
  obtain ⟨h, hh⟩ : ∃ h, h = (if l2 < t.length ∧ t.getD l2 0 = 44 then numM t (l2 + 1) else (l1, l2)) := ⟨_, rfl⟩
  rw [← hh] at hiv
  have hle : -1 ≤ h.1 ∧ h.1 ≤ 256 ∧ h.2 ≤ t.length := by
    rw [hh]
    split
    · have := numM_le t (l2 + 1) (by omega); omega
    · omega
  refine ES.cutC (X := Unit) (fun _ => [(0, Sv t), (1, Iv (h.2 : Nat)), (4, Iv l1), (5, Iv h.1)]) (fun _ => []) ?_ (fun _ => ?_)
  · refine ES.condD rfl (fun hc => ?_) (fun hc => ?_)
    · rw [if_pos hc] at hh
      subst hh
      have hnc2 := number_c t (l2 + 1) (by omega) ht
      refine .go ?_; repeat constructor
      refine EL.move rfl rfl rfl ?_
      refine EL.move rfl rfl rfl ?_
      refine EL.add1 rfl rfl rfl rfl (by omega) ?_
      refine EL.callP rfl rfl rfl ent112 rfl hnc2 ?_
      refine EL.move rfl rfl rfl ?_
      refine EL.extract rfl rfl rfl rfl ?_
      refine EL.extract rfl rfl rfl rfl ?_
      refine EL.assign rfl rfl rfl ?_
      refine EL.assign rfl rfl rfl ?_
      refine .go ?_; repeat constructor
      exact PX.cutX () ⟨rfl, rfl, rfl, rfl, trivial⟩ (.i (by repeat constructor))
    · rw [if_neg hc] at hh
      subst hh
      refine .go ?_; repeat constructor
      exact PX.cutX () ⟨rfl, rfl, rfl, rfl, trivial⟩ (.i (by repeat constructor))
  obtain ⟨h1, h2⟩ := h
  dsimp only at hiv hle ⊢
  refine .go ?_; repeat constructor
  refine EL.cutX (X := Unit) (fun _ => [(0, Sv t), (1, Iv (h2 : Nat)), (4, Iv l1), (5, Iv h1), (50, .bool (decide (l1 < 0 ∨ 255 < l1 ∨ 255 < h1 ∨ (0 ≤ h1 ∧ h1 < l1))))]) (fun _ => []) ?_ (fun _ => ?_)
  · refine .go ?_; repeat constructor
    refine EL.move rfl rfl rfl ?_
    refine EL.lss rfl rfl rfl rfl ?_
    refine EL.move rfl rfl rfl ?_
    first | refine EL.splitD (d := 34) rfl (fun hp34 => ?_) (fun hp34 => ?_) | refine EL.splitN (d := 34) rfl (fun hp34 => ?_) (fun hp34 => ?_) | refine EL.splitB (d := 34) rfl (fun hp34 => ?_) (fun hp34 => ?_)
    · refine EL.pass rfl rfl rfl ?_
      refine EL.pass rfl rfl rfl ?_
      refine EL.pickT rfl rfl rfl rfl ?_
      refine EL.move rfl rfl rfl ?_
      refine EL.pass rfl rfl rfl ?_
      refine EL.pass rfl rfl rfl ?_
      refine EL.pickT rfl rfl rfl rfl ?_
      refine EL.move rfl rfl rfl ?_
      refine EL.pass rfl rfl rfl ?_
      refine EL.pass rfl rfl rfl ?_
      refine EL.pass rfl rfl rfl ?_
      refine EL.pass rfl rfl rfl ?_
      refine EL.pass rfl rfl rfl ?_
      refine EL.pass rfl rfl rfl ?_
      refine EL.pass rfl rfl rfl ?_
      refine EL.pickT rfl rfl rfl rfl ?_
      exact EL.endX () ⟨rfl, rfl, rfl, rfl, getA rfl (congrArg Value.bool (by rw [Bool.eq_iff_iff]; simp only [decide_eq_true_eq, true_iff, Bool.false_eq_true, false_iff]; omega)), trivial⟩ (.i (by repeat constructor))
    · refine EL.move rfl rfl rfl ?_
      refine EL.gtr rfl rfl rfl rfl ?_
      refine EL.pickF rfl rfl rfl rfl ?_
      refine EL.move rfl rfl rfl ?_
      first | refine EL.splitD (d := 38) rfl (fun hp38 => ?_) (fun hp38 => ?_) | refine EL.splitN (d := 38) rfl (fun hp38 => ?_) (fun hp38 => ?_) | refine EL.splitB (d := 38) rfl (fun hp38 => ?_) (fun hp38 => ?_)
      · refine EL.pass rfl rfl rfl ?_
        refine EL.pass rfl rfl rfl ?_
        refine EL.pickT rfl rfl rfl rfl ?_
        refine EL.move rfl rfl rfl ?_
        refine EL.pass rfl rfl rfl ?_
        refine EL.pass rfl rfl rfl ?_
        refine EL.pass rfl rfl rfl ?_
        refine EL.pass rfl rfl rfl ?_
        refine EL.pass rfl rfl rfl ?_
        refine EL.pass rfl rfl rfl ?_
        refine EL.pass rfl rfl rfl ?_
        refine EL.pickT rfl rfl rfl rfl ?_
        exact EL.endX () ⟨rfl, rfl, rfl, rfl, getA rfl (congrArg Value.bool (by rw [Bool.eq_iff_iff]; simp only [decide_eq_true_eq, true_iff, Bool.false_eq_true, false_iff]; omega)), trivial⟩ (.i (by repeat constructor))
      · refine EL.move rfl rfl rfl ?_
        refine EL.gtr rfl rfl rfl rfl ?_
        refine EL.pickF rfl rfl rfl rfl ?_
        refine EL.move rfl rfl rfl ?_
        first | refine EL.splitD (d := 42) rfl (fun hp42 => ?_) (fun hp42 => ?_) | refine EL.splitN (d := 42) rfl (fun hp42 => ?_) (fun hp42 => ?_) | refine EL.splitB (d := 42) rfl (fun hp42 => ?_) (fun hp42 => ?_)
        · refine EL.pass rfl rfl rfl ?_
          refine EL.pass rfl rfl rfl ?_
          refine EL.pass rfl rfl rfl ?_
          refine EL.pass rfl rfl rfl ?_
          refine EL.pass rfl rfl rfl ?_
          refine EL.pass rfl rfl rfl ?_
          refine EL.pass rfl rfl rfl ?_
          refine EL.pickT rfl rfl rfl rfl ?_
          exact EL.endX () ⟨rfl, rfl, rfl, rfl, getA rfl (congrArg Value.bool (by rw [Bool.eq_iff_iff]; simp only [decide_eq_true_eq, true_iff, Bool.false_eq_true, false_iff]; omega)), trivial⟩ (.i (by repeat constructor))
        · refine EL.move rfl rfl rfl ?_
          refine EL.geq rfl rfl rfl rfl ?_
          refine EL.move rfl rfl rfl ?_
          first | refine EL.splitD (d := 45) rfl (fun hp45 => ?_) (fun hp45 => ?_) | refine EL.splitN (d := 45) rfl (fun hp45 => ?_) (fun hp45 => ?_) | refine EL.splitB (d := 45) rfl (fun hp45 => ?_) (fun hp45 => ?_)
          · refine EL.move rfl rfl rfl ?_
            refine EL.move rfl rfl rfl ?_
            refine EL.lss rfl rfl rfl rfl ?_
            refine EL.pickT rfl rfl rfl rfl ?_
            refine EL.pickF rfl rfl rfl rfl ?_
            exact EL.endX () ⟨rfl, rfl, rfl, rfl, getA rfl (congrArg Value.bool (by rw [Bool.eq_iff_iff]; simp only [decide_eq_true_eq, true_iff, Bool.false_eq_true, false_iff]; omega)), trivial⟩ (.i (by repeat constructor))
          · refine EL.pass rfl rfl rfl ?_
            refine EL.pass rfl rfl rfl ?_
            refine EL.pass rfl rfl rfl ?_
            refine EL.pickF rfl rfl rfl rfl ?_
            refine EL.pickF rfl rfl rfl rfl ?_
            exact EL.endX () ⟨rfl, rfl, rfl, rfl, getA rfl (congrArg Value.bool (by rw [Bool.eq_iff_iff]; simp only [decide_eq_true_eq, true_iff, Bool.false_eq_true, false_iff]; omega)), trivial⟩ (.i (by repeat constructor))
  refine ES.condD rfl (fun hc => ?_) (fun hc => ?_)
  · rw [if_pos hc] at hiv
    rw [hiv]
    refine .go ?_; repeat constructor
    refine EL.assign rfl rfl rfl ?_
    refine EL.assign rfl rfl rfl ?_
    refine EL.assign rfl rfl rfl ?_
    refine EL.assign rfl rfl rfl ?_
    refine .go ?_; repeat constructor
    exact PX.ret rfl Try.results107 (.cons (.tmp rfl) (.cons (.tmp rfl) (.cons (.tmp rfl) (.cons (.tmp rfl) .nil)))) (fun w hs => ⟨(), rfl, hs.ent (.i (by repeat constructor))⟩)
  rw [if_neg hc] at hiv
  refine .go ?_; repeat constructor
  refine EL.cutX (X := Unit) (fun _ => [(0, Sv t), (1, Iv (h2 : Nat)), (4, Iv l1), (5, Iv h1), (63, .bool (decide (t.length < h2 + 2 ∨ (t.drop h2).take 2 ≠ [92, 125])))]) (fun _ => []) ?_ (fun _ => ?_)
  · refine .go ?_; repeat constructor
    refine EL.move rfl rfl rfl ?_
    refine EL.addN (n := 2) rfl rfl rfl rfl rfl (by omega) ?_
    refine EL.move rfl rfl rfl ?_
    refine EL.lenS rfl rfl rfl rfl rfl ?_
    refine EL.gtr rfl rfl rfl rfl ?_
    refine EL.move rfl rfl rfl ?_
    first | refine EL.splitD (d := 56) rfl (fun hp56 => ?_) (fun hp56 => ?_) | refine EL.splitN (d := 56) rfl (fun hp56 => ?_) (fun hp56 => ?_) | refine EL.splitB (d := 56) rfl (fun hp56 => ?_) (fun hp56 => ?_)
    · refine EL.pass rfl rfl rfl ?_
      refine EL.pass rfl rfl rfl ?_
      refine EL.pass rfl rfl rfl ?_
      refine EL.pass rfl rfl rfl ?_
      refine EL.pass rfl rfl rfl ?_
      refine EL.pass rfl rfl rfl ?_
      refine EL.pickT rfl rfl rfl rfl ?_
      exact EL.endX () ⟨rfl, rfl, rfl, rfl, getA rfl (congrArg Value.bool (by rw [Bool.eq_iff_iff]; simp only [decide_eq_true_eq, true_iff, Bool.not_eq_true', decide_eq_false_iff_not]; first | exact .inl (by omega) | exact ⟨fun hx => .inr (by rw [show h2 + 2 - h2 = 2 by omega] at hx; exact hx), fun hx => hx.elim (fun h => absurd h (by omega)) (fun h => by rw [show h2 + 2 - h2 = 2 by omega]; exact h)⟩)), trivial⟩ (.i (by repeat constructor))
    · refine EL.move rfl rfl rfl ?_
      refine EL.move rfl rfl rfl ?_
      refine EL.move rfl rfl rfl ?_
      refine EL.addN (n := 2) rfl rfl rfl rfl rfl (by omega) ?_
      refine EL.sliceS rfl rfl rfl rfl rfl ⟨_, rfl⟩ ⟨_, rfl⟩ (by omega) (by omega) ?_
      refine EL.neqS rfl rfl rfl rfl ?_
      refine EL.pickF rfl rfl rfl rfl ?_
      exact EL.endX () ⟨rfl, rfl, rfl, rfl, getA rfl (congrArg Value.bool (by rw [Bool.eq_iff_iff]; simp only [decide_eq_true_eq, true_iff, Bool.not_eq_true', decide_eq_false_iff_not]; first | exact .inl (by omega) | exact ⟨fun hx => .inr (by rw [show h2 + 2 - h2 = 2 by omega] at hx; exact hx), fun hx => hx.elim (fun h => absurd h (by omega)) (fun h => by rw [show h2 + 2 - h2 = 2 by omega]; exact h)⟩)), trivial⟩ (.i (by repeat constructor))
  refine ES.condD rfl (fun hc2 => ?_) (fun hc2 => ?_)
  · rw [if_pos hc2] at hiv
    rw [hiv]
    refine .go ?_; repeat constructor
    refine EL.assign rfl rfl rfl ?_
    refine EL.assign rfl rfl rfl ?_
    refine EL.assign rfl rfl rfl ?_
    refine EL.assign rfl rfl rfl ?_
    refine .go ?_; repeat constructor
    exact PX.ret rfl Try.results107 (.cons (.tmp rfl) (.cons (.tmp rfl) (.cons (.tmp rfl) (.cons (.tmp rfl) .nil)))) (fun w hs => ⟨(), rfl, hs.ent (.i (by repeat constructor))⟩)
  · rw [if_neg hc2] at hiv
    rw [hiv]
    have hl1 : ((l1.toNat : Nat) : Int) = l1 := by omega
    refine .go ?_; repeat constructor
    refine EL.move rfl rfl rfl ?_
    refine EL.move rfl rfl rfl ?_
    refine EL.move rfl rfl rfl ?_
    refine EL.addN (n := 2) rfl rfl rfl rfl rfl (by omega) ?_
    refine EL.assign rfl rfl rfl ?_
    refine EL.assign rfl rfl rfl ?_
    refine EL.assign rfl rfl rfl ?_
    refine EL.assign rfl rfl rfl ?_
    refine .go ?_; repeat constructor
    refine PX.ret rfl Try.results107 (.cons (.tmp rfl) (.cons (.tmp rfl) (.cons (.tmp rfl) (.cons (.tmp rfl) .nil)))) (fun w hs => ⟨(), ?_, hs.ent (.i (by repeat constructor))⟩)
    simp only [ivV, hl1]
    rfl
theorem alnum_c (b : UInt8) (w : World) : Pure Try.prog 108 #[Uv b] (fun _ : Unit => .bool (isAln b)) (fun _ => []) w := by
  have hd := isDig_int b
  refine calls_of_ES TB Try.func108 rfl _ Try.ntmps108 rfl (Sat.start w) ?_
  refine .go ?_; repeat constructor
  refine EL.assign rfl rfl rfl ?_
  refine .go ?_; repeat constructor
  refine EL.cutX (X := Unit) (fun _ => [(2, .bool (isAln b))]) (fun _ => []) ?_ (fun _ => ?_)
  · refine .go ?_; repeat constructor
    refine EL.move rfl rfl rfl ?_
    refine EL.geq rfl rfl rfl rfl ?_
    refine EL.move rfl rfl rfl ?_
    first | refine EL.splitD (d := 5) rfl (fun hp5 => ?_) (fun hp5 => ?_) | refine EL.splitN (d := 5) rfl (fun hp5 => ?_) (fun hp5 => ?_) | refine EL.splitB (d := 5) rfl (fun hp5 => ?_) (fun hp5 => ?_)
    · refine EL.move rfl rfl rfl ?_
      refine EL.leq rfl rfl rfl rfl ?_
      refine EL.pickT rfl rfl rfl rfl ?_
      refine EL.move rfl rfl rfl ?_
      first | refine EL.splitD (d := 9) rfl (fun hp9 => ?_) (fun hp9 => ?_) | refine EL.splitN (d := 9) rfl (fun hp9 => ?_) (fun hp9 => ?_) | refine EL.splitB (d := 9) rfl (fun hp9 => ?_) (fun hp9 => ?_)
      · refine EL.pass rfl rfl rfl ?_
        refine EL.pass rfl rfl rfl ?_
        refine EL.pass rfl rfl rfl ?_
        refine EL.pass rfl rfl rfl ?_
        refine EL.pass rfl rfl rfl ?_
        refine EL.pass rfl rfl rfl ?_
        refine EL.pass rfl rfl rfl ?_
        refine EL.pass rfl rfl rfl ?_
        refine EL.pickT rfl rfl rfl rfl ?_
        refine EL.assign rfl rfl rfl ?_
        exact EL.endX () ⟨getA rfl (congrArg Value.bool (by unfold isAln; rw [hd, Bool.eq_iff_iff]; simp only [decide_eq_true_eq, true_iff, Bool.false_eq_true, false_iff, Bool.or_eq_true, Bool.and_eq_true, not_or, not_and]; omega)), trivial⟩ (.i (by repeat constructor))
      · refine EL.move rfl rfl rfl ?_
        refine EL.orU8 32 rfl rfl rfl rfl rfl ?_
        refine EL.geq rfl rfl rfl rfl ?_
        refine EL.move rfl rfl rfl ?_
        first | refine EL.splitD (d := 13) rfl (fun hp13 => ?_) (fun hp13 => ?_) | refine EL.splitN (d := 13) rfl (fun hp13 => ?_) (fun hp13 => ?_) | refine EL.splitB (d := 13) rfl (fun hp13 => ?_) (fun hp13 => ?_)
        · refine EL.move rfl rfl rfl ?_
          refine EL.orU8 32 rfl rfl rfl rfl rfl ?_
          refine EL.leq rfl rfl rfl rfl ?_
          refine EL.pickT rfl rfl rfl rfl ?_
          refine EL.pickF rfl rfl rfl rfl ?_
          refine EL.assign rfl rfl rfl ?_
          exact EL.endX () ⟨getA rfl (congrArg Value.bool (by unfold isAln; rw [hd, Bool.eq_iff_iff]; simp only [decide_eq_true_eq, true_iff, Bool.false_eq_true, false_iff, Bool.or_eq_true, Bool.and_eq_true, not_or, not_and]; omega)), trivial⟩ (.i (by repeat constructor))
        · refine EL.pass rfl rfl rfl ?_
          refine EL.pass rfl rfl rfl ?_
          refine EL.pass rfl rfl rfl ?_
          refine EL.pickF rfl rfl rfl rfl ?_
          refine EL.pickF rfl rfl rfl rfl ?_
          refine EL.assign rfl rfl rfl ?_
          exact EL.endX () ⟨getA rfl (congrArg Value.bool (by unfold isAln; rw [hd, Bool.eq_iff_iff]; simp only [decide_eq_true_eq, true_iff, Bool.false_eq_true, false_iff, Bool.or_eq_true, Bool.and_eq_true, not_or, not_and]; omega)), trivial⟩ (.i (by repeat constructor))
    · refine EL.pass rfl rfl rfl ?_
      refine EL.pass rfl rfl rfl ?_
      refine EL.pickF rfl rfl rfl rfl ?_
      refine EL.move rfl rfl rfl ?_
      refine EL.move rfl rfl rfl ?_
      refine EL.orU8 32 rfl rfl rfl rfl rfl ?_
      refine EL.geq rfl rfl rfl rfl ?_
      refine EL.move rfl rfl rfl ?_
      first | refine EL.splitD (d := 13) rfl (fun hp13 => ?_) (fun hp13 => ?_) | refine EL.splitN (d := 13) rfl (fun hp13 => ?_) (fun hp13 => ?_) | refine EL.splitB (d := 13) rfl (fun hp13 => ?_) (fun hp13 => ?_)
      · refine EL.move rfl rfl rfl ?_
        refine EL.orU8 32 rfl rfl rfl rfl rfl ?_
        refine EL.leq rfl rfl rfl rfl ?_
        refine EL.pickT rfl rfl rfl rfl ?_
        refine EL.pickF rfl rfl rfl rfl ?_
        refine EL.assign rfl rfl rfl ?_
        exact EL.endX () ⟨getA rfl (congrArg Value.bool (by unfold isAln; rw [hd, Bool.eq_iff_iff]; simp only [decide_eq_true_eq, true_iff, Bool.false_eq_true, false_iff, Bool.or_eq_true, Bool.and_eq_true, not_or, not_and]; omega)), trivial⟩ (.i (by repeat constructor))
      · refine EL.pass rfl rfl rfl ?_
        refine EL.pass rfl rfl rfl ?_
        refine EL.pass rfl rfl rfl ?_
        refine EL.pickF rfl rfl rfl rfl ?_
        refine EL.pickF rfl rfl rfl rfl ?_
        refine EL.assign rfl rfl rfl ?_
        exact EL.endX () ⟨getA rfl (congrArg Value.bool (by unfold isAln; rw [hd, Bool.eq_iff_iff]; simp only [decide_eq_true_eq, true_iff, Bool.false_eq_true, false_iff, Bool.or_eq_true, Bool.and_eq_true, not_or, not_and]; omega)), trivial⟩ (.i (by repeat constructor))
  refine .go ?_; repeat constructor
  exact PX.ret rfl Try.results108 (.cons (.tmp rfl) .nil) (fun w hs => ⟨(), rfl, hs.ent (.i (by repeat constructor))⟩)
def tokCells (k : Tok) : Array Value := #[Iv (k.kind : Nat), Iv (k.at_ : Nat), Wv k.set.a, Wv k.set.b, Wv k.set.c, Wv k.set.d, Iv k.lo, Iv k.hi, Iv k.e]
abbrev tokV (k : Tok) : Value := .agg (tokCells k)
theorem bad_c (a : Nat) (e : Int) (w : World) : Pure Try.prog 100 #[Iv (a : Nat), Iv e] (fun _ : Unit => tokV (badT a e)) (fun _ => []) w := by
  refine calls_of_ES TB Try.func100 rfl _ Try.ntmps100 rfl (Sat.start w) ?_
  refine .go ?_; repeat constructor
  (refine EL.alloc rfl rfl rfl ?_; intro g4)
  refine .go ?_; repeat constructor
  refine EL.move rfl rfl rfl ?_
  refine EL.move rfl rfl rfl ?_
  refine EL.buildS (tokCells (badT a e)) rfl rfl rfl rfl rfl rfl rfl ?_
  (apply EL.storeAll; exact rfl; exact rfl; exact rfl; exact rfl; exact rfl; (case p => repeat constructor); exact rfl; (case h1 => exact (by first | rfl | exact all1 rfl | (intro u hu; simp only [List.mem_cons, List.not_mem_nil, or_false] at hu; rcases hu with rfl | rfl | rfl | rfl <;> rfl) | (intro u hu; simp at hu; rcases hu with rfl | rfl | rfl | rfl <;> rfl) | (intro u hu; simp at hu; rcases hu with rfl | rfl | rfl <;> rfl) | (intro u hu; simp at hu; rcases hu with rfl | rfl <;> rfl) | (intro u hu; simp at hu; obtain ⟨_, _, rfl⟩ := hu; rfl))))
  refine .go ?_; repeat constructor
  exact PX.ret rfl Try.results100 (.cons (.blkA rfl rfl rfl (by repeat constructor) rfl) .nil) (fun w hs => ⟨(), rfl, hs.ent (.i (by repeat constructor))⟩)
theorem one_c (a : Nat) (b : UInt8) (w : World) : Pure Try.prog 101 #[Iv (a : Nat), Uv b] (fun _ : Unit => tokV (oneT a b)) (fun _ => []) w := by
  refine calls_of_ES TB Try.func101 rfl _ Try.ntmps101 rfl (Sat.start w) ?_
  refine .go ?_; repeat constructor
  (refine EL.alloc rfl rfl rfl ?_; intro g4)
  refine .go ?_; repeat constructor
  refine EL.move rfl rfl rfl ?_
  refine EL.move rfl rfl rfl ?_
  (refine EL.buildSlice1 rfl rfl rfl rfl rfl rfl rfl rfl rfl rfl ?_; intro b7)
  refine EL.bytesS (bs := [b]) rfl rfl rfl rfl rfl rfl rfl rfl rfl (by repeat constructor) ?_
  refine EL.callP rfl rfl rfl ent111 rfl (of_c [b] (by simp)) ?_
  refine EL.buildS (tokCells (oneT a b)) rfl rfl rfl rfl rfl rfl rfl ?_
  (apply EL.storeAll; exact rfl; exact rfl; exact rfl; exact rfl; exact rfl; (case p => repeat constructor); exact rfl; (case h1 => exact (by first | rfl | exact all1 rfl | (intro u hu; simp only [List.mem_cons, List.not_mem_nil, or_false] at hu; rcases hu with rfl | rfl | rfl | rfl <;> rfl) | (intro u hu; simp at hu; rcases hu with rfl | rfl | rfl | rfl <;> rfl) | (intro u hu; simp at hu; rcases hu with rfl | rfl | rfl <;> rfl) | (intro u hu; simp at hu; rcases hu with rfl | rfl <;> rfl) | (intro u hu; simp at hu; obtain ⟨_, _, rfl⟩ := hu; rfl))))
  refine .go ?_; repeat constructor
  exact PX.ret rfl Try.results101 (.cons (.blkA rfl rfl rfl (by repeat constructor) rfl) .nil) (fun w hs => ⟨(), rfl, hs.ent (.i (by repeat constructor))⟩)
end Go.Proofs.Ytblpgpgbnlhjlaa
namespace Go.Proofs.Ytblpgpgbnlhjlaa
open Go Go.RowKit Sl
set_option maxRecDepth 100000
set_option maxHeartbeats 8000000
set_option linter.unusedVariables false
set_option linter.unusedSimpArgs false
attribute [local irreducible] ES EL PX wps
theorem escT_at (t : List UInt8) (a : Nat) (b : Bool) (ha : a < t.length) : (escT t a b).1.kind ≠ 7 → a < (escT t a b).2 ∧ (escT t a b).2 ≤ t.length := by
  unfold escT
  dsimp only
  split
  · intro h; exact absurd rfl h
  repeat' split
  all_goals (intro h; first | exact absurd rfl h | (simp only; omega) | skip)
  rename_i lo hi n h2 h3
  have := iv_le h2
  simp only; omega
theorem readT_at (t : List UInt8) (a : Nat) (f b : Bool) (ha : a < t.length) : (readT t a f b).1.kind ≠ 7 → a < (readT t a f b).2 ∧ (readT t a f b).2 ≤ t.length := by
  unfold readT
  dsimp only
  split
  · exact escT_at t a b ha
  · split
    · split
      · intro h; exact absurd rfl h
      · rename_i h1
        intro _
        have := brack_next t a (by simpa using h1)
        simp only; omega
    · repeat' split
      all_goals (intro _; simp only; omega)
theorem escaped_c (t : List UInt8) (a : Nat) (bg : Bool) (ha : a < t.length) (ht : t.length ≤ 1073741824) (w : World) :
    Pure Try.prog 98 #[Sv t, Iv (a : Nat), .bool bg] (fun _ : Unit => .tuple #[tokV (escT t a bg).1, Iv ((escT t a bg).2 : Nat)]) (fun _ => []) w := by
  have hesc : escT t a bg = (if a + 1 = t.length then (badT a 6, a)
    else
      let b := t.getD (a + 1) 0
      if b.toNat = 40 then (⟨3, a, zeroS, 0, 0, 0⟩, a + 2)
      else if b.toNat = 41 then (⟨4, a, zeroS, 0, 0, 0⟩, a + 2)
      else if b.toNat = 123 then
        match ivM t (a + 2) with
        | none => (badT a 9, a)
        | some (lo, hi, n) => if bg = true then (badT a 9, a) else (⟨5, a, zeroS, (lo : Int), hi, 0⟩, n)
      else if b.toNat = 125 then (badT a 9, a)
      else if b.toNat = 110 then (oneT a 10, a + 2)
      else if 49 ≤ b.toNat ∧ b.toNat ≤ 57 then (⟨6, a, zeroS, ((b.toNat - 48 : Nat) : Int), 0, 0⟩, a + 2)
      else if isAln b = true then (badT a 12, a)
      else (oneT a b, a + 2)) := rfl
  obtain ⟨b, hb⟩ : ∃ b, b = t.getD (a + 1) 0 := ⟨_, rfl⟩
  have hb8 := b.toNat_lt
  rw [← hb] at hesc
  dsimp only at hesc
  generalize escT t a bg = r at hesc ⊢
  refine calls_of_ES TB Try.func98 rfl _ Try.ntmps98 rfl (Sat.start w) ?_
  refine .go ?_; repeat constructor
  (refine EL.alloc rfl rfl rfl ?_; intro g6)
  refine EL.assign rfl rfl rfl ?_
  refine .go ?_; repeat constructor
  refine EL.move rfl rfl rfl ?_
  refine EL.add1 rfl rfl rfl rfl (by omega) ?_
  refine EL.move rfl rfl rfl ?_
  refine EL.lenS rfl rfl rfl rfl rfl ?_
  refine EL.eqlI rfl rfl rfl rfl ?_
  refine .go ?_; repeat constructor
  refine ES.condD rfl (fun he => ?_) (fun hne => ?_)
  · rw [if_pos (by omega)] at hesc
    subst hesc
    refine .go ?_; repeat constructor
    refine EL.move rfl rfl rfl ?_
    refine EL.callP rfl rfl rfl ent100 rfl (bad_c a 6) ?_
    refine EL.move rfl rfl rfl ?_
    (apply EL.storeAll; exact rfl; exact rfl; exact rfl; exact rfl; exact rfl; (case p => repeat constructor); exact rfl; (case h1 => exact (by first | rfl | exact all1 rfl | (intro u hu; simp only [List.mem_cons, List.not_mem_nil, or_false] at hu; rcases hu with rfl | rfl | rfl | rfl <;> rfl) | (intro u hu; simp at hu; rcases hu with rfl | rfl | rfl | rfl <;> rfl) | (intro u hu; simp at hu; rcases hu with rfl | rfl | rfl <;> rfl) | (intro u hu; simp at hu; rcases hu with rfl | rfl <;> rfl) | (intro u hu; simp at hu; obtain ⟨_, _, rfl⟩ := hu; rfl))))
    refine EL.assign rfl rfl rfl ?_
    refine .go ?_; repeat constructor
    exact PX.ret rfl Try.results98 (.cons (.blkA rfl rfl rfl (by repeat constructor) rfl) (.cons (.tmp rfl) .nil)) (fun w hs => ⟨(), rfl, hs.ent (.i (by repeat constructor))⟩)
  rw [if_neg (by omega)] at hesc
  have hlt : a + 1 < t.length := by omega
  refine .go ?_; repeat constructor
  refine EL.move rfl rfl rfl ?_
  refine EL.move rfl rfl rfl ?_
  refine EL.add1 rfl rfl rfl rfl (by omega) ?_
  refine EL.indexSN rfl rfl rfl rfl rfl rfl (by omega) ?_
  refine EL.rew (d := 24) (v' := Uv b) rfl (by rw [hb]) ?_
  refine EL.assign rfl rfl rfl ?_
  refine .go ?_; repeat constructor
  refine .go ?_; repeat constructor
  refine EL.move rfl rfl rfl ?_
  refine EL.eqlI rfl rfl rfl rfl ?_
  refine EL.assign rfl rfl rfl ?_
  refine .go ?_; repeat constructor
  refine ES.condD rfl (fun h1 => ?_) (fun h1 => ?_)
  · rw [if_pos (by omega)] at hesc
    subst hesc
    refine .go ?_; repeat constructor
    refine EL.move rfl rfl rfl ?_
    refine EL.buildS (tokCells ⟨3, a, zeroS, 0, 0, 0⟩) rfl rfl rfl rfl rfl rfl rfl ?_
    refine EL.move rfl rfl rfl ?_
    refine EL.addN (n := 2) rfl rfl rfl rfl rfl (by omega) ?_
    (apply EL.storeAll; exact rfl; exact rfl; exact rfl; exact rfl; exact rfl; (case p => repeat constructor); exact rfl; (case h1 => exact (by first | rfl | exact all1 rfl | (intro u hu; simp only [List.mem_cons, List.not_mem_nil, or_false] at hu; rcases hu with rfl | rfl | rfl | rfl <;> rfl) | (intro u hu; simp at hu; rcases hu with rfl | rfl | rfl | rfl <;> rfl) | (intro u hu; simp at hu; rcases hu with rfl | rfl | rfl <;> rfl) | (intro u hu; simp at hu; rcases hu with rfl | rfl <;> rfl) | (intro u hu; simp at hu; obtain ⟨_, _, rfl⟩ := hu; rfl))))
    refine EL.assign rfl rfl rfl ?_
    refine .go ?_; repeat constructor
    exact PX.ret rfl Try.results98 (.cons (.blkA rfl rfl rfl (by repeat constructor) rfl) (.cons (.tmp rfl) .nil)) (fun w hs => ⟨(), rfl, hs.ent (.i (by repeat constructor))⟩)
  rw [if_neg (by omega)] at hesc
  refine .go ?_; repeat constructor
  refine EL.move rfl rfl rfl ?_
  refine EL.eqlI rfl rfl rfl rfl ?_
  refine EL.assign rfl rfl rfl ?_
  refine .go ?_; repeat constructor
  refine ES.condD rfl (fun h2 => ?_) (fun h2 => ?_)
  · rw [if_pos (by omega)] at hesc
    subst hesc
    refine .go ?_; repeat constructor
    refine EL.move rfl rfl rfl ?_
    refine EL.buildS (tokCells ⟨4, a, zeroS, 0, 0, 0⟩) rfl rfl rfl rfl rfl rfl rfl ?_
    refine EL.move rfl rfl rfl ?_
    refine EL.addN (n := 2) rfl rfl rfl rfl rfl (by omega) ?_
    (apply EL.storeAll; exact rfl; exact rfl; exact rfl; exact rfl; exact rfl; (case p => repeat constructor); exact rfl; (case h1 => exact (by first | rfl | exact all1 rfl | (intro u hu; simp only [List.mem_cons, List.not_mem_nil, or_false] at hu; rcases hu with rfl | rfl | rfl | rfl <;> rfl) | (intro u hu; simp at hu; rcases hu with rfl | rfl | rfl | rfl <;> rfl) | (intro u hu; simp at hu; rcases hu with rfl | rfl | rfl <;> rfl) | (intro u hu; simp at hu; rcases hu with rfl | rfl <;> rfl) | (intro u hu; simp at hu; obtain ⟨_, _, rfl⟩ := hu; rfl))))
    refine EL.assign rfl rfl rfl ?_
    refine .go ?_; repeat constructor
    exact PX.ret rfl Try.results98 (.cons (.blkA rfl rfl rfl (by repeat constructor) rfl) (.cons (.tmp rfl) .nil)) (fun w hs => ⟨(), rfl, hs.ent (.i (by repeat constructor))⟩)
  rw [if_neg (by omega)] at hesc
  refine .go ?_; repeat constructor
  refine EL.move rfl rfl rfl ?_
  refine EL.eqlI rfl rfl rfl rfl ?_
  refine EL.assign rfl rfl rfl ?_
  refine .go ?_; repeat constructor
  refine ES.condD rfl (fun h3 => ?_) (fun h3 => ?_)
  · rw [if_pos (by omega)] at hesc
    have hic := interval_c t (a + 2) (by omega) ht
    cases hiv : ivM t (a + 2) with
    | none =>
      rw [hiv] at hesc hic
      dsimp only at hesc
      subst hesc
      refine .go ?_; repeat constructor
      refine EL.move rfl rfl rfl ?_
      refine EL.move rfl rfl rfl ?_
      refine EL.addN (n := 2) rfl rfl rfl rfl rfl (by omega) ?_
      refine EL.callP rfl rfl rfl ent107 rfl hic ?_
      refine EL.move rfl rfl rfl ?_
      refine EL.extract rfl rfl rfl rfl ?_
      refine EL.extract rfl rfl rfl rfl ?_
      refine EL.extract rfl rfl rfl rfl ?_
      refine EL.extract rfl rfl rfl rfl ?_
      refine EL.assign rfl rfl rfl ?_
      refine EL.assign rfl rfl rfl ?_
      refine EL.assign rfl rfl rfl ?_
      refine EL.assign rfl rfl rfl ?_
      refine .go ?_; repeat constructor
      refine EL.move rfl rfl rfl ?_
      refine EL.not rfl rfl rfl ?_
      refine EL.move rfl rfl rfl ?_
      refine EL.rew (d := 58) (v' := .bool true) rfl (by first | rfl | (decide) | (simp)) ?_
      refine EL.pass rfl rfl rfl ?_
      refine EL.pickT rfl rfl rfl rfl ?_
      refine .go ?_; repeat constructor
      refine ES.condT rfl ?_
      refine .go ?_; repeat constructor
      refine EL.move rfl rfl rfl ?_
      refine EL.callP rfl rfl rfl ent100 rfl (bad_c a 9) ?_
      refine EL.move rfl rfl rfl ?_
      (apply EL.storeAll; exact rfl; exact rfl; exact rfl; exact rfl; exact rfl; (case p => repeat constructor); exact rfl; (case h1 => exact (by first | rfl | exact all1 rfl | (intro u hu; simp only [List.mem_cons, List.not_mem_nil, or_false] at hu; rcases hu with rfl | rfl | rfl | rfl <;> rfl) | (intro u hu; simp at hu; rcases hu with rfl | rfl | rfl | rfl <;> rfl) | (intro u hu; simp at hu; rcases hu with rfl | rfl | rfl <;> rfl) | (intro u hu; simp at hu; rcases hu with rfl | rfl <;> rfl) | (intro u hu; simp at hu; obtain ⟨_, _, rfl⟩ := hu; rfl))))
      refine EL.assign rfl rfl rfl ?_
      refine .go ?_; repeat constructor
      exact PX.ret rfl Try.results98 (.cons (.blkA rfl rfl rfl (by repeat constructor) rfl) (.cons (.tmp rfl) .nil)) (fun w hs => ⟨(), rfl, hs.ent (.i (by repeat constructor))⟩)
    | some x =>
      obtain ⟨lo, hi, n⟩ := x
      have hle := iv_le hiv
      rw [hiv] at hesc hic
      dsimp only at hesc
      refine .go ?_; repeat constructor
      refine EL.move rfl rfl rfl ?_
      refine EL.move rfl rfl rfl ?_
      refine EL.addN (n := 2) rfl rfl rfl rfl rfl (by omega) ?_
      refine EL.callP rfl rfl rfl ent107 rfl hic ?_
      refine EL.move rfl rfl rfl ?_
      refine EL.extract rfl rfl rfl rfl ?_
      refine EL.extract rfl rfl rfl rfl ?_
      refine EL.extract rfl rfl rfl rfl ?_
      refine EL.extract rfl rfl rfl rfl ?_
      refine EL.assign rfl rfl rfl ?_
      refine EL.assign rfl rfl rfl ?_
      refine EL.assign rfl rfl rfl ?_
      refine EL.assign rfl rfl rfl ?_
      refine .go ?_; repeat constructor
      refine EL.move rfl rfl rfl ?_
      refine EL.not rfl rfl rfl ?_
      refine EL.move rfl rfl rfl ?_
      refine EL.rew (d := 58) (v' := .bool false) rfl (by first | rfl | (decide) | (simp)) ?_
      refine EL.move rfl rfl rfl ?_
      refine EL.pickF rfl rfl rfl rfl ?_
      refine .go ?_; repeat constructor
      refine ES.cond rfl (fun hbg => ?_) (fun hbg => ?_)
      · rw [if_pos hbg] at hesc
        subst hesc
        refine .go ?_; repeat constructor
        refine EL.move rfl rfl rfl ?_
        refine EL.callP rfl rfl rfl ent100 rfl (bad_c a 9) ?_
        refine EL.move rfl rfl rfl ?_
        (apply EL.storeAll; exact rfl; exact rfl; exact rfl; exact rfl; exact rfl; (case p => repeat constructor); exact rfl; (case h1 => exact (by first | rfl | exact all1 rfl | (intro u hu; simp only [List.mem_cons, List.not_mem_nil, or_false] at hu; rcases hu with rfl | rfl | rfl | rfl <;> rfl) | (intro u hu; simp at hu; rcases hu with rfl | rfl | rfl | rfl <;> rfl) | (intro u hu; simp at hu; rcases hu with rfl | rfl | rfl <;> rfl) | (intro u hu; simp at hu; rcases hu with rfl | rfl <;> rfl) | (intro u hu; simp at hu; obtain ⟨_, _, rfl⟩ := hu; rfl))))
        refine EL.assign rfl rfl rfl ?_
        refine .go ?_; repeat constructor
        exact PX.ret rfl Try.results98 (.cons (.blkA rfl rfl rfl (by repeat constructor) rfl) (.cons (.tmp rfl) .nil)) (fun w hs => ⟨(), rfl, hs.ent (.i (by repeat constructor))⟩)
      · rw [if_neg (by rw [hbg]; decide)] at hesc
        subst hesc
        refine .go ?_; repeat constructor
        refine EL.move rfl rfl rfl ?_
        refine EL.move rfl rfl rfl ?_
        refine EL.move rfl rfl rfl ?_
        refine EL.buildS (tokCells ⟨5, a, zeroS, (lo : Int), hi, 0⟩) rfl rfl rfl rfl rfl rfl rfl ?_
        refine EL.move rfl rfl rfl ?_
        (apply EL.storeAll; exact rfl; exact rfl; exact rfl; exact rfl; exact rfl; (case p => repeat constructor); exact rfl; (case h1 => exact (by first | rfl | exact all1 rfl | (intro u hu; simp only [List.mem_cons, List.not_mem_nil, or_false] at hu; rcases hu with rfl | rfl | rfl | rfl <;> rfl) | (intro u hu; simp at hu; rcases hu with rfl | rfl | rfl | rfl <;> rfl) | (intro u hu; simp at hu; rcases hu with rfl | rfl | rfl <;> rfl) | (intro u hu; simp at hu; rcases hu with rfl | rfl <;> rfl) | (intro u hu; simp at hu; obtain ⟨_, _, rfl⟩ := hu; rfl))))
        refine EL.assign rfl rfl rfl ?_
        refine .go ?_; repeat constructor
        exact PX.ret rfl Try.results98 (.cons (.blkA rfl rfl rfl (by repeat constructor) rfl) (.cons (.tmp rfl) .nil)) (fun w hs => ⟨(), rfl, hs.ent (.i (by repeat constructor))⟩)
  rw [if_neg (by omega)] at hesc
  refine .go ?_; repeat constructor
  refine EL.move rfl rfl rfl ?_
  refine EL.eqlI rfl rfl rfl rfl ?_
  refine EL.assign rfl rfl rfl ?_
  refine .go ?_; repeat constructor
  refine ES.condD rfl (fun h4 => ?_) (fun h4 => ?_)
  · rw [if_pos (by omega)] at hesc
    subst hesc
    refine .go ?_; repeat constructor
    refine EL.move rfl rfl rfl ?_
    refine EL.callP rfl rfl rfl ent100 rfl (bad_c a 9) ?_
    refine EL.move rfl rfl rfl ?_
    (apply EL.storeAll; exact rfl; exact rfl; exact rfl; exact rfl; exact rfl; (case p => repeat constructor); exact rfl; (case h1 => exact (by first | rfl | exact all1 rfl | (intro u hu; simp only [List.mem_cons, List.not_mem_nil, or_false] at hu; rcases hu with rfl | rfl | rfl | rfl <;> rfl) | (intro u hu; simp at hu; rcases hu with rfl | rfl | rfl | rfl <;> rfl) | (intro u hu; simp at hu; rcases hu with rfl | rfl | rfl <;> rfl) | (intro u hu; simp at hu; rcases hu with rfl | rfl <;> rfl) | (intro u hu; simp at hu; obtain ⟨_, _, rfl⟩ := hu; rfl))))
    refine EL.assign rfl rfl rfl ?_
    refine .go ?_; repeat constructor
    exact PX.ret rfl Try.results98 (.cons (.blkA rfl rfl rfl (by repeat constructor) rfl) (.cons (.tmp rfl) .nil)) (fun w hs => ⟨(), rfl, hs.ent (.i (by repeat constructor))⟩)
  rw [if_neg (by omega)] at hesc
  refine .go ?_; repeat constructor
  refine EL.move rfl rfl rfl ?_
  refine EL.eqlI rfl rfl rfl rfl ?_
  refine EL.assign rfl rfl rfl ?_
  refine .go ?_; repeat constructor
  refine ES.condD rfl (fun h5 => ?_) (fun h5 => ?_)
  · rw [if_pos (by omega)] at hesc
    subst hesc
    refine .go ?_; repeat constructor
    refine EL.move rfl rfl rfl ?_
    refine EL.callP rfl rfl rfl ent101 rfl (one_c a 10) ?_
    refine EL.move rfl rfl rfl ?_
    refine EL.addN (n := 2) rfl rfl rfl rfl rfl (by omega) ?_
    (apply EL.storeAll; exact rfl; exact rfl; exact rfl; exact rfl; exact rfl; (case p => repeat constructor); exact rfl; (case h1 => exact (by first | rfl | exact all1 rfl | (intro u hu; simp only [List.mem_cons, List.not_mem_nil, or_false] at hu; rcases hu with rfl | rfl | rfl | rfl <;> rfl) | (intro u hu; simp at hu; rcases hu with rfl | rfl | rfl | rfl <;> rfl) | (intro u hu; simp at hu; rcases hu with rfl | rfl | rfl <;> rfl) | (intro u hu; simp at hu; rcases hu with rfl | rfl <;> rfl) | (intro u hu; simp at hu; obtain ⟨_, _, rfl⟩ := hu; rfl))))
    refine EL.assign rfl rfl rfl ?_
    refine .go ?_; repeat constructor
    exact PX.ret rfl Try.results98 (.cons (.blkA rfl rfl rfl (by repeat constructor) rfl) (.cons (.tmp rfl) .nil)) (fun w hs => ⟨(), rfl, hs.ent (.i (by repeat constructor))⟩)
  rw [if_neg (by omega)] at hesc
  refine .go ?_; repeat constructor
  refine EL.cutX (X := Unit) (fun _ => [(0, Sv t), (1, Iv (a : Nat)), (6, Pv g6 0), (8, Uv b), (82, .bool (decide (49 ≤ b.toNat ∧ b.toNat ≤ 57)))]) (fun _ => [HA.blk g6 (.cells #[.int .i64 0, .int .i64 0, .int .u64 0, .int .u64 0, .int .u64 0, .int .u64 0, .int .i64 0, .int .i64 0, .int .i64 0] 148)]) ?_ (fun _ => ?_)
  · refine .go ?_; repeat constructor
    refine EL.move rfl rfl rfl ?_
    refine EL.geq rfl rfl rfl rfl ?_
    refine EL.move rfl rfl rfl ?_
    first | refine EL.splitD (d := 85) rfl (fun hp85 => ?_) (fun hp85 => ?_) | refine EL.splitN (d := 85) rfl (fun hp85 => ?_) (fun hp85 => ?_) | refine EL.splitB (d := 85) rfl (fun hp85 => ?_) (fun hp85 => ?_)
    · refine EL.move rfl rfl rfl ?_
      refine EL.leq rfl rfl rfl rfl ?_
      refine EL.pickT rfl rfl rfl rfl ?_
      refine EL.assign rfl rfl rfl ?_
      exact EL.endX () ⟨rfl, rfl, rfl, rfl, getA rfl (congrArg Value.bool (by rw [Bool.eq_iff_iff]; simp only [decide_eq_true_eq, true_iff, Bool.false_eq_true, false_iff]; omega)), trivial⟩ (.i (by repeat constructor))
    · refine EL.pass rfl rfl rfl ?_
      refine EL.pass rfl rfl rfl ?_
      refine EL.pickF rfl rfl rfl rfl ?_
      refine EL.assign rfl rfl rfl ?_
      exact EL.endX () ⟨rfl, rfl, rfl, rfl, getA rfl (congrArg Value.bool (by rw [Bool.eq_iff_iff]; simp only [decide_eq_true_eq, true_iff, Bool.false_eq_true, false_iff]; omega)), trivial⟩ (.i (by repeat constructor))
  refine ES.condD rfl (fun h6 => ?_) (fun h6 => ?_)
  · rw [if_pos h6] at hesc
    subst hesc
    refine .go ?_; repeat constructor
    refine EL.move rfl rfl rfl ?_
    refine EL.move rfl rfl rfl ?_
    refine EL.ofRV (RV.subK (n := 48) rfl rfl (by omega) (by simp only [kmax]; omega)) rfl rfl rfl (by intro c h; cases h) ?_
    refine EL.convN rfl rfl rfl rfl rfl rfl (by simp only [kmax]; omega) ?_
    refine EL.buildS (tokCells ⟨6, a, zeroS, ((b.toNat - 48 : Nat) : Int), 0, 0⟩) rfl rfl rfl rfl rfl rfl rfl ?_
    refine EL.move rfl rfl rfl ?_
    refine EL.addN (n := 2) rfl rfl rfl rfl rfl (by omega) ?_
    (apply EL.storeAll; exact rfl; exact rfl; exact rfl; exact rfl; exact rfl; (case p => repeat constructor); exact rfl; (case h1 => exact (by first | rfl | exact all1 rfl | (intro u hu; simp only [List.mem_cons, List.not_mem_nil, or_false] at hu; rcases hu with rfl | rfl | rfl | rfl <;> rfl) | (intro u hu; simp at hu; rcases hu with rfl | rfl | rfl | rfl <;> rfl) | (intro u hu; simp at hu; rcases hu with rfl | rfl | rfl <;> rfl) | (intro u hu; simp at hu; rcases hu with rfl | rfl <;> rfl) | (intro u hu; simp at hu; obtain ⟨_, _, rfl⟩ := hu; rfl))))
    refine EL.assign rfl rfl rfl ?_
    refine .go ?_; repeat constructor
    exact PX.ret rfl Try.results98 (.cons (.blkA rfl rfl rfl (by repeat constructor) rfl) (.cons (.tmp rfl) .nil)) (fun w hs => ⟨(), rfl, hs.ent (.i (by repeat constructor))⟩)
  rw [if_neg h6] at hesc
  refine .go ?_; repeat constructor
  refine EL.move rfl rfl rfl ?_
  refine EL.callP rfl rfl rfl ent108 rfl (alnum_c b) ?_
  refine EL.assign rfl rfl rfl ?_
  refine .go ?_; repeat constructor
  refine ES.cond rfl (fun h7 => ?_) (fun h7 => ?_)
  · rw [if_pos h7] at hesc
    subst hesc
    refine .go ?_; repeat constructor
    refine EL.move rfl rfl rfl ?_
    refine EL.callP rfl rfl rfl ent100 rfl (bad_c a 12) ?_
    refine EL.move rfl rfl rfl ?_
    (apply EL.storeAll; exact rfl; exact rfl; exact rfl; exact rfl; exact rfl; (case p => repeat constructor); exact rfl; (case h1 => exact (by first | rfl | exact all1 rfl | (intro u hu; simp only [List.mem_cons, List.not_mem_nil, or_false] at hu; rcases hu with rfl | rfl | rfl | rfl <;> rfl) | (intro u hu; simp at hu; rcases hu with rfl | rfl | rfl | rfl <;> rfl) | (intro u hu; simp at hu; rcases hu with rfl | rfl | rfl <;> rfl) | (intro u hu; simp at hu; rcases hu with rfl | rfl <;> rfl) | (intro u hu; simp at hu; obtain ⟨_, _, rfl⟩ := hu; rfl))))
    refine EL.assign rfl rfl rfl ?_
    refine .go ?_; repeat constructor
    exact PX.ret rfl Try.results98 (.cons (.blkA rfl rfl rfl (by repeat constructor) rfl) (.cons (.tmp rfl) .nil)) (fun w hs => ⟨(), rfl, hs.ent (.i (by repeat constructor))⟩)
  · rw [if_neg (by rw [h7]; decide)] at hesc
    subst hesc
    refine .go ?_; repeat constructor
    refine EL.move rfl rfl rfl ?_
    refine EL.move rfl rfl rfl ?_
    refine EL.callP rfl rfl rfl ent101 rfl (one_c a b) ?_
    refine EL.move rfl rfl rfl ?_
    refine EL.addN (n := 2) rfl rfl rfl rfl rfl (by omega) ?_
    (apply EL.storeAll; exact rfl; exact rfl; exact rfl; exact rfl; exact rfl; (case p => repeat constructor); exact rfl; (case h1 => exact (by first | rfl | exact all1 rfl | (intro u hu; simp only [List.mem_cons, List.not_mem_nil, or_false] at hu; rcases hu with rfl | rfl | rfl | rfl <;> rfl) | (intro u hu; simp at hu; rcases hu with rfl | rfl | rfl | rfl <;> rfl) | (intro u hu; simp at hu; rcases hu with rfl | rfl | rfl <;> rfl) | (intro u hu; simp at hu; rcases hu with rfl | rfl <;> rfl) | (intro u hu; simp at hu; obtain ⟨_, _, rfl⟩ := hu; rfl))))
    refine EL.assign rfl rfl rfl ?_
    refine .go ?_; repeat constructor
    exact PX.ret rfl Try.results98 (.cons (.blkA rfl rfl rfl (by repeat constructor) rfl) (.cons (.tmp rfl) .nil)) (fun w hs => ⟨(), rfl, hs.ent (.i (by repeat constructor))⟩)
theorem readTok_c (t : List UInt8) (a : Nat) (fi bg : Bool) (ha : a < t.length) (ht : t.length ≤ 1073741824) (w : World) (hG : GR w w.heap.size) :
    Pure Try.prog 76 #[Sv t, Iv (a : Nat), .bool fi, .bool bg] (fun _ : Unit => .tuple #[tokV (readT t a fi bg).1, Iv ((readT t a fi bg).2 : Nat)]) (fun _ => []) w := by
  have hrd : readT t a fi bg = (let b := t.getD a 0
    if b.toNat = 92 then escT t a bg
    else if b.toNat = 91 then (if (brackM t a).e ≠ 0 then (badT a (brackM t a).e, a) else (byteT a (brackM t a).set, (brackM t a).at_))
    else if b.toNat = 46 then (byteT a (notS zeroS), a + 1)
    else if b.toNat = 42 ∧ bg = false then (⟨5, a, zeroS, 0, -1, 0⟩, a + 1)
    else if b.toNat = 94 ∧ fi = true then (⟨1, a, zeroS, 0, 0, 0⟩, a + 1)
    else if b.toNat = 36 ∧ eolM t a = true then (⟨2, a, zeroS, 0, 0, 0⟩, a + 1)
    else (oneT a b, a + 1)) := rfl
  obtain ⟨b, hb⟩ : ∃ b, b = t.getD a 0 := ⟨_, rfl⟩
  have hb8 := b.toNat_lt
  rw [← hb] at hrd
  dsimp only at hrd
  generalize readT t a fi bg = r at hrd ⊢
  refine calls_of_ES TB Try.func76 rfl _ Try.ntmps76 rfl (Sat.start w) ?_
  refine .go ?_; repeat constructor
  (refine EL.alloc rfl rfl rfl ?_; intro g8)
  refine EL.assign rfl rfl rfl ?_
  refine .go ?_; repeat constructor
  refine .go ?_; repeat constructor
  refine EL.move rfl rfl rfl ?_
  refine EL.move rfl rfl rfl ?_
  refine EL.indexSN rfl rfl rfl rfl rfl rfl (by omega) ?_
  refine EL.rew (d := 16) (v' := Uv b) rfl (by rw [hb]) ?_
  refine EL.assign rfl rfl rfl ?_
  refine .go ?_; repeat constructor
  refine .go ?_; repeat constructor
  refine EL.move rfl rfl rfl ?_
  refine EL.eqlI rfl rfl rfl rfl ?_
  refine EL.assign rfl rfl rfl ?_
  refine .go ?_; repeat constructor
  refine ES.condD rfl (fun h1 => ?_) (fun h1 => ?_)
  · rw [if_pos (by omega)] at hrd
    subst hrd
    refine .go ?_; repeat constructor
    refine EL.move rfl rfl rfl ?_
    refine EL.move rfl rfl rfl ?_
    refine EL.move rfl rfl rfl ?_
    refine EL.callP rfl rfl rfl ent98 rfl (escaped_c t a bg ha ht) ?_
    refine EL.extract rfl rfl rfl rfl ?_
    refine EL.extract rfl rfl rfl rfl ?_
    (apply EL.storeAll; exact rfl; exact rfl; exact rfl; exact rfl; exact rfl; (case p => repeat constructor); exact rfl; (case h1 => exact (by first | rfl | exact all1 rfl | (intro u hu; simp only [List.mem_cons, List.not_mem_nil, or_false] at hu; rcases hu with rfl | rfl | rfl | rfl <;> rfl) | (intro u hu; simp at hu; rcases hu with rfl | rfl | rfl | rfl <;> rfl) | (intro u hu; simp at hu; rcases hu with rfl | rfl | rfl <;> rfl) | (intro u hu; simp at hu; rcases hu with rfl | rfl <;> rfl) | (intro u hu; simp at hu; obtain ⟨_, _, rfl⟩ := hu; rfl))))
    refine EL.assign rfl rfl rfl ?_
    refine .go ?_; repeat constructor
    exact PX.ret rfl Try.results76 (.cons (.blkA rfl rfl rfl (by repeat constructor) rfl) (.cons (.tmp rfl) .nil)) (fun w hs => ⟨(), rfl, hs.ent (.i (by repeat constructor))⟩)
  rw [if_neg (by omega)] at hrd
  refine .go ?_; repeat constructor
  refine EL.move rfl rfl rfl ?_
  refine EL.eqlI rfl rfl rfl rfl ?_
  refine EL.assign rfl rfl rfl ?_
  refine .go ?_; repeat constructor
  refine ES.condD rfl (fun h2 => ?_) (fun h2 => ?_)
  · rw [if_pos (by omega)] at hrd
    have hbp := brParse_c t a ht (by omega)
    generalize brackM t a = q at hrd hbp
    obtain ⟨⟨s0, s1, s2, s3⟩, qa, qe⟩ := q
    dsimp only at hrd hbp
    refine .go ?_; repeat constructor
    refine EL.move rfl rfl rfl ?_
    refine EL.move rfl rfl rfl ?_
    refine EL.callPw rfl rfl rfl ent99 rfl (fun w hs => hbp w (GR.sat hG hs)) ?_
    refine EL.move rfl rfl rfl ?_
    refine EL.extract rfl rfl rfl rfl ?_
    refine EL.extract rfl rfl rfl rfl ?_
    refine EL.extract rfl rfl rfl rfl ?_
    (refine EL.alloc rfl rfl rfl ?_; intro g11)
    (apply EL.storeAll; exact rfl; exact rfl; exact rfl; exact rfl; exact rfl; (case p => repeat constructor); exact rfl; (case h1 => exact (by first | rfl | exact all1 rfl | (intro u hu; simp only [List.mem_cons, List.not_mem_nil, or_false] at hu; rcases hu with rfl | rfl | rfl | rfl <;> rfl) | (intro u hu; simp at hu; rcases hu with rfl | rfl | rfl | rfl <;> rfl) | (intro u hu; simp at hu; rcases hu with rfl | rfl | rfl <;> rfl) | (intro u hu; simp at hu; rcases hu with rfl | rfl <;> rfl) | (intro u hu; simp at hu; obtain ⟨_, _, rfl⟩ := hu; rfl))))
    refine EL.assign rfl rfl rfl ?_
    refine EL.assign rfl rfl rfl ?_
    refine .go ?_; repeat constructor
    refine EL.move rfl rfl rfl ?_
    refine EL.neqI rfl rfl rfl rfl ?_
    refine .go ?_; repeat constructor
    refine ES.condN rfl (fun h3 => ?_) (fun h3 => ?_)
    · rw [if_pos h3] at hrd
      subst hrd
      refine .go ?_; repeat constructor
      refine EL.move rfl rfl rfl ?_
      refine EL.move rfl rfl rfl ?_
      refine EL.callP rfl rfl rfl ent100 rfl (bad_c a qe) ?_
      refine EL.move rfl rfl rfl ?_
      (apply EL.storeAll; exact rfl; exact rfl; exact rfl; exact rfl; exact rfl; (case p => repeat constructor); exact rfl; (case h1 => exact (by first | rfl | exact all1 rfl | (intro u hu; simp only [List.mem_cons, List.not_mem_nil, or_false] at hu; rcases hu with rfl | rfl | rfl | rfl <;> rfl) | (intro u hu; simp at hu; rcases hu with rfl | rfl | rfl | rfl <;> rfl) | (intro u hu; simp at hu; rcases hu with rfl | rfl | rfl <;> rfl) | (intro u hu; simp at hu; rcases hu with rfl | rfl <;> rfl) | (intro u hu; simp at hu; obtain ⟨_, _, rfl⟩ := hu; rfl))))
      refine EL.assign rfl rfl rfl ?_
      refine .go ?_; repeat constructor
      exact PX.ret rfl Try.results76 (.cons (.blkA rfl rfl rfl (by repeat constructor) rfl) (.cons (.tmp rfl) .nil)) (fun w hs => ⟨(), rfl, hs.ent (.i (by repeat constructor))⟩)
    · rw [if_neg (by simpa using h3)] at hrd
      subst hrd
      refine .go ?_; repeat constructor
      refine EL.move rfl rfl rfl ?_
      (apply EL.loadAggB; exact rfl; exact rfl; exact rfl; exact rfl; exact rfl; (case hm => repeat constructor); exact rfl)
      refine EL.buildS (tokCells (byteT a ⟨s0, s1, s2, s3⟩)) rfl rfl rfl rfl rfl rfl rfl ?_
      refine EL.move rfl rfl rfl ?_
      (apply EL.storeAll; exact rfl; exact rfl; exact rfl; exact rfl; exact rfl; (case p => repeat constructor); exact rfl; (case h1 => exact (by first | rfl | exact all1 rfl | (intro u hu; simp only [List.mem_cons, List.not_mem_nil, or_false] at hu; rcases hu with rfl | rfl | rfl | rfl <;> rfl) | (intro u hu; simp at hu; rcases hu with rfl | rfl | rfl | rfl <;> rfl) | (intro u hu; simp at hu; rcases hu with rfl | rfl | rfl <;> rfl) | (intro u hu; simp at hu; rcases hu with rfl | rfl <;> rfl) | (intro u hu; simp at hu; obtain ⟨_, _, rfl⟩ := hu; rfl))))
      refine EL.assign rfl rfl rfl ?_
      refine .go ?_; repeat constructor
      exact PX.ret rfl Try.results76 (.cons (.blkA rfl rfl rfl (by repeat constructor) rfl) (.cons (.tmp rfl) .nil)) (fun w hs => ⟨(), rfl, hs.ent (.i (by repeat constructor))⟩)
  rw [if_neg (by omega)] at hrd
  refine .go ?_; repeat constructor
  refine EL.move rfl rfl rfl ?_
  refine EL.eqlI rfl rfl rfl rfl ?_
  refine EL.assign rfl rfl rfl ?_
  refine .go ?_; repeat constructor
  refine ES.condD rfl (fun h3 => ?_) (fun h3 => ?_)
  · rw [if_pos (by omega)] at hrd
    subst hrd
    refine .go ?_; repeat constructor
    refine EL.move rfl rfl rfl ?_
    refine EL.buildZA rfl rfl rfl rfl rfl ?_
    refine EL.callP rfl rfl rfl ent90 rfl (not_c zeroS) ?_
    refine EL.buildS (tokCells (byteT a (notS zeroS))) rfl rfl rfl rfl rfl rfl rfl ?_
    refine EL.move rfl rfl rfl ?_
    refine EL.add1 rfl rfl rfl rfl (by omega) ?_
    (apply EL.storeAll; exact rfl; exact rfl; exact rfl; exact rfl; exact rfl; (case p => repeat constructor); exact rfl; (case h1 => exact (by first | rfl | exact all1 rfl | (intro u hu; simp only [List.mem_cons, List.not_mem_nil, or_false] at hu; rcases hu with rfl | rfl | rfl | rfl <;> rfl) | (intro u hu; simp at hu; rcases hu with rfl | rfl | rfl | rfl <;> rfl) | (intro u hu; simp at hu; rcases hu with rfl | rfl | rfl <;> rfl) | (intro u hu; simp at hu; rcases hu with rfl | rfl <;> rfl) | (intro u hu; simp at hu; obtain ⟨_, _, rfl⟩ := hu; rfl))))
    refine EL.assign rfl rfl rfl ?_
    refine .go ?_; repeat constructor
    exact PX.ret rfl Try.results76 (.cons (.blkA rfl rfl rfl (by repeat constructor) rfl) (.cons (.tmp rfl) .nil)) (fun w hs => ⟨(), rfl, hs.ent (.i (by repeat constructor))⟩)
  rw [if_neg (by omega)] at hrd
  refine .go ?_; repeat constructor
  refine EL.cutX (X := Unit) (fun _ => [(0, Sv t), (1, Iv (a : Nat)), (2, .bool fi), (8, Pv g8 0), (10, Uv b), (60, .bool (decide ((b.toNat : Int) = 42) && !bg))]) (fun _ => [HA.blk g8 (.cells #[.int .i64 0, .int .i64 0, .int .u64 0, .int .u64 0, .int .u64 0, .int .u64 0, .int .i64 0, .int .i64 0, .int .i64 0] 148)]) ?_ (fun _ => ?_)
  · refine .go ?_; repeat constructor
    refine EL.move rfl rfl rfl ?_
    refine EL.eqlI rfl rfl rfl rfl ?_
    refine EL.move rfl rfl rfl ?_
    first | refine EL.splitD (d := 63) rfl (fun hp63 => ?_) (fun hp63 => ?_) | refine EL.splitN (d := 63) rfl (fun hp63 => ?_) (fun hp63 => ?_) | refine EL.splitB (d := 63) rfl (fun hp63 => ?_) (fun hp63 => ?_)
    · refine EL.move rfl rfl rfl ?_
      refine EL.not rfl rfl rfl ?_
      refine EL.pickT rfl rfl rfl rfl ?_
      refine EL.assign rfl rfl rfl ?_
      exact EL.endX () ⟨rfl, rfl, rfl, rfl, rfl, getA rfl (congrArg Value.bool (by simp_all)), trivial⟩ (.i (by repeat constructor))
    · refine EL.pass rfl rfl rfl ?_
      refine EL.pass rfl rfl rfl ?_
      refine EL.pickF rfl rfl rfl rfl ?_
      refine EL.assign rfl rfl rfl ?_
      exact EL.endX () ⟨rfl, rfl, rfl, rfl, rfl, getA rfl (congrArg Value.bool (by simp_all)), trivial⟩ (.i (by repeat constructor))
  refine ES.cond rfl (fun h4 => ?_) (fun h4 => ?_)
  · rw [Bool.and_eq_true, decide_eq_true_eq] at h4
    rw [if_pos ⟨by omega, by simpa using h4.2⟩] at hrd
    subst hrd
    refine .go ?_; repeat constructor
    refine EL.move rfl rfl rfl ?_
    refine EL.buildS (tokCells ⟨5, a, zeroS, 0, -1, 0⟩) rfl rfl rfl rfl rfl rfl rfl ?_
    refine EL.move rfl rfl rfl ?_
    refine EL.add1 rfl rfl rfl rfl (by omega) ?_
    (apply EL.storeAll; exact rfl; exact rfl; exact rfl; exact rfl; exact rfl; (case p => repeat constructor); exact rfl; (case h1 => exact (by first | rfl | exact all1 rfl | (intro u hu; simp only [List.mem_cons, List.not_mem_nil, or_false] at hu; rcases hu with rfl | rfl | rfl | rfl <;> rfl) | (intro u hu; simp at hu; rcases hu with rfl | rfl | rfl | rfl <;> rfl) | (intro u hu; simp at hu; rcases hu with rfl | rfl | rfl <;> rfl) | (intro u hu; simp at hu; rcases hu with rfl | rfl <;> rfl) | (intro u hu; simp at hu; obtain ⟨_, _, rfl⟩ := hu; rfl))))
    refine EL.assign rfl rfl rfl ?_
    refine .go ?_; repeat constructor
    exact PX.ret rfl Try.results76 (.cons (.blkA rfl rfl rfl (by repeat constructor) rfl) (.cons (.tmp rfl) .nil)) (fun w hs => ⟨(), rfl, hs.ent (.i (by repeat constructor))⟩)
  rw [if_neg (by rintro ⟨h5, h6⟩; rw [decide_eq_true (by omega), h6] at h4; cases h4)] at hrd
  refine .go ?_; repeat constructor
  refine EL.cutX (X := Unit) (fun _ => [(0, Sv t), (1, Iv (a : Nat)), (8, Pv g8 0), (10, Uv b), (71, .bool (decide ((b.toNat : Int) = 94) && fi))]) (fun _ => [HA.blk g8 (.cells #[.int .i64 0, .int .i64 0, .int .u64 0, .int .u64 0, .int .u64 0, .int .u64 0, .int .i64 0, .int .i64 0, .int .i64 0] 148)]) ?_ (fun _ => ?_)
  · refine .go ?_; repeat constructor
    refine EL.move rfl rfl rfl ?_
    refine EL.eqlI rfl rfl rfl rfl ?_
    refine EL.move rfl rfl rfl ?_
    first | refine EL.splitD (d := 74) rfl (fun hp74 => ?_) (fun hp74 => ?_) | refine EL.splitN (d := 74) rfl (fun hp74 => ?_) (fun hp74 => ?_) | refine EL.splitB (d := 74) rfl (fun hp74 => ?_) (fun hp74 => ?_)
    · refine EL.move rfl rfl rfl ?_
      refine EL.pickT rfl rfl rfl rfl ?_
      refine EL.assign rfl rfl rfl ?_
      exact EL.endX () ⟨rfl, rfl, rfl, rfl, getA rfl (congrArg Value.bool (by simp_all)), trivial⟩ (.i (by repeat constructor))
    · refine EL.pass rfl rfl rfl ?_
      refine EL.pickF rfl rfl rfl rfl ?_
      refine EL.assign rfl rfl rfl ?_
      exact EL.endX () ⟨rfl, rfl, rfl, rfl, getA rfl (congrArg Value.bool (by simp_all)), trivial⟩ (.i (by repeat constructor))
  refine ES.cond rfl (fun h5 => ?_) (fun h5 => ?_)
  · rw [Bool.and_eq_true, decide_eq_true_eq] at h5
    rw [if_pos ⟨by omega, h5.2⟩] at hrd
    subst hrd
    refine .go ?_; repeat constructor
    refine EL.move rfl rfl rfl ?_
    refine EL.buildS (tokCells ⟨1, a, zeroS, 0, 0, 0⟩) rfl rfl rfl rfl rfl rfl rfl ?_
    refine EL.move rfl rfl rfl ?_
    refine EL.add1 rfl rfl rfl rfl (by omega) ?_
    (apply EL.storeAll; exact rfl; exact rfl; exact rfl; exact rfl; exact rfl; (case p => repeat constructor); exact rfl; (case h1 => exact (by first | rfl | exact all1 rfl | (intro u hu; simp only [List.mem_cons, List.not_mem_nil, or_false] at hu; rcases hu with rfl | rfl | rfl | rfl <;> rfl) | (intro u hu; simp at hu; rcases hu with rfl | rfl | rfl | rfl <;> rfl) | (intro u hu; simp at hu; rcases hu with rfl | rfl | rfl <;> rfl) | (intro u hu; simp at hu; rcases hu with rfl | rfl <;> rfl) | (intro u hu; simp at hu; obtain ⟨_, _, rfl⟩ := hu; rfl))))
    refine EL.assign rfl rfl rfl ?_
    refine .go ?_; repeat constructor
    exact PX.ret rfl Try.results76 (.cons (.blkA rfl rfl rfl (by repeat constructor) rfl) (.cons (.tmp rfl) .nil)) (fun w hs => ⟨(), rfl, hs.ent (.i (by repeat constructor))⟩)
  rw [if_neg (by rintro ⟨h6, h7⟩; rw [decide_eq_true (by omega), h7] at h5; cases h5)] at hrd
  refine .go ?_; repeat constructor
  refine EL.cutX (X := Unit) (fun _ => [(0, Sv t), (1, Iv (a : Nat)), (8, Pv g8 0), (10, Uv b), (81, .bool (decide ((b.toNat : Int) = 36) && eolM t a))]) (fun _ => [HA.blk g8 (.cells #[.int .i64 0, .int .i64 0, .int .u64 0, .int .u64 0, .int .u64 0, .int .u64 0, .int .i64 0, .int .i64 0, .int .i64 0] 148)]) ?_ (fun _ => ?_)
  · refine .go ?_; repeat constructor
    refine EL.move rfl rfl rfl ?_
    refine EL.eqlI rfl rfl rfl rfl ?_
    refine EL.move rfl rfl rfl ?_
    first | refine EL.splitD (d := 84) rfl (fun hp84 => ?_) (fun hp84 => ?_) | refine EL.splitN (d := 84) rfl (fun hp84 => ?_) (fun hp84 => ?_) | refine EL.splitB (d := 84) rfl (fun hp84 => ?_) (fun hp84 => ?_)
    · refine EL.move rfl rfl rfl ?_
      refine EL.add1 rfl rfl rfl rfl (by omega) ?_
      refine EL.move rfl rfl rfl ?_
      refine EL.lenS rfl rfl rfl rfl rfl ?_
      refine EL.eqlI rfl rfl rfl rfl ?_
      refine EL.move rfl rfl rfl ?_
      first | refine EL.splitD (d := 90) rfl (fun hp90 => ?_) (fun hp90 => ?_) | refine EL.splitN (d := 90) rfl (fun hp90 => ?_) (fun hp90 => ?_) | refine EL.splitB (d := 90) rfl (fun hp90 => ?_) (fun hp90 => ?_)
      · refine EL.pass rfl rfl rfl ?_
        refine EL.pass rfl rfl rfl ?_
        refine EL.pass rfl rfl rfl ?_
        refine EL.pass rfl rfl rfl ?_
        refine EL.pass rfl rfl rfl ?_
        refine EL.pass rfl rfl rfl ?_
        refine EL.pass rfl rfl rfl ?_
        refine EL.pass rfl rfl rfl ?_
        refine EL.pass rfl rfl rfl ?_
        refine EL.pass rfl rfl rfl ?_
        refine EL.pass rfl rfl rfl ?_
        refine EL.pass rfl rfl rfl ?_
        refine EL.pass rfl rfl rfl ?_
        refine EL.pass rfl rfl rfl ?_
        refine EL.pickT rfl rfl rfl rfl ?_
        refine EL.pickT rfl rfl rfl rfl ?_
        refine EL.assign rfl rfl rfl ?_
        exact EL.endX () ⟨rfl, rfl, rfl, rfl, getA rfl (congrArg Value.bool (by unfold eolM; rw [Bool.eq_iff_iff]; simp only [decide_eq_true_eq, Bool.and_eq_true, Bool.or_eq_true, true_iff, Bool.false_eq_true, false_iff]; first | omega | exact ⟨by omega, .inl (by omega)⟩ | (rw [show a + 3 - (a + 1) = 2 by omega]; exact ⟨fun h => ⟨by omega, .inr ⟨by omega, h⟩⟩, fun h => h.2.elim (fun h => absurd h (by omega)) (fun h => h.2)⟩) | exact fun h => h.2.elim (fun h => absurd h (by omega)) (fun h => absurd h.1 (by omega)))), trivial⟩ (.i (by repeat constructor))
      · refine EL.move rfl rfl rfl ?_
        refine EL.addN (n := 2) rfl rfl rfl rfl rfl (by omega) ?_
        refine EL.move rfl rfl rfl ?_
        refine EL.lenS rfl rfl rfl rfl rfl ?_
        refine EL.lss rfl rfl rfl rfl ?_
        refine EL.move rfl rfl rfl ?_
        first | refine EL.splitD (d := 96) rfl (fun hp96 => ?_) (fun hp96 => ?_) | refine EL.splitN (d := 96) rfl (fun hp96 => ?_) (fun hp96 => ?_) | refine EL.splitB (d := 96) rfl (fun hp96 => ?_) (fun hp96 => ?_)
        · refine EL.move rfl rfl rfl ?_
          refine EL.move rfl rfl rfl ?_
          refine EL.add1 rfl rfl rfl rfl (by omega) ?_
          refine EL.move rfl rfl rfl ?_
          refine EL.addN (n := 3) rfl rfl rfl rfl rfl (by omega) ?_
          refine EL.sliceS rfl rfl rfl rfl rfl ⟨_, rfl⟩ ⟨_, rfl⟩ (by omega) (by omega) ?_
          refine EL.eqlS rfl rfl rfl rfl ?_
          refine EL.pickT rfl rfl rfl rfl ?_
          refine EL.pickF rfl rfl rfl rfl ?_
          refine EL.pickT rfl rfl rfl rfl ?_
          refine EL.assign rfl rfl rfl ?_
          exact EL.endX () ⟨rfl, rfl, rfl, rfl, getA rfl (congrArg Value.bool (by unfold eolM; rw [Bool.eq_iff_iff]; simp only [decide_eq_true_eq, Bool.and_eq_true, Bool.or_eq_true, true_iff, Bool.false_eq_true, false_iff]; first | omega | exact ⟨by omega, .inl (by omega)⟩ | (rw [show a + 3 - (a + 1) = 2 by omega]; exact ⟨fun h => ⟨by omega, .inr ⟨by omega, h⟩⟩, fun h => h.2.elim (fun h => absurd h (by omega)) (fun h => h.2)⟩) | exact fun h => h.2.elim (fun h => absurd h (by omega)) (fun h => absurd h.1 (by omega)))), trivial⟩ (.i (by repeat constructor))
        · refine EL.pass rfl rfl rfl ?_
          refine EL.pass rfl rfl rfl ?_
          refine EL.pass rfl rfl rfl ?_
          refine EL.pass rfl rfl rfl ?_
          refine EL.pass rfl rfl rfl ?_
          refine EL.pass rfl rfl rfl ?_
          refine EL.pass rfl rfl rfl ?_
          refine EL.pickF rfl rfl rfl rfl ?_
          refine EL.pickF rfl rfl rfl rfl ?_
          refine EL.pickT rfl rfl rfl rfl ?_
          refine EL.assign rfl rfl rfl ?_
          exact EL.endX () ⟨rfl, rfl, rfl, rfl, getA rfl (congrArg Value.bool (by unfold eolM; rw [Bool.eq_iff_iff]; simp only [decide_eq_true_eq, Bool.and_eq_true, Bool.or_eq_true, true_iff, Bool.false_eq_true, false_iff]; first | omega | exact ⟨by omega, .inl (by omega)⟩ | (rw [show a + 3 - (a + 1) = 2 by omega]; exact ⟨fun h => ⟨by omega, .inr ⟨by omega, h⟩⟩, fun h => h.2.elim (fun h => absurd h (by omega)) (fun h => h.2)⟩) | exact fun h => h.2.elim (fun h => absurd h (by omega)) (fun h => absurd h.1 (by omega)))), trivial⟩ (.i (by repeat constructor))
    · refine EL.pass rfl rfl rfl ?_
      refine EL.pass rfl rfl rfl ?_
      refine EL.pass rfl rfl rfl ?_
      refine EL.pass rfl rfl rfl ?_
      refine EL.pass rfl rfl rfl ?_
      refine EL.pass rfl rfl rfl ?_
      refine EL.pass rfl rfl rfl ?_
      refine EL.pass rfl rfl rfl ?_
      refine EL.pass rfl rfl rfl ?_
      refine EL.pass rfl rfl rfl ?_
      refine EL.pass rfl rfl rfl ?_
      refine EL.pass rfl rfl rfl ?_
      refine EL.pass rfl rfl rfl ?_
      refine EL.pass rfl rfl rfl ?_
      refine EL.pass rfl rfl rfl ?_
      refine EL.pass rfl rfl rfl ?_
      refine EL.pass rfl rfl rfl ?_
      refine EL.pass rfl rfl rfl ?_
      refine EL.pass rfl rfl rfl ?_
      refine EL.pass rfl rfl rfl ?_
      refine EL.pass rfl rfl rfl ?_
      refine EL.pickF rfl rfl rfl rfl ?_
      refine EL.assign rfl rfl rfl ?_
      exact EL.endX () ⟨rfl, rfl, rfl, rfl, getA rfl (congrArg Value.bool (by unfold eolM; rw [Bool.eq_iff_iff]; simp only [decide_eq_true_eq, Bool.and_eq_true, Bool.or_eq_true, true_iff, Bool.false_eq_true, false_iff]; first | omega | exact ⟨by omega, .inl (by omega)⟩ | (rw [show a + 3 - (a + 1) = 2 by omega]; exact ⟨fun h => ⟨by omega, .inr ⟨by omega, h⟩⟩, fun h => h.2.elim (fun h => absurd h (by omega)) (fun h => h.2)⟩) | exact fun h => h.2.elim (fun h => absurd h (by omega)) (fun h => absurd h.1 (by omega)))), trivial⟩ (.i (by repeat constructor))
  refine ES.cond rfl (fun h6 => ?_) (fun h6 => ?_)
  · rw [Bool.and_eq_true, decide_eq_true_eq] at h6
    rw [if_pos ⟨by omega, h6.2⟩] at hrd
    subst hrd
    refine .go ?_; repeat constructor
    refine EL.move rfl rfl rfl ?_
    refine EL.buildS (tokCells ⟨2, a, zeroS, 0, 0, 0⟩) rfl rfl rfl rfl rfl rfl rfl ?_
    refine EL.move rfl rfl rfl ?_
    refine EL.add1 rfl rfl rfl rfl (by omega) ?_
    (apply EL.storeAll; exact rfl; exact rfl; exact rfl; exact rfl; exact rfl; (case p => repeat constructor); exact rfl; (case h1 => exact (by first | rfl | exact all1 rfl | (intro u hu; simp only [List.mem_cons, List.not_mem_nil, or_false] at hu; rcases hu with rfl | rfl | rfl | rfl <;> rfl) | (intro u hu; simp at hu; rcases hu with rfl | rfl | rfl | rfl <;> rfl) | (intro u hu; simp at hu; rcases hu with rfl | rfl | rfl <;> rfl) | (intro u hu; simp at hu; rcases hu with rfl | rfl <;> rfl) | (intro u hu; simp at hu; obtain ⟨_, _, rfl⟩ := hu; rfl))))
    refine EL.assign rfl rfl rfl ?_
    refine .go ?_; repeat constructor
    exact PX.ret rfl Try.results76 (.cons (.blkA rfl rfl rfl (by repeat constructor) rfl) (.cons (.tmp rfl) .nil)) (fun w hs => ⟨(), rfl, hs.ent (.i (by repeat constructor))⟩)
  · rw [if_neg (by rintro ⟨h7, h8⟩; rw [decide_eq_true (by omega), h8] at h6; cases h6)] at hrd
    subst hrd
    refine .go ?_; repeat constructor
    refine EL.move rfl rfl rfl ?_
    refine EL.move rfl rfl rfl ?_
    refine EL.callP rfl rfl rfl ent101 rfl (one_c a b) ?_
    refine EL.move rfl rfl rfl ?_
    refine EL.add1 rfl rfl rfl rfl (by omega) ?_
    (apply EL.storeAll; exact rfl; exact rfl; exact rfl; exact rfl; exact rfl; (case p => repeat constructor); exact rfl; (case h1 => exact (by first | rfl | exact all1 rfl | (intro u hu; simp only [List.mem_cons, List.not_mem_nil, or_false] at hu; rcases hu with rfl | rfl | rfl | rfl <;> rfl) | (intro u hu; simp at hu; rcases hu with rfl | rfl | rfl | rfl <;> rfl) | (intro u hu; simp at hu; rcases hu with rfl | rfl | rfl <;> rfl) | (intro u hu; simp at hu; rcases hu with rfl | rfl <;> rfl) | (intro u hu; simp at hu; obtain ⟨_, _, rfl⟩ := hu; rfl))))
    refine EL.assign rfl rfl rfl ?_
    refine .go ?_; repeat constructor
    exact PX.ret rfl Try.results76 (.cons (.blkA rfl rfl rfl (by repeat constructor) rfl) (.cons (.tmp rfl) .nil)) (fun w hs => ⟨(), rfl, hs.ent (.i (by repeat constructor))⟩)
end Go.Proofs.Ytblpgpgbnlhjlaa
namespace Go.Proofs.Ytblpgpgbnlhjlaa.Sl
open Go Go.RowKit
set_option linter.unusedVariables false
set_option linter.unusedSimpArgs false
section draws2
variable {C : Cx} {all : Array Oper} {Q : Qt}
def bindsT (all : Array Oper) : Nat → Nat → Nat → Bool
  | 0, _, _ => false
  | f + 1, j, k => match all[j]? with
    | some o => o.after.any fun e => Region.binds .any e && (Nat.beq e.on k || bindsT all f e.on k)
    | none => false
def lateBinds (all : Array Oper) (m : Nat) : Bool := (List.range all.size).all fun j => Nat.blt j m || (List.range m).all fun k => bindsT all 7 j k
theorem bindsT_done {L : Array Bool} (hcl : Closed all L) : ∀ (f j k : Nat) (oj : Oper), bindsT all f j k = true → all[j]? = some oj → (∀ e ∈ oj.after, Region.binds .any e = true → L.getD e.on false = true) → L.getD k false = true
  | 0, _, _, _, h, _, _ => by cases h
  | f + 1, j, k, oj, h, hj, hall => by
    simp only [bindsT, hj] at h
    obtain ⟨e, he, h2⟩ := Array.any_eq_true'.1 h
    simp only [Bool.and_eq_true, Bool.or_eq_true] at h2
    have hd := hall e he h2.1
    rcases h2.2 with h3 | h3
    · rw [Nat.eq_of_beq_eq_true h3] at hd; exact hd
    · cases f with
      | zero => cases h3
      | succ f =>
        cases ho : all[e.on]? with
        | none => simp only [bindsT, ho] at h3; cases h3
        | some o => exact bindsT_done hcl (f + 1) e.on k o h3 ho (fun e' he' hb' => hcl e.on o ho hd e' he' hb')
theorem late_not {m : Nat} {L : Array Bool} (hb : lateBinds all m = true) (hcl : Closed all L) {i j : Nat} {oj : Oper} (hi : L.getD i false = true → False) (him : i < m) (hj : all[j]? = some oj) (hjm : m ≤ j)
    (h : (∀ e ∈ oj.after, Region.binds .any e = true → L.getD e.on false = true)) : False := by
  have hlt : j < all.size := (Array.getElem?_eq_some_iff.1 hj).1
  have h1 := List.all_eq_true.1 hb j (List.mem_range.2 hlt)
  simp only [Bool.or_eq_true] at h1
  rcases h1 with h1 | h1
  · have : j < m := by simpa using h1
    omega
  · exact hi (bindsT_done hcl 7 j i oj (List.all_eq_true.1 h1 i (List.mem_range.2 him)) hj h)
def someLate (m : Nat) (L : Array Bool) : Bool := (List.range L.size).any fun k => Nat.ble m k && L.getD k false
theorem someLate_true {m : Nat} {L : Array Bool} (h : someLate m L = true) : ∃ k, m ≤ k ∧ L.getD k false = true := by
  obtain ⟨k, _, h2⟩ := List.any_eq_true.1 h
  simp only [Bool.and_eq_true] at h2
  exact ⟨k, Nat.le_of_ble_eq_true h2.1, h2.2⟩
theorem someLate_of {m : Nat} {L : Array Bool} {k : Nat} (hk : m ≤ k) (h : L.getD k false = true) : someLate m L = true := by
  have hlt : k < L.size := by
    rcases Nat.lt_or_ge k L.size with h' | h'
    · exact h'
    · simp [Array.getElem?_eq_none h'] at h
  exact List.any_eq_true.2 ⟨k, List.mem_range.2 hlt, by rw [h, Nat.ble_eq_true_of_le hk]; rfl⟩
def KS (C : Cx) (Hs : List HA) (m : Nat) (L : Array Bool) (w : World) : Prop := Sat C.w0 C.B [] w ∧ (someLate m L = false → Sat C.w0 C.B Hs w)
def wpAnyG (C : Cx) (all : Array Oper) (Q : Qt) (Hs : List HA) (m : Nat) : Nat → Array Bool → Act → World → Prop
  | 0, L, a, w => Region.ready .any all L = [] ∧ Q .normal a w
  | f + 1, L, a, w => (Region.ready .any all L = [] → Q .normal a w) ∧
    ∀ i ∈ Region.ready .any all L, wpOpIn (F0 C.r) 0 C.P all Q i (fun a' w' => KS C Hs m (L.setIfInBounds i true) w' ∧ wpAnyG C all Q Hs m f (L.setIfInBounds i true) a' w') a w
theorem wpAnyG.any {Hs : List HA} {m : Nat} : ∀ (f : Nat) (L : Array Bool) (a : Act) (w : World), wpAnyG C all Q Hs m f L a w → wpAnyIn (F0 C.r) 0 C.P .any all Q f L a w
  | 0, _, _, _, h => h
  | f + 1, _, _, _, h => ⟨h.1, fun i hi => wpOpIn_mono (fun a' w' h' => wpAnyG.any f _ a' w' h'.2) (h.2 i hi)⟩
theorem ready_undone {L : Array Bool} {i : Nat} (h : i ∈ Region.ready .any all L) : L.getD i false = true → False := fun h1 => by
  have h0 := (mem_ready.1 h).1
  rcases Nat.lt_or_ge i L.size with h' | h'
  · simp [h'] at h0 h1; rw [h0] at h1; cases h1
  · simp [Array.getElem?_eq_none h'] at h1
def need (Hs : List HA) (m i : Nat) : List HA := bif Nat.blt i m then Hs else []
theorem KS.need {Hs : List HA} {m i : Nat} {L : Array Bool} {w : World} (hb : lateBinds all m = true) (hcl : Closed all L) (hsz : L.size = all.size) (hi : i ∈ Region.ready .any all L) (h : KS C Hs m L w) : Sat C.w0 C.B (need Hs m i) w := by
  unfold Sl.need
  cases hm : Nat.blt i m with
  | false => exact h.1
  | true =>
    have him : i < m := by simpa using hm
    refine h.2 ?_
    cases hl : someLate m L with
    | false => rfl
    | true =>
      obtain ⟨k, hk, hd⟩ := someLate_true hl
      have hks : k < all.size := by
        rw [← hsz]
        rcases Nat.lt_or_ge k L.size with h' | h'
        · exact h'
        · simp [Array.getElem?_eq_none h'] at hd
      exact (late_not hb hcl (ready_undone hi) him (Array.getElem?_eq_getElem hks) hk (fun e he hb' => hcl k _ (Array.getElem?_eq_getElem hks) hd e he hb')).elim
theorem KS.back {Hs : List HA} {m i j : Nat} {L : Array Bool} {w : World} (hb : lateBinds all m = true) (hcl : Closed all L) (hi : i ∈ Region.ready .any all L) (hj : j ∈ Region.ready .any all L) (hji : j ≠ i) (h : KS C Hs m ((L.setIfInBounds i true).setIfInBounds j true) w) : KS C Hs m (L.setIfInBounds j true) w := by
  refine ⟨h.1, fun hl => h.2 ?_⟩
  cases hl2 : someLate m ((L.setIfInBounds i true).setIfInBounds j true) with
  | false => rfl
  | true =>
    exfalso
    obtain ⟨k, hk, hd⟩ := someLate_true hl2
    obtain ⟨hiun, oi, hoi, halli⟩ := mem_ready.1 hi
    obtain ⟨hjun, oj, hoj, hallj⟩ := mem_ready.1 hj
    by_cases hkj : j = k
    · subst hkj
      have hs : j < L.size := by
        rcases Nat.lt_or_ge j L.size with h' | h'
        · exact h'
        · simp [Array.getElem?_eq_none h'] at hjun
      have : someLate m (L.setIfInBounds j true) = true := someLate_of hk (by simp [hs])
      rw [this] at hl; cases hl
    · rw [getD_set_ne false hkj] at hd
      by_cases hki : i = k
      · subst hki
        rcases Nat.lt_or_ge j m with hjm | hjm
        · exact late_not hb hcl (ready_undone hj) hjm hoi hk halli
        · have hs : j < L.size := by
            rcases Nat.lt_or_ge j L.size with h' | h'
            · exact h'
            · simp [Array.getElem?_eq_none h'] at hjun
          have : someLate m (L.setIfInBounds j true) = true := someLate_of hjm (by simp [hs])
          rw [this] at hl; cases hl
      · rw [getD_set_ne false hki] at hd
        have : someLate m (L.setIfInBounds j true) = true := someLate_of hk (by rw [getD_set_ne false hkj]; exact hd)
        rw [this] at hl; cases hl
theorem KS.quiet {Hs : List HA} {m i : Nat} {L : Array Bool} {w : World} (h : KS C Hs m L w) : KS C Hs m (L.setIfInBounds i true) w := by
  refine ⟨h.1, fun hl => h.2 ?_⟩
  cases hl2 : someLate m L with
  | false => rfl
  | true =>
    obtain ⟨k, hk, hd⟩ := someLate_true hl2
    rw [someLate_of hk (getD_set_done hd)] at hl; cases hl
theorem wpAnyG.first {i : Nat} {oi : Oper} {v : Value} (hi : all[i]? = some oi) (hnd : noDefer all = true) (hQ : ∀ c a w, ¬ Q (.panic c) a w) {Hs : List HA} {m : Nat} (hb : lateBinds all m = true) :
    ∀ (f : Nat) (L : Array Bool) (a : Act) (w : World), (∀ j oj, all[j]? = some oj → j ≠ i → L.getD j true = false → (∀ e ∈ oj.after, Region.binds .any e = true → e.on ≠ i) → oi.apart all oj = true) →
      Closed all L → L.size = all.size → i ∈ Region.ready .any all L → YieldsS C all (Sat C.w0 C.B (need Hs m i)) oi v a → KS C Hs m L w → wpAnyG C all Q Hs m f (L.setIfInBounds i true) (a.put oi.dst v) w → wpAnyG C all Q Hs m (f + 1) L a w := by
  have hdi := noDefer_spec hnd hi
  intro f
  induction f with
  | zero =>
    intro L a w _ hcl hsz hr hy hS H
    refine ⟨fun h => (by rw [h] at hr; cases hr), fun j hj => ?_⟩
    by_cases hji : j = i
    · subst hji; exact hy.step hi hdi.1 (hS.need hb hcl hsz hr) ⟨hS.quiet, H⟩
    · have := ready_mono hj hji
      rw [H.1] at this
      cases this
  | succ f ih =>
    intro L a w hfree hcl hsz hr hy hS H
    refine ⟨fun h => (by rw [h] at hr; cases hr), fun j hj => ?_⟩
    by_cases hji : j = i
    · subst hji; exact hy.step hi hdi.1 (hS.need hb hcl hsz hr) ⟨hS.quiet, H⟩
    · have h1 := H.2 j (ready_mono hj hji)
      obtain ⟨hjun, oj, hoj, hall⟩ := mem_ready.1 hj
      have hnot : ∀ e ∈ oj.after, Region.binds .any e = true → e.on ≠ i := fun e he hb heq => by
        have h1 := hall e he hb
        rw [heq] at h1
        exact ready_undone hr h1
      have hdj := noDefer_spec hnd hoj
      have h2 := YieldsS.other hoj (hfree j oj hoj hji hjun hnot) hdi.2 hdj.2 hdj.1 hQ hy h1
      refine wpOpIn_mono (fun a' w' h3 => ⟨h3.2.1.back hb hcl hr hj hji, ih (L.setIfInBounds j true) a' w' (fun k ok hk hki hun hno => ?_) (hcl.set hj) (by rw [Array.size_setIfInBounds]; exact hsz) (ready_mono hr (Ne.symm hji)) h3.1 (h3.2.1.back hb hcl hr hj hji) ?_⟩) h2
      · refine hfree k ok hk hki ?_ hno
        by_cases hjk : j = k
        · subst hjk; exact hjun
        · rw [getD_set_ne true hjk] at hun; exact hun
      · rw [Array.setIfInBounds_comm _ _ hji]
        exact h3.2.2
def EG (C : Cx) (all : Array Oper) (Hs : List HA) (m f : Nat) (L : Array Bool) (E : Env) (H : List HA) (Q : Qt) : Prop := lateBinds all m = true → L.size = all.size → ∀ a w, At C E H a w → KS C Hs m L w → wpAnyG C all Q Hs m f L a w
variable {Hs : List HA} {m f : Nat} {L : Array Bool} {E E' : Env} {H H' : List HA}
theorem EG.take (i : Nat) {o : Oper} {d : Nat} {v : Value} (hi : all[i]? = some o) (hnd : noDefer all = true) (hQ : ∀ c a w, ¬ Q (.panic c) a w) (ht : takeOk all L i = true) (hg : guardOk all E o.guard = some true) (hd : o.dst = some d) (hdn : Nat.blt d C.n = true)
    (hv : RunV C E (need Hs m i) o v) (k : EG C all Hs m f (L.setIfInBounds i true) ((d, v) :: E) H Q) : EG C all Hs m (f + 1) L E H Q := by
  intro hb hsz a w ha hs
  simp only [takeOk, Bool.and_eq_true] at ht
  have hr : i ∈ Region.ready .any all L := by simpa using ht.1.2
  refine wpAnyG.first hi hnd hQ hb f L a w (fun j oj => Region.free_spec hi ht.1.1 j oj) (closedB_spec ht.2) hsz hr (.inl ⟨guardOk_wanted hg ha.1, fun w' hS => hv a w' ⟨ha.1, hS⟩⟩) hs ?_
  rw [hd]
  exact k hb (by rw [Array.size_setIfInBounds]; exact hsz) _ _ ⟨ha.1.put (by simpa using hdn) v, ha.2⟩ hs.quiet
def GK (C : Cx) (all : Array Oper) (Hs : List HA) (m f : Nat) (L : Array Bool) (Q : Qt) : Qt := fun e a w => match e with
  | .normal => KS C Hs m L w ∧ wpAnyG C all Q Hs m f L a w
  | e => Q e a w
theorem loud_opG {i : Nat} {o : Oper} (hi : all[i]? = some o) (k : EL C all [o] (GK C all Hs m f (L.setIfInBounds i true) Q) E H) {a : Act} {w : World} (ha : At C E H a w) :
    wpOpIn (F0 C.r) 0 C.P all Q i (fun a' w' => KS C Hs m (L.setIfInBounds i true) w' ∧ wpAnyG C all Q Hs m f (L.setIfInBounds i true) a' w') a w := by
  have hk := k a w ha
  have hD : ∀ e a w, GK C all Hs m f (L.setIfInBounds i true) Q e a w → match e with | .normal => KS C Hs m (L.setIfInBounds i true) w ∧ wpAnyG C all Q Hs m f (L.setIfInBounds i true) a w | e => Q e a w := fun e a w h => by
    cases e with
    | normal => exact h
    | _ => exact h
  unfold wpOpIn
  simp only [hi]
  simp only [wpListIn] at hk
  split
  · rename_i hw
    simp only [hw, if_true] at hk
    refine ⟨fun _ _ => trivial, ?_⟩
    have h2 := hk.2
    generalize (o.semAt (F0 C.r).round a.eval).run C.P w = r at *
    cases r with
    | ok x w' =>
      cases x <;> simp only [Oper.uponIn] at h2 ⊢
      case value u => exact hD _ _ _ h2
      case skip => exact hD _ _ _ h2
      case defer d => exact hD _ _ _ h2
      case enter f args =>
        refine ⟨h2.1, CallsIn.mono h2.2 fun e w'' he => ?_⟩
        cases e with
        | returned u => exact hD _ _ _ he
        | panicked c => exact hD _ _ _ he
        | outgrown =>
          obtain ⟨a', w3, h3⟩ := he
          exact ⟨a', w3, hD _ _ _ h3⟩
      case row row args => exact ⟨h2.1, RowsIn.mono h2.2 fun u w'' he => hD _ _ _ he⟩
      case round l f tmps assign body =>
        refine ⟨h2.1, RoundIn.mono h2.2 fun e w'' he => ?_⟩
        cases e with
        | returned u => exact hD _ _ _ he
        | panicked c => exact hD _ _ _ he
        | outgrown =>
          obtain ⟨a', w3, h3⟩ := he
          exact ⟨a', w3, hD _ _ _ h3⟩
    | halt x w' =>
      cases x <;> simp only [Oper.uponIn] at h2 ⊢
      case panic u => exact hD _ _ _ h2
  · rename_i hw
    simp only [hw] at hk
    exact ⟨fun _ _ => trivial, hD _ _ _ hk.2⟩
def EGone (C : Cx) (all : Array Oper) (Hs : List HA) (m f : Nat) (L : Array Bool) (E : Env) (H : List HA) (Q : Qt) (j : Nat) : Prop := ∃ o, all[j]? = some o ∧ EL C all [o] (GK C all Hs m f (L.setIfInBounds j true) Q) E H
def EGall (C : Cx) (all : Array Oper) (Hs : List HA) (m f : Nat) (L : Array Bool) (E : Env) (H : List HA) (Q : Qt) : List Nat → Prop
  | [] => True
  | j :: r => EGone C all Hs m f L E H Q j ∧ EGall C all Hs m f L E H Q r
theorem EGall.get : ∀ {js : List Nat}, EGall C all Hs m f L E H Q js → ∀ j ∈ js, EGone C all Hs m f L E H Q j
  | j :: r, h, k, hk => by
    rcases List.mem_cons.1 hk with rfl | hk
    · exact h.1
    · exact EGall.get h.2 k hk
theorem EG.fork (i : Nat) (js : List Nat) (hr : (Region.ready .any all L == i :: js) = true) (h : EGall C all Hs m f L E H Q (i :: js)) : EG C all Hs m (f + 1) L E H Q := by
  intro hb hsz a w ha hs
  have hR : Region.ready .any all L = i :: js := by simpa using hr
  refine ⟨fun h => (by rw [hR] at h; cases h), fun j hj => ?_⟩
  rw [hR] at hj
  obtain ⟨o, ho, k⟩ := h.get j hj
  exact loud_opG ho k ha
theorem EG.loud (i : Nat) {o : Oper} (hi : all[i]? = some o) (hr : readyIs all L i = true) (k : EL C all [o] (GK C all Hs m f (L.setIfInBounds i true) Q) E H) : EG C all Hs m (f + 1) L E H Q := by
  intro hb hsz a w ha hs
  have hR : Region.ready .any all L = [i] := by
    unfold readyIs at hr
    split at hr
    · rename_i j hj; rw [hj, Nat.eq_of_beq_eq_true hr]
    · cases hr
  refine ⟨fun h => (by rw [hR] at h; cases h), fun j hj => ?_⟩
  rw [hR] at hj
  obtain rfl : j = i := by simpa using hj
  exact loud_opG hi k ha
theorem EG.next (hb : lateBinds all m = true) (hsz : Nat.beq L.size all.size = true) (hs : Ent H Hs) (k : EG C all Hs m f L E H Q) : EL C all [] (GK C all Hs m f L Q) E H := fun a w ha =>
  have hk : KS C Hs m L w := ⟨ha.2.ent (.nil _), fun _ => ha.2.ent hs⟩
  ⟨hk, k hb (Nat.eq_of_beq_eq_true hsz) a w ha hk⟩
theorem EG.nextL (hb : lateBinds all m = true) (hsz : Nat.beq L.size all.size = true) (hl : someLate m L = true) (k : EG C all Hs m f L E H Q) : EL C all [] (GK C all Hs m f L Q) E H := fun a w ha =>
  have hk : KS C Hs m L w := ⟨ha.2.ent (.nil _), fun h => by rw [hl] at h; cases h⟩
  ⟨hk, k hb (Nat.eq_of_beq_eq_true hsz) a w ha hk⟩
theorem EG.done (hr : (match Region.ready .any all L with | [] => true | _ => false) = true) (k : PX C Q .normal E H) : EG C all Hs m f L E H Q := by
  intro hb hsz a w ha hs
  have hR : Region.ready .any all L = [] := by
    split at hr
    · assumption
    · cases hr
  cases f with
  | zero => exact ⟨hR, k a w ha⟩
  | succ f => exact ⟨fun _ => k a w ha, fun i hi => absurd hi (by rw [hR]; simp)⟩
theorem ES.drawG {X : Type} {id : Nat} {ops : Array Oper} {cs : List Code} (Ex : X → Env) (Hx : X → List HA) (m : Nat) (Hs : List HA) (hm : C.P.follows .mixedOrders = true) (hb : lateBinds ops m = true) (hs : Ent H Hs)
    (h : EG C ops Hs m ops.size (Array.replicate ops.size false) E H (CutX C Ex Hx)) (k : ∀ x, ES C cs Q (Ex x) (Hx x)) : ES C (.region id ops true :: cs) Q E H := by
  intro a w ha
  have h1 := wpAnyG.any _ _ _ _ (h hb (by simp) a { w with drawn := w.drawn + 1 } ⟨ha.1, ha.2.drewN _⟩ ⟨(ha.2.ent (.nil _)).drewN _, fun _ => (ha.2.ent hs).drewN _⟩)
  have h2 := wpIn_region_any (id := id) hm h1
  refine wpIn_mono h2 ?_
  intro e a' w' hq
  cases e with
  | normal =>
    obtain ⟨_, x, hat⟩ := hq
    exact k x a' w' hat
  | _ => cases (hq.1 : _ = Exit.normal)
end draws2
end Go.Proofs.Ytblpgpgbnlhjlaa.Sl
namespace Go.Proofs.Ytblpgpgbnlhjlaa
open Go Go.RowKit Sl
set_option maxRecDepth 100000
set_option maxHeartbeats 8000000
set_option linter.unusedVariables false
set_option linter.unusedSimpArgs false
attribute [local irreducible] ES EL PX wps
abbrev yt (t : List UInt8) : List (List Value) := (toksM t).map fun k => [tokV k]
theorem toks_len (t : List UInt8) : ∀ (n a : Nat) (f b : Bool), (toksGo t n a f b).length ≤ n
  | 0, _, _, _ => Nat.zero_le _
  | n + 1, a, f, b => by
    rw [toksGo]
    split
    · simp
    · dsimp only
      split
      · simp
      · have := toks_len t n (readT t a f b).2 (decide ((readT t a f b).1.kind = 3)) (decide ((readT t a f b).1.kind = 3) || decide ((readT t a f b).1.kind = 1))
        simp only [List.length_cons]; omega
theorem tok1_iter (gs : Nat) (t : List UInt8) (ht : t.length ≤ 1073741824) (W0 : World) (B0 : Nat) (hG : GR W0 B0) : Iter Try.prog 75 #[Pv gs 0] (yt t) [HA.blk gs (.cells #[Sv t] 9)] W0 B0 := by
  intro l I Ix hY A R W hI hs
  replace hs : Sat W0 B0 (HA.blk gs (.cells #[Sv t] 9) :: A :: R) W := hs
  refine calls_of_ES TB Try.func75 rfl _ Try.ntmps75 rfl hs ?_
  refine .go ?_; repeat constructor
  refine EL.assign rfl rfl rfl ?_
  refine EL.assign rfl rfl rfl ?_
  refine .go ?_; repeat constructor
  refine EL.assign rfl rfl rfl ?_
  refine .go ?_; repeat constructor
  refine ES.loop (σ := Nat × Nat × Nat × Bool × Bool × HA) (fun (i, n, a, f, b, A) => a ≤ t.length ∧ t.length ≤ n + a ∧ toksGo t n a f b = (toksM t).drop i ∧ i ≤ (toksM t).length ∧ I i A) (fun (i, n, a, f, b, A) => [(0, .func (.yield l) #[] #[]), (1, Pv gs 0), (3, .bool f), (4, .bool b), (5, Iv (a : Nat))])
    (fun (i, n, a, f, b, A) => HA.blk gs (.cells #[Sv t] 9) :: A :: R) (fun (i, n, a, f, b, A) => t.length - a) (0, t.length, 0, true, true, A) ⟨Nat.zero_le _, by omega, rfl, Nat.zero_le _, hI⟩ ⟨rfl, rfl, rfl, rfl, rfl, trivial⟩ (.i (by repeat constructor)) ?_
  rintro ⟨i, n, a, f, b, A⟩ ⟨ha, hn, hgo, hi, hI⟩
  dsimp only at ha hn hgo hi hI ⊢
  refine .go ?_; repeat constructor
  refine EL.move rfl rfl rfl ?_
  (apply EL.loadB; exact rfl; exact rfl; exact rfl; exact rfl; exact rfl; (case hm => repeat constructor); exact rfl)
  refine EL.lenS rfl rfl rfl rfl rfl ?_
  refine EL.lss rfl rfl rfl rfl ?_
  refine .go ?_; repeat constructor
  refine ES.condD rfl (fun hlt => ?_) (fun hge => ?_)
  · have hlt' : a < t.length := by omega
    obtain ⟨m, rfl⟩ : ∃ m, n = m + 1 := ⟨n - 1, by omega⟩
    rw [toksGo, if_neg (by omega)] at hgo
    dsimp only at hgo
    have hnx := readT_at t a f b hlt'
    have hrc := readTok_c t a f b hlt' ht
    generalize readT t a f b = r at hgo hnx hrc
    obtain ⟨k, nx⟩ := r
    dsimp only at hgo hnx hrc
    have hat : (toksM t)[i]? = some k := by
      have : ((toksM t).drop i)[0]? = some k := by rw [← hgo]; split <;> rfl
      simpa using this
    have hilt : i < (toksM t).length := (List.getElem?_eq_some_iff.1 hat).1
    have hx : (yt t)[i]? = some [tokV k] := by rw [List.getElem?_map, hat]; rfl
    refine .go ?_; repeat constructor
    (apply EL.loadB; exact rfl; exact rfl; exact rfl; exact rfl; exact rfl; (case hm => repeat constructor); exact rfl)
    refine EL.move rfl rfl rfl ?_
    refine EL.move rfl rfl rfl ?_
    refine EL.move rfl rfl rfl ?_
    refine EL.callPw rfl rfl rfl ent76 rfl (fun w hs => hrc w (GR.sat hG hs)) ?_
    refine EL.move rfl rfl rfl ?_
    refine EL.extract rfl rfl rfl rfl ?_
    refine EL.extract rfl rfl rfl rfl ?_
    (refine EL.alloc rfl rfl rfl ?_; intro g6)
    (apply EL.storeAll; exact rfl; exact rfl; exact rfl; exact rfl; exact rfl; (case p => repeat constructor); exact rfl; (case h1 => exact (by first | rfl | exact all1 rfl | (intro u hu; simp only [List.mem_cons, List.not_mem_nil, or_false] at hu; rcases hu with rfl | rfl | rfl | rfl <;> rfl) | (intro u hu; simp at hu; rcases hu with rfl | rfl | rfl | rfl <;> rfl) | (intro u hu; simp at hu; rcases hu with rfl | rfl | rfl <;> rfl) | (intro u hu; simp at hu; rcases hu with rfl | rfl <;> rfl) | (intro u hu; simp at hu; obtain ⟨_, _, rfl⟩ := hu; rfl))))
    refine EL.assign rfl rfl rfl ?_
    refine .go ?_; repeat constructor
    refine EL.fieldAddr rfl rfl rfl rfl rfl rfl rfl rfl ?_
    (apply EL.loadB; exact rfl; exact rfl; exact rfl; exact rfl; exact rfl; (case hm => repeat constructor); exact rfl)
    refine EL.eqlI rfl rfl rfl rfl ?_
    refine EL.assign rfl rfl rfl ?_
    refine .go ?_; repeat constructor
    refine EL.cutX (X := Unit) (fun _ => [(0, .func (.yield l) #[] #[]), (1, Pv gs 0), (3, .bool (decide (k.kind = 3))), (4, .bool (decide (k.kind = 3) || decide (k.kind = 1))), (6, Pv g6 0), (7, Iv (nx : Nat))]) (fun _ => HA.blk g6 (.cells (tokCells k) 148) :: HA.blk gs (.cells #[Sv t] 9) :: A :: R) ?_ (fun _ => ?_)
    · refine .go ?_; repeat constructor
      refine EL.move rfl rfl rfl ?_
      refine EL.move rfl rfl rfl ?_
      first | refine EL.splitD (d := 24) rfl (fun hp24 => ?_) (fun hp24 => ?_) | refine EL.splitN (d := 24) rfl (fun hp24 => ?_) (fun hp24 => ?_) | refine EL.splitB (d := 24) rfl (fun hp24 => ?_) (fun hp24 => ?_)
      · refine EL.pass rfl rfl rfl ?_
        refine EL.pass rfl rfl rfl ?_
        refine EL.pass rfl rfl rfl ?_
        refine EL.pickT rfl rfl rfl rfl ?_
        refine EL.assign rfl rfl rfl ?_
        exact EL.endX () ⟨rfl, rfl, getA rfl (congrArg Value.bool (by rw [Bool.eq_iff_iff]; simp only [decide_eq_true_eq]; omega)), getA rfl (congrArg Value.bool (by rw [Bool.eq_iff_iff]; simp only [decide_eq_true_eq, Bool.or_eq_true, true_iff]; omega)), rfl, rfl, trivial⟩ (.i (by repeat constructor))
      · refine EL.fieldAddr rfl rfl rfl rfl rfl rfl rfl rfl ?_
        (apply EL.loadB; exact rfl; exact rfl; exact rfl; exact rfl; exact rfl; (case hm => repeat constructor); exact rfl)
        refine EL.eqlI rfl rfl rfl rfl ?_
        refine EL.pickF rfl rfl rfl rfl ?_
        refine EL.assign rfl rfl rfl ?_
        exact EL.endX () ⟨rfl, rfl, getA rfl (congrArg Value.bool (by rw [Bool.eq_iff_iff]; simp only [decide_eq_true_eq]; omega)), getA rfl (congrArg Value.bool (by rw [Bool.eq_iff_iff]; simp only [decide_eq_true_eq, Bool.or_eq_true, true_iff]; omega)), rfl, rfl, trivial⟩ (.i (by repeat constructor))
    refine .go ?_; repeat constructor
    refine EL.move rfl rfl rfl ?_
    (apply EL.loadAggB; exact rfl; exact rfl; exact rfl; exact rfl; exact rfl; (case hm => repeat constructor); exact rfl)
    refine EL.yield rfl rfl rfl rfl hY hI hx (by repeat constructor) (fun A' hI' => ?_) (fun A' hX' => ?_)
    · refine EL.not rfl rfl rfl ?_
      refine EL.move rfl rfl rfl ?_
      refine EL.rew (d := 33) (v' := .bool false) rfl (by first | rfl | (decide) | (simp)) ?_
      refine EL.fieldAddr rfl rfl rfl rfl rfl rfl rfl rfl ?_
      (apply EL.loadB; exact rfl; exact rfl; exact rfl; exact rfl; exact rfl; (case hm => repeat constructor); exact rfl)
      refine EL.eqlI rfl rfl rfl rfl ?_
      refine EL.pickF rfl rfl rfl rfl ?_
      refine .go ?_; repeat constructor
      refine ES.condD rfl (fun h7 => ?_) (fun h7 => ?_)
      · rw [if_pos (by omega)] at hgo
        have hlen : (yt t).length = i + 1 := by
          have := congrArg List.length hgo
          simp only [List.length_cons, List.length_nil, List.length_drop] at this
          simp only [List.length_map]; omega
        refine .go ?_; repeat constructor
        exact PX.ret rfl Try.results75 .nil (fun w hs => ⟨⟨_, rfl⟩, .inl ⟨A', by rw [hlen]; exact hI', hs.ent (.i (by repeat constructor))⟩⟩)
      · rw [if_neg (by omega)] at hgo
        have hb2 := hnx (by omega)
        refine .go ?_; repeat constructor
        refine EL.move rfl rfl rfl ?_
        refine EL.assign rfl rfl rfl ?_
        refine .go ?_; repeat constructor
        refine PX.loop (i + 1, m, nx, decide (k.kind = 3), decide (k.kind = 3) || decide (k.kind = 1), A') ⟨hb2.2, by simp only; omega, by simp only; have := congrArg List.tail hgo; simpa [List.tail_drop] using this, by simp only; omega, hI'⟩ (by simp only; omega) ⟨rfl, rfl, rfl, rfl, rfl, trivial⟩ (.i (by repeat constructor))
    · refine EL.not rfl rfl rfl ?_
      refine EL.move rfl rfl rfl ?_
      refine EL.rew (d := 33) (v' := .bool true) rfl (by first | rfl | (decide) | (simp)) ?_
      refine EL.pass rfl rfl rfl ?_
      refine EL.pass rfl rfl rfl ?_
      refine EL.pass rfl rfl rfl ?_
      refine EL.pickT rfl rfl rfl rfl ?_
      refine .go ?_; repeat constructor
      refine ES.condT rfl ?_
      refine .go ?_; repeat constructor
      exact PX.ret rfl Try.results75 .nil (fun w hs => ⟨⟨_, rfl⟩, .inr ⟨_, A', hX', hs.ent (.i (by repeat constructor))⟩⟩)
  · have hlen : (yt t).length = i := by
      have h1 : toksGo t n a f b = [] := by
        cases n with
        | zero => rfl
        | succ n => rw [toksGo, if_pos (by omega)]
      rw [h1] at hgo
      have := congrArg List.length hgo
      simp only [List.length_nil, List.length_drop] at this
      simp only [List.length_map]; omega
    refine .go ?_; repeat constructor
    exact PX.end rfl Try.results75 .nil (fun w hs => ⟨⟨_, rfl⟩, .inl ⟨A, by rw [hlen]; exact hI, hs.ent (.i (by repeat constructor))⟩⟩)
theorem tokens_c (t : List UInt8) (w : World) : Pure Try.prog 57 #[Sv t] (fun g : Nat => .func (.func 75) #[] #[Pv g 0]) (fun g => [HA.blk g (.cells #[Sv t] 9)]) w := by
  refine calls_of_ES TB Try.func57 rfl _ Try.ntmps57 rfl (Sat.start w) ?_
  refine .go ?_; repeat constructor
  (refine EL.box rfl rfl rfl ?_; intro g1)
  refine EL.assign rfl rfl rfl ?_
  refine .go ?_; repeat constructor
  refine EL.makeFunc rfl rfl rfl ?_
  refine EL.assign rfl rfl rfl ?_
  refine .go ?_; repeat constructor
  exact PX.ret rfl Try.results57 (.cons (.tmp rfl) .nil) (fun w hs => ⟨g1, rfl, hs.ent (.i (by repeat constructor))⟩)
def frC (kad : Option Addr) (n kcap : Nat) (sad : Option Addr) (m scap gr at_ : Nat) : List Value := [.slice kad n kcap, .slice sad m scap, Iv (gr : Nat), Iv (at_ : Nat)]
theorem pre_at (pre cs : List Value) (k i : Nat) (h : pre.length = k) : (pre ++ cs)[k + i]? = cs[i]? := by
  rw [List.getElem?_append_right (by omega), h]; congr 1; omega
theorem pre_set (pre cs : List Value) (k i : Nat) (u : Value) (h : pre.length = k) : (pre ++ cs).set (k + i) u = pre ++ cs.set i u := by
  rw [List.set_append_right _ _ (by omega), h]; congr 2; omega
abbrev FB (fg m fcap : Nat) (cs : List Value) : HA := HA.row (.slice (some ⟨fg, 0, none⟩) m fcap) 139 4 m cs
abbrev PB (g fg m fcap : Nat) (rest : List Value) : HA := HA.blk g (.cells (Value.slice (some ⟨fg, 0, none⟩) m fcap :: rest).toArray 143)
abbrev KR (kad : Option Addr) (n kcap : Nat) (kcs : List Value) : HA := HA.row (.slice kad n kcap) 82 9 n kcs
abbrev ZR (sad : Option Addr) (scap : Nat) (zs : List Nat) : HA := HA.row (.slice sad zs.length scap) 3 1 zs.length (zs.map fun z : Nat => Iv (z : Nat))
theorem put_end (kcs z9 rc : List Value) (off : Nat) (h1 : kcs.length = off) (h2 : z9.length = rc.length) : putAt (kcs ++ z9) off rc = kcs ++ rc := by
  unfold putAt
  rw [List.take_left' h1, List.drop_of_length_le (by rw [List.length_append]; omega), List.append_nil]
theorem top_c (g fg k fcap : Nat) (rest cs : List Value) (hk : k ≤ 4096) :
    Mut Try.prog 59 #[Pv g 0] [PB g fg (k + 1) fcap rest, FB fg (k + 1) fcap cs] (fun _ : Unit => Pv fg (k * 4)) (fun _ => [PB g fg (k + 1) fcap rest, FB fg (k + 1) fcap cs]) := by
  intro w0 B R w h
  replace h : Sat w0 B (PB g fg (k + 1) fcap rest :: FB fg (k + 1) fcap cs :: R) w := h
  refine calls_of_ES TB Try.func59 rfl _ Try.ntmps59 rfl h ?_
  refine .go ?_; repeat constructor
  refine EL.assign rfl rfl rfl ?_
  refine .go ?_; repeat constructor
  refine ES.draw (X := Unit) (fun _ => [(2, Pv fg (k * 4))]) (fun _ => PB g fg (k + 1) fcap rest :: FB fg (k + 1) fcap cs :: R) (PB g fg (k + 1) fcap rest :: FB fg (k + 1) fcap cs :: R) mixed (.i (by repeat constructor)) ?_ (fun _ => ?_)
  · refine ED.take 0 rfl (by decide +kernel) CutX.no_panic (by decide +kernel) rfl rfl rfl (RV.move rfl) ?_
    refine ED.take 1 rfl (by decide +kernel) CutX.no_panic (by decide +kernel) rfl rfl rfl (RV.nilCheck rfl) ?_
    refine ED.take 2 rfl (by decide +kernel) CutX.no_panic (by decide +kernel) rfl rfl rfl (RV.fieldAddr rfl rfl rfl rfl rfl rfl) ?_
    refine ED.take 3 rfl (by decide +kernel) CutX.no_panic (by decide +kernel) rfl rfl rfl (RV.loadB rfl rfl rfl (by repeat constructor) rfl) ?_
    refine ED.take 4 rfl (by decide +kernel) CutX.no_panic (by decide +kernel) rfl rfl rfl (RV.move rfl) ?_
    refine ED.take 5 rfl (by decide +kernel) CutX.no_panic (by decide +kernel) rfl rfl rfl (RV.nilCheck rfl) ?_
    refine ED.take 6 rfl (by decide +kernel) CutX.no_panic (by decide +kernel) rfl rfl rfl (RV.fieldAddr rfl rfl rfl rfl rfl rfl) ?_
    refine ED.take 7 rfl (by decide +kernel) CutX.no_panic (by decide +kernel) rfl rfl rfl (RV.loadB rfl rfl rfl (by repeat constructor) rfl) ?_
    refine ED.take 8 rfl (by decide +kernel) CutX.no_panic (by decide +kernel) rfl rfl rfl (RV.lenL rfl rfl rfl) ?_
    refine ED.take 9 rfl (by decide +kernel) CutX.no_panic (by decide +kernel) rfl rfl rfl (RV.sub1 rfl rfl (by omega) (by omega)) ?_
    refine ED.take 10 rfl (by decide +kernel) CutX.no_panic (by decide +kernel) rfl rfl rfl (RV.indexAddrL rfl rfl rfl rfl rfl (by omega)) ?_
    refine ED.take 11 rfl (by decide +kernel) CutX.no_panic (by decide +kernel) rfl rfl rfl (RV.assign rfl) ?_
    refine ED.done (by decide +kernel) ?_
    exact PX.cutX () ⟨getA rfl (congrArg (Pv fg) (Nat.zero_add _)), trivial⟩ (.i (by repeat constructor))
  refine .go ?_; repeat constructor
  exact PX.ret rfl Try.results59 (.cons (.tmp rfl) .nil) (fun w hs => ⟨(), rfl, hs.ent (.i (by repeat constructor))⟩)
theorem put_c (g fg k fcap : Nat) (rest pre : List Value) (hpre : pre.length = k * 4) (hk : k ≤ 4096) (kad : Option Addr) (n kcap : Nat) (sad : Option Addr) (scap gr at_ : Nat) (kcs rc : List Value) (zs : List Nat) (z : Nat) (hn : n ≤ 65536) (hz : zs.length ≤ 65536) (hkl : kcs.length = n * 9) (hrc : rc.length = 9) (h1 : ∀ u ∈ rc, u.oneCell' = true) :
    Mut Try.prog 77 #[Pv g 0, .agg rc.toArray, Iv (z : Nat)] [PB g fg (k + 1) fcap rest, FB fg (k + 1) fcap (pre ++ frC kad n kcap sad zs.length scap gr at_), KR kad n kcap kcs, ZR sad scap zs]
      (fun _ : (Option Addr × Nat) × (Option Addr × Nat) => Iv 0)
      (fun x => [PB g fg (k + 1) fcap rest, FB fg (k + 1) fcap (pre ++ frC x.1.1 (n + 1) x.1.2 x.2.1 (zs.length + 1) x.2.2 gr at_), KR x.1.1 (n + 1) x.1.2 (kcs ++ rc), ZR x.2.1 x.2.2 (zs ++ [z])]) := by
  intro w0 B R w h
  replace h : Sat w0 B (PB g fg (k + 1) fcap rest :: FB fg (k + 1) fcap (pre ++ frC kad n kcap sad zs.length scap gr at_) :: KR kad n kcap kcs :: ZR sad scap zs :: R) w := h
  have htop := top_c g fg k fcap rest (pre ++ frC kad n kcap sad zs.length scap gr at_) hk
  refine calls_of_ES TB Try.func77 rfl _ Try.ntmps77 rfl h ?_
  refine .go ?_; repeat constructor
  (refine EL.box rfl rfl rfl ?_; intro g4)
  refine EL.assign rfl rfl rfl ?_
  refine .go ?_; repeat constructor
  refine EL.move rfl rfl rfl ?_
  refine EL.callM1 rfl rfl rfl ent59 rfl htop (by repeat constructor) ?_
  refine EL.assign rfl rfl rfl ?_
  refine .go ?_; repeat constructor
  refine ES.drawG (X := Nat × Nat) (fun x => [(0, Pv g 0), (2, Iv (z : Nat)), (7, Pv fg (k * 4))]) (fun x => PB g fg (k + 1) fcap rest :: FB fg (k + 1) fcap (pre ++ frC (some ⟨x.1, 0, none⟩) (n + 1) x.2 sad zs.length scap gr at_) :: KR (some ⟨x.1, 0, none⟩) (n + 1) x.2 (kcs ++ rc) :: ZR sad scap zs :: R) 7
    (HA.blk g4 (.cells rc.toArray 82) :: FB fg (k + 1) fcap (pre ++ frC kad n kcap sad zs.length scap gr at_) :: R) mixed (by decide +kernel) (.i (by repeat constructor)) ?_ (fun x => ?_)
  · refine EG.take 0 rfl (by decide +kernel) CutX.no_panic (by decide +kernel) rfl rfl rfl (RV.move rfl) ?_
    refine EG.take 1 rfl (by decide +kernel) CutX.no_panic (by decide +kernel) rfl rfl rfl (RV.nilCheck rfl) ?_
    refine EG.take 2 rfl (by decide +kernel) CutX.no_panic (by decide +kernel) rfl rfl rfl (RV.fieldAddr rfl rfl rfl rfl rfl rfl) ?_
    refine EG.take 3 rfl (by decide +kernel) CutX.no_panic (by decide +kernel) rfl rfl rfl (RV.loadR rfl rfl rfl (by repeat constructor) (pre_at pre _ (k * 4) 0 hpre)) ?_
    refine EG.take 4 rfl (by decide +kernel) CutX.no_panic (by decide +kernel) rfl rfl rfl (RV.loadBA rc rfl rfl rfl (by rw [hrc]; rfl) (by repeat constructor) (by simp)) ?_
    refine EG.take 5 rfl (by decide +kernel) CutX.no_panic (by decide +kernel) rfl rfl rfl (RV.lenL rfl rfl rfl) ?_
    refine EG.loud 6 rfl (by decide +kernel) ?_
    (refine EL.buildSlice1 rfl rfl rfl rfl rfl rfl rfl rfl rfl rfl ?_; intro b16)
    refine EG.next (by decide +kernel) rfl (.i (by repeat constructor)) ?_
    refine EG.loud 7 rfl (by decide +kernel) ?_
    (refine EL.append1 rfl rfl rfl rfl rfl rfl rfl rfl rfl (by repeat constructor) (by repeat constructor) (by first | (intro u hu; simp [Value.cells] at hu; subst hu; rfl) | exact all1 rfl) (by rfl) (by unfold maxLen; omega) (by first | omega | (show 1 * _ ≤ _; omega) | (show 8 * _ ≤ _; omega) | (show 16 * _ ≤ _; omega) | (show 24 * _ ≤ _; omega) | (show _ * 1 ≤ _; omega) | (show _ * 8 ≤ _; omega) | (show _ * 16 ≤ _; omega) | (show _ * 24 ≤ _; omega) | exact Nat.le_trans (Nat.mul_le_mul_right _ (show _ ≤ 1073741824 by omega)) (by decide)) ?_; intro a17 c17)
    refine EG.nextL (by decide +kernel) rfl (by decide +kernel) ?_
    refine EG.take 8 rfl (by decide +kernel) CutX.no_panic (by decide +kernel) rfl rfl rfl (RV.indexAddrL (i := n) rfl rfl rfl rfl rfl (by omega)) ?_
    refine EG.take 10 rfl (by decide +kernel) CutX.no_panic (by decide +kernel) rfl rfl rfl (RV.nilCheck rfl) ?_
    refine EG.take 11 rfl (by decide +kernel) CutX.no_panic (by decide +kernel) rfl rfl rfl (RV.fieldAddr rfl rfl rfl rfl rfl rfl) ?_
    refine EG.fork 9 [12] (by decide +kernel) ⟨⟨_, rfl, ?_⟩, ⟨_, rfl, ?_⟩, trivial⟩
    · (refine EL.storeRA (vs := rc) rfl rfl rfl rfl (by rw [hrc]; rfl) (by repeat constructor) (by rw [List.length_append, hkl, hrc]; exact Nat.le_of_eq (by show 0 + n * 9 + 9 = n * 9 + 9; omega)) h1 ?_; refine EL.rowEq (v := .slice (some ⟨a17, 0, none⟩) (n + 1) c17) (by repeat constructor) (put_end _ _ _ _ (by rw [hkl]; show n * 9 = 0 + n * 9; omega) (by rw [hrc]; rfl)) ?_)
      refine EG.nextL (by decide +kernel) rfl (by decide +kernel) ?_
      refine EG.loud 12 rfl (by decide +kernel) ?_
      (refine EL.storeR rfl rfl rfl rfl rfl rfl (by repeat constructor) (by rw [List.length_append, hpre]; show k * 4 + 0 < k * 4 + 4; omega) ?_; refine EL.rowEq (v := .slice (some ⟨fg, 0, none⟩) (k + 1) fcap) (by repeat constructor) (pre_set pre _ (k * 4) 0 _ hpre) ?_)
      refine EG.nextL (by decide +kernel) rfl (by decide +kernel) ?_
      refine EG.done (by decide +kernel) ?_
      exact PX.cutX (a17, c17) ⟨rfl, rfl, rfl, trivial⟩ (.i (by repeat constructor))
    · (refine EL.storeR rfl rfl rfl rfl rfl rfl (by repeat constructor) (by rw [List.length_append, hpre]; show k * 4 + 0 < k * 4 + 4; omega) ?_; refine EL.rowEq (v := .slice (some ⟨fg, 0, none⟩) (k + 1) fcap) (by repeat constructor) (pre_set pre _ (k * 4) 0 _ hpre) ?_)
      refine EG.nextL (by decide +kernel) rfl (by decide +kernel) ?_
      refine EG.loud 9 rfl (by decide +kernel) ?_
      (refine EL.storeRA (vs := rc) rfl rfl rfl rfl (by rw [hrc]; rfl) (by repeat constructor) (by rw [List.length_append, hkl, hrc]; exact Nat.le_of_eq (by show 0 + n * 9 + 9 = n * 9 + 9; omega)) h1 ?_; refine EL.rowEq (v := .slice (some ⟨a17, 0, none⟩) (n + 1) c17) (by repeat constructor) (put_end _ _ _ _ (by rw [hkl]; show n * 9 = 0 + n * 9; omega) (by rw [hrc]; rfl)) ?_)
      refine EG.nextL (by decide +kernel) rfl (by decide +kernel) ?_
      refine EG.done (by decide +kernel) ?_
      exact PX.cutX (a17, c17) ⟨rfl, rfl, rfl, trivial⟩ (.i (by repeat constructor))
  obtain ⟨kg, kc⟩ := x
  dsimp only
  refine .go ?_; repeat constructor
  refine EL.move rfl rfl rfl ?_
  refine EL.move rfl rfl rfl ?_
  refine EL.nilCheck rfl rfl rfl ?_
  refine EL.fieldAddr rfl rfl rfl rfl rfl rfl rfl rfl ?_
  refine EL.loadR rfl rfl rfl rfl rfl (by repeat constructor) (pre_at pre _ (k * 4) 1 hpre) ?_
  refine EL.move rfl rfl rfl ?_
  (refine EL.buildSlice1 rfl rfl rfl rfl rfl rfl rfl rfl rfl rfl ?_; intro b27)
  (refine EL.append1 rfl rfl rfl rfl rfl rfl rfl rfl rfl (by repeat constructor) (by repeat constructor) (by first | (intro u hu; simp [Value.cells] at hu; subst hu; rfl) | exact all1 rfl) (by rfl) (by unfold maxLen; omega) (by first | omega | (show 1 * _ ≤ _; omega) | (show 8 * _ ≤ _; omega) | (show 16 * _ ≤ _; omega) | (show 24 * _ ≤ _; omega) | (show _ * 1 ≤ _; omega) | (show _ * 8 ≤ _; omega) | (show _ * 16 ≤ _; omega) | (show _ * 24 ≤ _; omega) | exact Nat.le_trans (Nat.mul_le_mul_right _ (show _ ≤ 1073741824 by omega)) (by decide)) ?_; intro a28 c28)
  refine EL.nilCheck rfl rfl rfl ?_
  refine EL.fieldAddr rfl rfl rfl rfl rfl rfl rfl rfl ?_
  (refine EL.storeR rfl rfl rfl rfl rfl rfl (by repeat constructor) (by rw [List.length_append, hpre]; show k * 4 + 1 < k * 4 + 4; omega) ?_; refine EL.rowEq (v := .slice (some ⟨fg, 0, none⟩) (k + 1) fcap) (by repeat constructor) (pre_set pre _ (k * 4) 1 _ hpre) ?_)
  refine .go ?_; repeat constructor
  refine EL.assign rfl rfl rfl ?_
  refine .go ?_; repeat constructor
  refine PX.ret rfl Try.results77 (.cons (.tmp rfl) .nil) (fun w hs => ⟨((some ⟨kg, 0, none⟩, kc), (some ⟨a28, 0, none⟩, c28)), rfl, ?_⟩)
  show Sat w0 B (PB g fg (k + 1) fcap rest :: FB fg (k + 1) fcap (pre ++ frC (some ⟨kg, 0, none⟩) (n + 1) kc (some ⟨a28, 0, none⟩) (zs.length + 1) c28 gr at_) :: KR (some ⟨kg, 0, none⟩) (n + 1) kc (kcs ++ rc) :: HA.row (.slice (some ⟨a28, 0, none⟩) (zs ++ [z]).length c28) 3 1 (zs ++ [z]).length ((zs ++ [z]).map fun z : Nat => Iv (z : Nat)) :: R) w
  rw [List.length_append, List.length_singleton, List.map_append]
  exact hs.ent (.i (by repeat constructor))
end Go.Proofs.Ytblpgpgbnlhjlaa
namespace Go.Proofs.Ytblpgpgbnlhjlaa
open Go Go.RowKit Sl
set_option maxRecDepth 100000
set_option maxHeartbeats 8000000
set_option linter.unusedVariables false
set_option linter.unusedSimpArgs false
attribute [local irreducible] ES EL PX wps
abbrev PR (groups : Nat) (sh : List Bool) (size : Nat) : List Value := Iv (groups : Nat) :: (sh.map Value.bool ++ [Iv (size : Nat)])
theorem setIf_list (l : List Value) (i : Nat) (u : Value) : l.toArray.setIfInBounds i u = (l.set i u).toArray := by simp
theorem pr_size_get (v : Value) (gr size : Nat) (sh : List Bool) (h : sh.length = 10) : (v :: PR gr sh size).toArray[12]? = some (Iv (size : Nat)) := by
  simp only [List.getElem?_toArray, PR, List.getElem?_cons_succ]
  rw [List.getElem?_append_right (by simp; omega)]
  simp [h]
theorem pr_size_set (v : Value) (gr size s2 : Nat) (sh : List Bool) (h : sh.length = 10) : (v :: PR gr sh size).toArray.setIfInBounds 12 (Iv (s2 : Nat)) = (v :: PR gr sh s2).toArray := by
  rw [setIf_list]
  simp only [PR, List.set_cons_succ]
  rw [List.set_append_right _ _ (by simp; omega)]
  simp [h]
theorem pr_shut_get (v : Value) (gr size i : Nat) (sh : List Bool) (hi : i < sh.length) : (v :: PR gr sh size).toArray[2 + i]? = some (.bool (sh.getD i false)) := by
  rw [List.getElem?_toArray, show 2 + i = i + 1 + 1 by omega]
  simp only [PR, List.getElem?_cons_succ]
  rw [List.getElem?_append_left (by simpa using hi), List.getElem?_map, List.getElem?_eq_getElem hi]
  simp [List.getD_eq_getElem?_getD, List.getElem?_eq_getElem hi]
theorem pr_shut_set (v : Value) (gr size i : Nat) (sh : List Bool) (b : Bool) (hi : i < sh.length) : (v :: PR gr sh size).toArray.setIfInBounds (2 + i) (.bool b) = (v :: PR gr (sh.set i b) size).toArray := by
  rw [setIf_list, show 2 + i = i + 1 + 1 by omega]
  simp only [PR, List.set_cons_succ]
  rw [List.set_append_left _ _ (by simpa using hi), List.map_set]
theorem pr_shut_put (v : Value) (gr size i n : Nat) (sh : List Bool) (b : Bool) (hi : i < sh.length) (hn : n = 2 + i) : (v :: PR gr sh size).toArray.setIfInBounds n (.bool b) = (v :: PR gr (sh.set i b) size).toArray := by
  rw [hn]; exact pr_shut_set v gr size i sh b hi
theorem pr_groups_set (v : Value) (gr g2 size : Nat) (sh : List Bool) : (v :: PR gr sh size).toArray.setIfInBounds 1 (Iv (g2 : Nat)) = (v :: PR g2 sh size).toArray := by
  rw [setIf_list]; rfl
theorem pr_frames_set (v u : Value) (rest : List Value) : (v :: rest).toArray.setIfInBounds 0 u = (u :: rest).toArray := by
  rw [setIf_list]; rfl
theorem pr_len (v : Value) (gr size : Nat) (sh : List Bool) (h : sh.length = 10) : (v :: PR gr sh size).toArray.size = 13 := by simp [h]
theorem grow_c (g fg m fcap gr size s2 : Nat) (sh : List Bool) (d : Int) (hsh : sh.length = 10) (hd : (size : Int) + d = (s2 : Nat)) (hs : s2 ≤ 1073741824) :
    Mut Try.prog 78 #[Pv g 0, Iv d] [PB g fg m fcap (PR gr sh size)] (fun _ : Unit => Iv (growE s2)) (fun _ => [PB g fg m fcap (PR gr sh s2)]) := by
  intro w0 B R w h
  replace h : Sat w0 B (PB g fg m fcap (PR gr sh size) :: R) w := h
  have hge : growE s2 = if 256 < s2 then 13 else 0 := rfl
  refine calls_of_ES TB Try.func78 rfl _ Try.ntmps78 rfl h ?_
  refine .go ?_; repeat constructor
  refine EL.assign rfl rfl rfl ?_
  refine .go ?_; repeat constructor
  refine EL.move rfl rfl rfl ?_
  refine EL.nilCheck rfl rfl rfl ?_
  refine EL.fieldAddr rfl rfl rfl rfl rfl rfl rfl rfl ?_
  refine EL.loadB rfl rfl rfl rfl rfl (by repeat constructor) (pr_size_get _ gr size sh hsh) ?_
  refine EL.move rfl rfl rfl ?_
  refine EL.add ((s2 : Nat) : Int) rfl rfl rfl rfl (by rw [hd]; exact wrap_i64 _ (by omega) (by omega)) ?_
  refine EL.nilCheck rfl rfl rfl ?_
  refine EL.fieldAddr rfl rfl rfl rfl rfl rfl rfl rfl ?_
  (refine EL.storeB rfl rfl rfl rfl rfl rfl (by repeat constructor) (by rw [pr_len _ _ _ _ hsh]; decide) ?_; refine EL.blkEq (g := g) (by repeat constructor) (congrArg (fun a => Obj.cells a 143 (0, 0)) (pr_size_set _ gr size s2 sh hsh)) ?_)
  refine .go ?_; repeat constructor
  refine EL.move rfl rfl rfl ?_
  refine EL.nilCheck rfl rfl rfl ?_
  refine EL.fieldAddr rfl rfl rfl rfl rfl rfl rfl rfl ?_
  refine EL.loadB rfl rfl rfl rfl rfl (by repeat constructor) (pr_size_get _ gr s2 sh hsh) ?_
  refine EL.gtr rfl rfl rfl rfl ?_
  refine .go ?_; repeat constructor
  refine ES.condD rfl (fun hgt => ?_) (fun hle => ?_)
  · rw [if_pos (by omega)] at hge
    rw [hge]
    refine .go ?_; repeat constructor
    refine EL.assign rfl rfl rfl ?_
    refine .go ?_; repeat constructor
    exact PX.ret rfl Try.results78 (.cons (.tmp rfl) .nil) (fun w hs => ⟨(), rfl, hs.ent (.i (by repeat constructor))⟩)
  · rw [if_neg (by omega)] at hge
    rw [hge]
    refine .go ?_; repeat constructor
    refine EL.assign rfl rfl rfl ?_
    refine .go ?_; repeat constructor
    exact PX.ret rfl Try.results78 (.cons (.tmp rfl) .nil) (fun w hs => ⟨(), rfl, hs.ent (.i (by repeat constructor))⟩)
theorem open_full (g fg m fcap : Nat) (rest : List Value) (a : Nat) :
    Mut Try.prog 79 #[Pv g 0, Iv (a : Nat)] [PB g fg m fcap (Iv 9 :: rest)] (fun _ : Unit => Iv 4) (fun _ => []) := by
  intro w0 B R w h
  replace h : Sat w0 B (PB g fg m fcap (Iv 9 :: rest) :: R) w := h
  refine calls_of_ES TB Try.func79 rfl _ Try.ntmps79 rfl h ?_
  refine .go ?_; repeat constructor
  refine EL.assign rfl rfl rfl ?_
  refine .go ?_; repeat constructor
  refine EL.move rfl rfl rfl ?_
  refine EL.nilCheck rfl rfl rfl ?_
  refine EL.fieldAddr rfl rfl rfl rfl rfl rfl rfl rfl ?_
  (apply EL.loadB; exact rfl; exact rfl; exact rfl; exact rfl; exact rfl; (case hm => repeat constructor); exact rfl)
  refine EL.eqlI rfl rfl rfl rfl ?_
  refine .go ?_; repeat constructor
  refine ES.condK true rfl (decide_eq_true rfl) ?_
  refine .go ?_; repeat constructor
  refine EL.assign rfl rfl rfl ?_
  refine .go ?_; repeat constructor
  exact PX.ret rfl Try.results79 (.cons (.tmp rfl) .nil) (fun w hs => ⟨(), rfl, hs.ent (.i (by repeat constructor))⟩)
theorem open_c (g fg m fcap gr size a : Nat) (sh : List Bool) (cs : List Value) (hgr : gr < 9) (hm : m ≤ 4096) :
    Mut Try.prog 79 #[Pv g 0, Iv (a : Nat)] [PB g fg m fcap (PR gr sh size), FB fg m fcap cs] (fun _ : Nat × Nat => Iv 0) (fun x => [PB g x.1 (m + 1) x.2 (PR (gr + 1) sh size), FB x.1 (m + 1) x.2 (cs ++ frC none 0 0 none 0 0 (gr + 1) a)]) := by
  intro w0 B R w h
  replace h : Sat w0 B (PB g fg m fcap (PR gr sh size) :: FB fg m fcap cs :: R) w := h
  refine calls_of_ES TB Try.func79 rfl _ Try.ntmps79 rfl h ?_
  refine .go ?_; repeat constructor
  refine EL.assign rfl rfl rfl ?_
  refine .go ?_; repeat constructor
  refine EL.move rfl rfl rfl ?_
  refine EL.nilCheck rfl rfl rfl ?_
  refine EL.fieldAddr rfl rfl rfl rfl rfl rfl rfl rfl ?_
  (apply EL.loadB; exact rfl; exact rfl; exact rfl; exact rfl; exact rfl; (case hm => repeat constructor); exact rfl)
  refine EL.eqlI rfl rfl rfl rfl ?_
  refine .go ?_; repeat constructor
  refine ES.condK false rfl (decide_eq_false (by omega)) ?_
  refine .go ?_; repeat constructor
  refine EL.move rfl rfl rfl ?_
  refine EL.nilCheck rfl rfl rfl ?_
  refine EL.fieldAddr rfl rfl rfl rfl rfl rfl rfl rfl ?_
  (apply EL.loadB; exact rfl; exact rfl; exact rfl; exact rfl; exact rfl; (case hm => repeat constructor); exact rfl)
  refine EL.add1 rfl rfl rfl rfl (by omega) ?_
  refine EL.nilCheck rfl rfl rfl ?_
  refine EL.fieldAddr rfl rfl rfl rfl rfl rfl rfl rfl ?_
  (refine EL.storeB rfl rfl rfl rfl rfl rfl (by repeat constructor) (by simp) ?_; refine EL.blkEq (g := g) (by repeat constructor) (congrArg (fun a => Obj.cells a 143 (0, 0)) (pr_groups_set _ gr (gr + 1) size sh)) ?_)
  refine .go ?_; repeat constructor
  refine ES.draw (X := Nat × Nat) (fun x => []) (fun x => PB g x.1 (m + 1) x.2 (PR (gr + 1) sh size) :: FB x.1 (m + 1) x.2 (cs ++ frC none 0 0 none 0 0 (gr + 1) a) :: R) (PB g fg m fcap (PR (gr + 1) sh size) :: R) mixed (.i (by repeat constructor)) ?_ (fun x => ?_)
  · refine ED.take 0 rfl (by decide +kernel) CutX.no_panic (by decide +kernel) rfl rfl rfl (RV.move rfl) ?_
    refine ED.take 1 rfl (by decide +kernel) CutX.no_panic (by decide +kernel) rfl rfl rfl (RV.move rfl) ?_
    refine ED.take 2 rfl (by decide +kernel) CutX.no_panic (by decide +kernel) rfl rfl rfl (RV.nilCheck rfl) ?_
    refine ED.take 3 rfl (by decide +kernel) CutX.no_panic (by decide +kernel) rfl rfl rfl (RV.fieldAddr rfl rfl rfl rfl rfl rfl) ?_
    refine ED.take 4 rfl (by decide +kernel) CutX.no_panic (by decide +kernel) rfl rfl rfl (RV.loadB rfl rfl rfl (by repeat constructor) rfl) ?_
    refine ED.take 5 rfl (by decide +kernel) CutX.no_panic (by decide +kernel) rfl rfl rfl (RV.move rfl) ?_
    refine ED.take 6 rfl (by decide +kernel) CutX.no_panic (by decide +kernel) rfl rfl rfl (RV.nilCheck rfl) ?_
    refine ED.take 7 rfl (by decide +kernel) CutX.no_panic (by decide +kernel) rfl rfl rfl (RV.fieldAddr rfl rfl rfl rfl rfl rfl) ?_
    refine ED.take 8 rfl (by decide +kernel) CutX.no_panic (by decide +kernel) rfl rfl rfl (RV.loadB rfl rfl rfl (by repeat constructor) rfl) ?_
    refine ED.take 9 rfl (by decide +kernel) CutX.no_panic (by decide +kernel) rfl rfl rfl (RV.move rfl) ?_
    refine ED.take 10 rfl (by decide +kernel) CutX.no_panic (by decide +kernel) rfl rfl rfl (RV.buildS #[.slice none 0 0, .slice none 0 0, _, _] rfl rfl rfl rfl rfl) ?_
    refine ED.loud 11 rfl (by decide +kernel) ?_
    (refine EL.buildSlice1 rfl rfl rfl rfl rfl rfl rfl rfl rfl rfl ?_; intro b28)
    refine ED.next (.i (by repeat constructor)) ?_
    refine ED.loud 12 rfl (by decide +kernel) ?_
    (refine EL.append1 rfl rfl rfl rfl rfl rfl rfl rfl rfl (by repeat constructor) (by repeat constructor) (by first | (intro u hu; simp [Value.cells] at hu; subst hu; rfl) | exact all1 rfl) (by rfl) (by unfold maxLen; omega) (by first | omega | (show 1 * _ ≤ _; omega) | (show 8 * _ ≤ _; omega) | (show 16 * _ ≤ _; omega) | (show 24 * _ ≤ _; omega) | (show _ * 1 ≤ _; omega) | (show _ * 8 ≤ _; omega) | (show _ * 16 ≤ _; omega) | (show _ * 24 ≤ _; omega) | exact Nat.le_trans (Nat.mul_le_mul_right _ (show _ ≤ 1073741824 by omega)) (by decide)) ?_; intro a29 c29)
    refine ED.next (.i (by repeat constructor)) ?_
    refine ED.take 13 rfl (by decide +kernel) CutX.no_panic (by decide +kernel) rfl rfl rfl (RV.nilCheck rfl) ?_
    refine ED.take 14 rfl (by decide +kernel) CutX.no_panic (by decide +kernel) rfl rfl rfl (RV.fieldAddr rfl rfl rfl rfl rfl rfl) ?_
    refine ED.last 15 rfl (by decide +kernel) (by decide +kernel) (by decide +kernel) ?_
    (refine EL.storeB rfl rfl rfl rfl rfl rfl (by repeat constructor) (by simp) ?_; refine EL.blkEq (g := g) (by repeat constructor) (congrArg (fun a => Obj.cells a 143 (0, 0)) (pr_frames_set _ _ _)) ?_)
    refine EL.endQ ?_
    exact PX.cutX (a29, c29) trivial (.i (by repeat constructor))
  refine .go ?_; repeat constructor
  refine EL.assign rfl rfl rfl ?_
  refine .go ?_; repeat constructor
  exact PX.ret rfl Try.results79 (.cons (.tmp rfl) .nil) (fun w hs => ⟨x, rfl, hs.ent (.i (by repeat constructor))⟩)
end Go.Proofs.Ytblpgpgbnlhjlaa
