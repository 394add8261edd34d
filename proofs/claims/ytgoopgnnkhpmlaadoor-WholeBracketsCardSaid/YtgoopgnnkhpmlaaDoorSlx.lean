/- THE BASE: a set of bytes that came in. -/
import Derived.Test.YtgoopgnnkhpmlaaDoorSlaw
import Derived.Test.YtgoopgnnkhpmlaaDoorSlw
namespace Go.Proofs.YtgoopgnnkhpmlaaDoor.Sl
open Go Go.RowKit Go.ChangeShapes Go.WideShapes Go.ChangeAt
set_option linter.unusedVariables false
set_option linter.unusedSimpArgs false
theorem open_bs {H : Type} {enc : TypeId × Value → H} {P : Program} {w : World} {base : Nat} {sp : Nat → Bool} {held : Bool} {r : Reach} {b0 : Nat} {t e : TypeId} {v : Value} {d : DataW H} {ps : List MemPlace} (ht : P.underlying t = some (.array 4 e)) (he : P.underlying e = some (.int .u64)) (hc : P.cellsOf t = 4) (hce : P.cellsOf e = 1) (hval : Value.okWide P w r b0 t v) (hd : DataW.Trod enc P w base sp held t v d ps) :
    ∃ s : BS, v = Bs s := by
  unfold Value.okWide at hval
  rw [ht] at hval
  obtain ⟨cs, rfl, hsz, _⟩ := hval
  obtain ⟨fuel, hf⟩ := hd
  obtain ⟨xs, m, _, _, hlen, hxl, hel⟩ := DataW.trod_array ht hf
  simp only [Value.cells] at hlen hel
  rw [hc] at hsz
  have key : ∀ i, i < 4 → ∃ b : UInt64, cs[i]? = some (Wv b) := by
    intro i hi
    have h1 := hel i hi
    have hx : xs[i]? = some (xs[i]'(by omega)) := List.getElem?_eq_getElem (by omega)
    rw [hx] at h1
    obtain ⟨k, h2, _, hw⟩ := DataW.trod_int he h1
    rw [hce, Nat.mul_one] at h2
    have h3 : cs[i]? = some (.int .u64 k) := by
      have h4 : (cs.toList.drop i)[0]? = some (.int .u64 k) := by
        have : ((cs.toList.drop i).take 1)[0]? = some (.int .u64 k) := by rw [h2]; rfl
        rwa [List.getElem?_take_of_lt (by omega)] at this
      simpa using h4
    have hb : 0 ≤ k ∧ k ≤ 18446744073709551615 := by simpa [Lit.wf, IntKind.min, IntKind.max, IntKind.signed, IntKind.bits] using hw
    have : ((UInt64.ofNat k.toNat).toNat : Int) = k := by rw [UInt64.toNat_ofNat_of_lt' (by simp only [UInt64.size]; omega)]; omega
    exact ⟨UInt64.ofNat k.toNat, by show _ = some (Value.int .u64 ((UInt64.ofNat k.toNat).toNat : Int)); rw [h3, this]⟩
  obtain ⟨a, ha⟩ := key 0 (by omega)
  obtain ⟨b, hb⟩ := key 1 (by omega)
  obtain ⟨c, hcc⟩ := key 2 (by omega)
  obtain ⟨dd, hdd⟩ := key 3 (by omega)
  refine ⟨⟨a, b, c, dd⟩, ?_⟩
  congr 1
  apply Array.ext'
  apply List.ext_getElem?
  intro i
  match i with
  | 0 => simpa using ha
  | 1 => simpa using hb
  | 2 => simpa using hcc
  | 3 => simpa using hdd
  | i + 4 =>
    have : cs.toList[i + 4]? = none := by simp; omega
    rw [this]; simp
end Go.Proofs.YtgoopgnnkhpmlaaDoor.Sl
