/- Across the layers: the law WholeSeen. -/
import Derived.Test.YtjjifcfcomhdcaaLn
import Derived.Test.YtjjifcfcomhdcaaLj
import Derived.Test.YtjjifcfcomhdcaaCt
namespace Go.Proofs.Ytjjifcfcomhdcaa
open Go.ChangeShapes Go.WideShapes Go.ChangeAt
open Go Go.RowKit Sl
set_option maxRecDepth 100000
set_option maxHeartbeats 8000000
set_option linter.unusedVariables false
set_option linter.unusedSimpArgs false
attribute [local irreducible] ES EL PX wps

theorem wrap_add8 (a b : UInt8) : IntKind.u8.wrap ((a.toNat : Int) + (b.toNat : Int)) = ((a + b).toNat : Int) := by
  have ha := a.toNat_lt
  have hb := b.toNat_lt
  rw [UInt8.toNat_add]
  simp [IntKind.wrap, IntKind.signed, IntKind.bits]
def turnT (k : UInt8) : List UInt8 := (List.range 256).map fun i => UInt8.ofNat i + k
theorem idT_nodup : idT.Nodup := by decide +kernel
theorem turn_eq (k : UInt8) : turnT k = idT.map (· + k) := by simp [turnT, idT]
theorem nodup_map (f : UInt8 → UInt8) (hf : ∀ a b, f a = f b → a = b) : ∀ l : List UInt8, l.Nodup → (l.map f).Nodup
  | [], _ => by simp
  | a :: l, h => by
    rw [List.nodup_cons] at h
    rw [List.map_cons, List.nodup_cons]
    exact ⟨fun hm => by obtain ⟨b, hb, he⟩ := List.mem_map.1 hm; rw [hf b a he] at hb; exact h.1 hb, nodup_map f hf l h.2⟩
theorem turn_nodup (k : UInt8) : (turnT k).Nodup := by
  rw [turn_eq]
  exact nodup_map _ (fun a b h => by have := congrArg (· - k) h; simpa using this) _ idT_nodup
theorem mem_idT (b : UInt8) : b ∈ idT := List.mem_map.2 ⟨b.toNat, List.mem_range.2 b.toNat_lt, by simp⟩
theorem mem_turn (k b : UInt8) : b ∈ turnT k := by
  rw [turn_eq]
  exact List.mem_map.2 ⟨b - k, mem_idT _, by simp⟩
theorem turn_len (k : UInt8) : (turnT k).length = 256 := by simp [turnT]
theorem lines_inj (a b : List UInt8) (h : linesM a = linesM b) : a = b := by
  have h2 := congrArg readM h
  rw [read_lines, read_lines] at h2
  exact congrArg Prod.fst h2
def fillT (f : Nat → UInt8) (k : Nat) : List UInt8 := (List.range k).map f ++ List.replicate (256 - k) 0
theorem fillT_set (f : Nat → UInt8) (k : Nat) (h : k < 256) : ((fillT f k).map Uv).set k (Uv (f k)) = (fillT f (k + 1)).map Uv := by
  rw [← List.map_set]
  unfold fillT
  rw [fill_set f 0 256 k h]
theorem fillT_zero (f : Nat → UInt8) : fillT f 0 = List.replicate 256 0 := by simp [fillT]
theorem fillT_len (f : Nat → UInt8) (k : Nat) (h : k ≤ 256) : (fillT f k).length = 256 := by simp [fillT]; omega
theorem made256 : (madeCells ty5.zero.cells (256 * ty5.size)).toList = (List.replicate 256 (0 : UInt8)).map Uv := made1 (Uv 0) 256 |>.trans (by simp)
def sameTo (X Y : LL) (i : Nat) : Prop := X.length = Y.length ∧ X.take i = Y.take i
instance (X Y : LL) (i : Nat) : Decidable (sameTo X Y i) := inferInstanceAs (Decidable (_ ∧ _))
theorem wholeSeen_c (a b : List UInt8) (turn : UInt8) (ha : a.length ≤ 1048576) (hb : b.length ≤ 1048576) (w : World) : Pure Try.prog 9 #[Sv a, Sv b, Uv turn] (fun _ : Unit => .bool true) (fun _ => []) w := by
  have r0 := fun (ad : Option Addr) (cap : Nat) => read_back ad cap [97, 0] (by decide)
  have l0 := lines_c [97, 0] (by decide)
  generalize linesM [97, 0] = z0 at r0 l0
  have lxy := lines_inj a b
  have hxl := linesM_len a (by omega)
  have hyl := linesM_len b (by omega)
  have lx := lines_c a (by omega)
  have ly := lines_c b (by omega)
  have hpx : 0 < (linesM a).length := by simp [linesM]
  have hpy : 0 < (linesM b).length := by simp [linesM]
  have hab : a = b → linesM a = linesM b := fun h => by rw [h]
  obtain ⟨X, hX⟩ : ∃ X, X = linesM a := ⟨_, rfl⟩
  obtain ⟨Y, hY⟩ : ∃ Y, Y = linesM b := ⟨_, rfl⟩
  rw [← hX] at lxy hxl lx hpx hab
  rw [← hY] at lxy hyl ly hpy hab
  refine calls_of_ES TB Try.func9 rfl _ Try.ntmps9 rfl (Sat.start w) ?_
  repeat (first | apply ES.seq | apply ES.skip | apply ES.region | apply EL.nil | apply ES.block | apply ES.nil | apply ES.exit | apply ES.ret | apply PX.hit | (apply PX.miss; exact rfl) | apply PX.then_x | apply PX.then_r | apply PX.block_n | apply PX.block_r | refine PX.then_n (e := .normal) ?_)
  refine EL.assign rfl rfl rfl ?_
  repeat (first | apply ES.seq | apply ES.skip | apply ES.region | apply EL.nil | apply ES.block | apply ES.nil | apply ES.exit | apply ES.ret | apply PX.hit | (apply PX.miss; exact rfl) | apply PX.then_x | apply PX.then_r | apply PX.block_n | apply PX.block_r | refine PX.then_n (e := .normal) ?_)
  (refine EL.callX rfl rfl rfl ent15 rfl l0 ?_; rintro ⟨ad0, cap0⟩)
  refine EL.callPw rfl rfl rfl ent17 rfl (fun w hs => r0 ad0 cap0 w (Rd.row hs (by repeat (first | exact Mem.here _ _ | apply Mem.there)) (by decide))) ?_
  refine EL.move rfl rfl rfl ?_
  refine EL.extract rfl rfl rfl rfl ?_
  refine EL.extract rfl rfl rfl rfl ?_
  refine EL.assign rfl rfl rfl ?_
  refine EL.assign rfl rfl rfl ?_
  repeat (first | apply ES.seq | apply ES.skip | apply ES.region | apply EL.nil | apply ES.block | apply ES.nil | apply ES.exit | apply ES.ret | apply PX.hit | (apply PX.miss; exact rfl) | apply PX.then_x | apply PX.then_r | apply PX.block_n | apply PX.block_r | refine PX.then_n (e := .normal) ?_)
  repeat (first | apply ES.seq | apply ES.skip | apply ES.region | apply EL.nil | apply ES.block | apply ES.nil | apply ES.exit | apply ES.ret | apply PX.hit | (apply PX.miss; exact rfl) | apply PX.then_x | apply PX.then_r | apply PX.block_n | apply PX.block_r | refine PX.then_n (e := .normal) ?_)
  refine EL.move rfl rfl rfl ?_
  refine EL.neqI rfl rfl rfl rfl ?_
  refine EL.move rfl rfl rfl ?_
  refine EL.rew (d := 29) (v' := .bool false) rfl (by first | rfl | (decide) | (simp)) ?_
  refine EL.move rfl rfl rfl ?_
  refine EL.neqS rfl rfl rfl rfl ?_
  refine EL.pickF rfl rfl rfl rfl ?_
  repeat (first | apply ES.seq | apply ES.skip | apply ES.region | apply EL.nil | apply ES.block | apply ES.nil | apply ES.exit | apply ES.ret | apply PX.hit | (apply PX.miss; exact rfl) | apply PX.then_x | apply PX.then_r | apply PX.block_n | apply PX.block_r | refine PX.then_n (e := .normal) ?_)
  refine ES.condK false rfl rfl ?_
  repeat (first | apply ES.seq | apply ES.skip | apply ES.region | apply EL.nil | apply ES.block | apply ES.nil | apply ES.exit | apply ES.ret | apply PX.hit | (apply PX.miss; exact rfl) | apply PX.then_x | apply PX.then_r | apply PX.block_n | apply PX.block_r | refine PX.then_n (e := .normal) ?_)
  refine EL.move rfl rfl rfl ?_
  (refine EL.callX rfl rfl rfl ent15 rfl lx ?_; rintro ⟨ad1, cap1⟩)
  refine EL.move rfl rfl rfl ?_
  (refine EL.callX rfl rfl rfl ent15 rfl ly ?_; rintro ⟨ad2, cap2⟩)
  refine EL.assign rfl rfl rfl ?_
  refine EL.assign rfl rfl rfl ?_
  repeat (first | apply ES.seq | apply ES.skip | apply ES.region | apply EL.nil | apply ES.block | apply ES.nil | apply ES.exit | apply ES.ret | apply PX.hit | (apply PX.miss; exact rfl) | apply PX.then_x | apply PX.then_r | apply PX.block_n | apply PX.block_r | refine PX.then_n (e := .normal) ?_)
  refine EL.rowForm (ad := ad1) (cap := cap1) (e := 9) (sz := 1) (n := X.length) (cs := X.map Sv) (by repeat (first | exact Mem.here _ _ | apply Mem.there)) (fun hf1 => ?_)
  refine EL.rowForm (ad := ad2) (cap := cap2) (e := 9) (sz := 1) (n := Y.length) (cs := Y.map Sv) (by repeat (first | exact Mem.here _ _ | apply Mem.there)) (fun hf2 => ?_)
  obtain ⟨g1, rfl⟩ := hf1.2.2.2.2 hpx
  obtain ⟨g2, rfl⟩ := hf2.2.2.2.2 hpy
  repeat (first | apply ES.seq | apply ES.skip | apply ES.region | apply EL.nil | apply ES.block | apply ES.nil | apply ES.exit | apply ES.ret | apply PX.hit | (apply PX.miss; exact rfl) | apply PX.then_x | apply PX.then_r | apply PX.block_n | apply PX.block_r | refine PX.then_n (e := .normal) ?_)
  refine EL.move rfl rfl rfl ?_
  refine EL.lenL rfl rfl rfl rfl rfl ?_
  refine EL.move rfl rfl rfl ?_
  refine EL.lenL rfl rfl rfl rfl rfl ?_
  refine EL.eqlI rfl rfl rfl rfl ?_
  refine EL.assign rfl rfl rfl ?_
  repeat (first | apply ES.seq | apply ES.skip | apply ES.region | apply EL.nil | apply ES.block | apply ES.nil | apply ES.exit | apply ES.ret | apply PX.hit | (apply PX.miss; exact rfl) | apply PX.then_x | apply PX.then_r | apply PX.block_n | apply PX.block_r | refine PX.then_n (e := .normal) ?_)
  refine EL.assign rfl rfl rfl ?_
  repeat (first | apply EL.nil | apply ES.seq | apply ES.skip)
  refine ES.cutC (X := Unit) (fun _ => [(0, Sv a), (1, Sv b), (2, Uv turn), (11, .bool (decide (X = Y)))]) (fun _ => []) ?_ (fun _ => ?_)
  · repeat (first | apply ES.seq | apply ES.skip | apply ES.region | apply EL.nil | apply ES.block | apply ES.nil | apply ES.exit | apply ES.ret | apply PX.hit | (apply PX.miss; exact rfl) | apply PX.then_x | apply PX.then_r | apply PX.block_n | apply PX.block_r | refine PX.then_n (e := .normal) ?_)
    refine ES.loop (σ := Nat) (fun i => i ≤ X.length) (fun i => [(0, Sv a), (1, Sv b), (2, Uv turn), (9, .slice (some ⟨g1, 0, none⟩) X.length cap1), (10, .slice (some ⟨g2, 0, none⟩) Y.length cap2), (11, .bool (decide (sameTo X Y i))), (12, Iv i)]) (fun _ => [HA.row (.slice (some ⟨g1, 0, none⟩) X.length cap1) 9 1 X.length (X.map Sv), HA.row (.slice (some ⟨g2, 0, none⟩) Y.length cap2) 9 1 Y.length (Y.map Sv)]) (fun i => X.length - i) 0 (Nat.zero_le _) ⟨rfl, rfl, rfl, rfl, rfl, getB rfl (decide_eq_decide.2 (by unfold sameTo; simp; omega)), rfl, trivial⟩ (by repeat (first | exact Ent.nil _ | exact Ent.refl _ | (apply Ent.cons; case p => repeat (first | exact Pick.here _ _ | apply Pick.there)) | apply Ent.drop)) ?_
    intro i hi
    by_cases hs : sameTo X Y i
    · have hsl := hs.1
      repeat (first | apply ES.seq | apply ES.skip | apply ES.region | apply EL.nil | apply ES.block | apply ES.nil | apply ES.exit | apply ES.ret | apply PX.hit | (apply PX.miss; exact rfl) | apply PX.then_x | apply PX.then_r | apply PX.block_n | apply PX.block_r | refine PX.then_n (e := .normal) ?_)
      refine EL.move rfl rfl rfl ?_
      refine EL.move rfl rfl rfl ?_
      refine EL.rew (d := 43) (v' := .bool true) rfl (congrArg Value.bool (decide_eq_true hs)) ?_
      refine EL.move rfl rfl rfl ?_
      refine EL.move rfl rfl rfl ?_
      refine EL.lenL rfl rfl rfl rfl rfl ?_
      refine EL.lss rfl rfl rfl rfl ?_
      refine EL.pickT rfl rfl rfl rfl ?_
      repeat (first | apply ES.seq | apply ES.skip | apply ES.region | apply EL.nil | apply ES.block | apply ES.nil | apply ES.exit | apply ES.ret | apply PX.hit | (apply PX.miss; exact rfl) | apply PX.then_x | apply PX.then_r | apply PX.block_n | apply PX.block_r | refine PX.then_n (e := .normal) ?_)
      refine ES.condD rfl (fun hlt => ?_) (fun hge => ?_)
      · have hlt' : i < X.length := by omega
        repeat (first | apply ES.seq | apply ES.skip | apply EL.nil | apply ES.block | apply ES.nil | apply ES.exit | apply ES.ret | apply PX.hit | (apply PX.miss; exact rfl) | apply PX.then_x | apply PX.then_r | apply PX.block_n | apply PX.block_r | refine PX.then_n (e := .normal) ?_)
        refine ES.draw (X := Unit) (fun _ => [(11, .bool (decide (X.getD i [] = Y.getD i []))), (0, Sv a), (1, Sv b), (2, Uv turn), (9, .slice (some ⟨g1, 0, none⟩) X.length cap1), (10, .slice (some ⟨g2, 0, none⟩) Y.length cap2), (12, Iv i)]) (fun _ => [HA.row (.slice (some ⟨g1, 0, none⟩) X.length cap1) 9 1 X.length (X.map Sv), HA.row (.slice (some ⟨g2, 0, none⟩) Y.length cap2) 9 1 Y.length (Y.map Sv)]) [HA.row (.slice (some ⟨g1, 0, none⟩) X.length cap1) 9 1 X.length (X.map Sv), HA.row (.slice (some ⟨g2, 0, none⟩) Y.length cap2) 9 1 Y.length (Y.map Sv)] mixed (by repeat (first | exact Ent.nil _ | exact Ent.refl _ | (apply Ent.cons; case p => repeat (first | exact Pick.here _ _ | apply Pick.there)) | apply Ent.drop)) ?_ (fun _ => ?_)
        · refine ED.take 0 rfl (by decide +kernel) CutX.no_panic (by decide +kernel) rfl rfl rfl (RV.move rfl) ?_
          refine ED.take 1 rfl (by decide +kernel) CutX.no_panic (by decide +kernel) rfl rfl rfl (RV.move rfl) ?_
          refine ED.take 2 rfl (by decide +kernel) CutX.no_panic (by decide +kernel) rfl rfl rfl (RV.indexAddrL1 rfl rfl rfl rfl rfl rfl (by omega)) ?_
          refine ED.take 3 rfl (by decide +kernel) CutX.no_panic (by decide +kernel) rfl rfl rfl (RV.loadRm Sv [] (l := X) rfl rfl rfl (by repeat (first | exact Mem.here _ _ | apply Mem.there)) (by omega)) ?_
          refine ED.take 4 rfl (by decide +kernel) CutX.no_panic (by decide +kernel) rfl rfl rfl (RV.move rfl) ?_
          refine ED.take 5 rfl (by decide +kernel) CutX.no_panic (by decide +kernel) rfl rfl rfl (RV.move rfl) ?_
          refine ED.take 6 rfl (by decide +kernel) CutX.no_panic (by decide +kernel) rfl rfl rfl (RV.indexAddrL1 rfl rfl rfl rfl rfl rfl (by omega)) ?_
          refine ED.take 7 rfl (by decide +kernel) CutX.no_panic (by decide +kernel) rfl rfl rfl (RV.loadRm Sv [] (l := Y) rfl rfl rfl (by repeat (first | exact Mem.here _ _ | apply Mem.there)) (by omega)) ?_
          refine ED.take 8 rfl (by decide +kernel) CutX.no_panic (by decide +kernel) rfl rfl rfl (RV.eqlS rfl rfl) ?_
          refine ED.take 9 rfl (by decide +kernel) CutX.no_panic (by decide +kernel) rfl rfl rfl (RV.assign rfl) ?_
          refine ED.done (by decide +kernel) ?_
          exact PX.cutX () ⟨rfl, rfl, rfl, rfl, rfl, rfl, rfl, trivial⟩ (by repeat (first | exact Ent.nil _ | exact Ent.refl _ | (apply Ent.cons; case p => repeat (first | exact Pick.here _ _ | apply Pick.there)) | apply Ent.drop))
        repeat (first | apply ES.seq | apply ES.skip | apply ES.region | apply EL.nil | apply ES.block | apply ES.nil | apply ES.exit | apply ES.ret | apply PX.hit | (apply PX.miss; exact rfl) | apply PX.then_x | apply PX.then_r | apply PX.block_n | apply PX.block_r | refine PX.then_n (e := .normal) ?_)
        refine EL.move rfl rfl rfl ?_
        refine EL.add1 rfl rfl rfl rfl (by omega) ?_
        refine EL.assign rfl rfl rfl ?_
        repeat (first | apply ES.seq | apply ES.skip | apply ES.region | apply EL.nil | apply ES.block | apply ES.nil | apply ES.exit | apply ES.ret | apply PX.hit | (apply PX.miss; exact rfl) | apply PX.then_x | apply PX.then_r | apply PX.block_n | apply PX.block_r | refine PX.then_n (e := .normal) ?_)
        exact PX.loop (i + 1) (by omega) (by omega) ⟨rfl, rfl, rfl, rfl, rfl, getB rfl (decide_eq_decide.2 (by
          unfold sameTo
          rw [take_snoc X i [] hlt', take_snoc Y i [] (by omega), hs.2]
          constructor
          · intro h; exact ⟨hs.1, by rw [h]⟩
          · intro h; simpa using h.2)), rfl, trivial⟩ (by repeat (first | exact Ent.nil _ | exact Ent.refl _ | (apply Ent.cons; case p => repeat (first | exact Pick.here _ _ | apply Pick.there)) | apply Ent.drop))
      · obtain rfl : i = X.length := by omega
        have hxy : X = Y := by
          have h2 := hs.2
          rwa [List.take_length, hs.1, List.take_length] at h2
        repeat (first | apply ES.seq | apply ES.skip | apply ES.region | apply EL.nil | apply ES.block | apply ES.nil | apply ES.exit | apply ES.ret | apply PX.hit | (apply PX.miss; exact rfl) | apply PX.then_x | apply PX.then_r | apply PX.block_n | apply PX.block_r | refine PX.then_n (e := .normal) ?_)
        exact PX.cutX () ⟨rfl, rfl, rfl, getB rfl (decide_eq_decide.2 ⟨fun _ => hxy, fun _ => hs⟩), trivial⟩ (by repeat (first | exact Ent.nil _ | exact Ent.refl _ | (apply Ent.cons; case p => repeat (first | exact Pick.here _ _ | apply Pick.there)) | apply Ent.drop))
    · have hxy : X ≠ Y := fun h => hs ⟨by rw [h], by rw [h]⟩
      repeat (first | apply ES.seq | apply ES.skip | apply ES.region | apply EL.nil | apply ES.block | apply ES.nil | apply ES.exit | apply ES.ret | apply PX.hit | (apply PX.miss; exact rfl) | apply PX.then_x | apply PX.then_r | apply PX.block_n | apply PX.block_r | refine PX.then_n (e := .normal) ?_)
      refine EL.move rfl rfl rfl ?_
      refine EL.move rfl rfl rfl ?_
      refine EL.rew (d := 43) (v' := .bool false) rfl (congrArg Value.bool (decide_eq_false hs)) ?_
      refine EL.pass rfl rfl rfl ?_
      refine EL.pass rfl rfl rfl ?_
      refine EL.pass rfl rfl rfl ?_
      refine EL.pass rfl rfl rfl ?_
      refine EL.pickF rfl rfl rfl rfl ?_
      repeat (first | apply ES.seq | apply ES.skip | apply ES.region | apply EL.nil | apply ES.block | apply ES.nil | apply ES.exit | apply ES.ret | apply PX.hit | (apply PX.miss; exact rfl) | apply PX.then_x | apply PX.then_r | apply PX.block_n | apply PX.block_r | refine PX.then_n (e := .normal) ?_)
      refine ES.condK false rfl rfl ?_
      repeat (first | apply ES.seq | apply ES.skip | apply ES.region | apply EL.nil | apply ES.block | apply ES.nil | apply ES.exit | apply ES.ret | apply PX.hit | (apply PX.miss; exact rfl) | apply PX.then_x | apply PX.then_r | apply PX.block_n | apply PX.block_r | refine PX.then_n (e := .normal) ?_)
      exact PX.cutX () ⟨rfl, rfl, rfl, getB rfl (decide_eq_decide.2 ⟨fun h => absurd h hs, fun h => absurd h hxy⟩), trivial⟩ (by repeat (first | exact Ent.nil _ | exact Ent.refl _ | (apply Ent.cons; case p => repeat (first | exact Pick.here _ _ | apply Pick.there)) | apply Ent.drop))
  have hxyd : decide (X = Y) = decide (a = b) := decide_eq_decide.2 ⟨lxy, hab⟩
  rw [hxyd]
  repeat (first | apply ES.seq | apply ES.skip | apply ES.region | apply EL.nil | apply ES.block | apply ES.nil | apply ES.exit | apply ES.ret | apply PX.hit | (apply PX.miss; exact rfl) | apply PX.then_x | apply PX.then_r | apply PX.block_n | apply PX.block_r | refine PX.then_n (e := .normal) ?_)
  refine EL.move rfl rfl rfl ?_
  refine EL.move rfl rfl rfl ?_
  refine EL.move rfl rfl rfl ?_
  refine EL.eqlS rfl rfl rfl rfl ?_
  refine EL.neqB rfl rfl rfl rfl rfl rfl ?_
  repeat (first | apply ES.seq | apply ES.skip | apply ES.region | apply EL.nil | apply ES.block | apply ES.nil | apply ES.exit | apply ES.ret | apply PX.hit | (apply PX.miss; exact rfl) | apply PX.then_x | apply PX.then_r | apply PX.block_n | apply PX.block_r | refine PX.then_n (e := .normal) ?_)
  refine ES.condK false rfl (by simp) ?_
  repeat (first | apply ES.seq | apply ES.skip | apply EL.nil | apply ES.block | apply ES.nil | apply ES.exit | apply ES.ret | apply PX.hit | (apply PX.miss; exact rfl) | apply PX.then_x | apply PX.then_r | apply PX.block_n | apply PX.block_r | refine PX.then_n (e := .normal) ?_)
  refine ES.draw (X := Nat × Nat) (fun x => [(0, Sv a), (2, Uv turn), (13, .slice (some ⟨x.1, 0, none⟩) 256 256), (14, .slice (some ⟨x.2, 0, none⟩) 256 256)]) (fun x => [HA.row (.slice (some ⟨x.1, 0, none⟩) 256 256) 5 1 256 ((List.replicate 256 (0 : UInt8)).map Uv), HA.row (.slice (some ⟨x.2, 0, none⟩) 256 256) 5 1 256 ((List.replicate 256 (0 : UInt8)).map Uv)]) [] mixed (by repeat (first | exact Ent.nil _ | exact Ent.refl _ | (apply Ent.cons; case p => repeat (first | exact Pick.here _ _ | apply Pick.there)) | apply Ent.drop)) ?_ (fun x => ?_)
  · refine ED.fork 0 [1] (by decide +kernel) ⟨⟨_, rfl, ?_⟩, ⟨_, rfl, ?_⟩, trivial⟩
    · (refine EL.makeSlice (n := 256) rfl rfl rfl rfl rfl rfl (by first | omega | (show 1 * _ ≤ _; omega) | (show 8 * _ ≤ _; omega) | (show 16 * _ ≤ _; omega) | (show 24 * _ ≤ _; omega) | (show _ * 1 ≤ _; omega) | (show _ * 8 ≤ _; omega) | (show _ * 16 ≤ _; omega) | (show _ * 24 ≤ _; omega)) (by unfold maxLen; omega) ?_; intro g65)
      refine ED.next (by repeat (first | exact Ent.nil _ | exact Ent.refl _ | (apply Ent.cons; case p => repeat (first | exact Pick.here _ _ | apply Pick.there)) | apply Ent.drop)) ?_
      refine ED.take 2 rfl (by decide +kernel) CutX.no_panic (by decide +kernel) rfl rfl rfl (RV.assign rfl) ?_
      refine ED.loud 1 rfl (by decide +kernel) ?_
      (refine EL.makeSlice (n := 256) rfl rfl rfl rfl rfl rfl (by first | omega | (show 1 * _ ≤ _; omega) | (show 8 * _ ≤ _; omega) | (show 16 * _ ≤ _; omega) | (show 24 * _ ≤ _; omega) | (show _ * 1 ≤ _; omega) | (show _ * 8 ≤ _; omega) | (show _ * 16 ≤ _; omega) | (show _ * 24 ≤ _; omega)) (by unfold maxLen; omega) ?_; intro g66)
      refine ED.next (by repeat (first | exact Ent.nil _ | exact Ent.refl _ | (apply Ent.cons; case p => repeat (first | exact Pick.here _ _ | apply Pick.there)) | apply Ent.drop)) ?_
      refine ED.take 3 rfl (by decide +kernel) CutX.no_panic (by decide +kernel) rfl rfl rfl (RV.assign rfl) ?_
      refine ED.done (by decide +kernel) ?_
      focus (refine PX.cutX (g65, g66) ⟨rfl, rfl, rfl, rfl, trivial⟩ ?_; rw [made256]; exact (by repeat (first | exact Ent.nil _ | exact Ent.refl _ | (apply Ent.cons; case p => repeat (first | exact Pick.here _ _ | apply Pick.there)) | apply Ent.drop)))
    · (refine EL.makeSlice (n := 256) rfl rfl rfl rfl rfl rfl (by first | omega | (show 1 * _ ≤ _; omega) | (show 8 * _ ≤ _; omega) | (show 16 * _ ≤ _; omega) | (show 24 * _ ≤ _; omega) | (show _ * 1 ≤ _; omega) | (show _ * 8 ≤ _; omega) | (show _ * 16 ≤ _; omega) | (show _ * 24 ≤ _; omega)) (by unfold maxLen; omega) ?_; intro g66)
      refine ED.next (by repeat (first | exact Ent.nil _ | exact Ent.refl _ | (apply Ent.cons; case p => repeat (first | exact Pick.here _ _ | apply Pick.there)) | apply Ent.drop)) ?_
      refine ED.loud 0 rfl (by decide +kernel) ?_
      (refine EL.makeSlice (n := 256) rfl rfl rfl rfl rfl rfl (by first | omega | (show 1 * _ ≤ _; omega) | (show 8 * _ ≤ _; omega) | (show 16 * _ ≤ _; omega) | (show 24 * _ ≤ _; omega) | (show _ * 1 ≤ _; omega) | (show _ * 8 ≤ _; omega) | (show _ * 16 ≤ _; omega) | (show _ * 24 ≤ _; omega)) (by unfold maxLen; omega) ?_; intro g65)
      refine ED.next (by repeat (first | exact Ent.nil _ | exact Ent.refl _ | (apply Ent.cons; case p => repeat (first | exact Pick.here _ _ | apply Pick.there)) | apply Ent.drop)) ?_
      refine ED.take 2 rfl (by decide +kernel) CutX.no_panic (by decide +kernel) rfl rfl rfl (RV.assign rfl) ?_
      refine ED.take 3 rfl (by decide +kernel) CutX.no_panic (by decide +kernel) rfl rfl rfl (RV.assign rfl) ?_
      refine ED.done (by decide +kernel) ?_
      focus (refine PX.cutX (g65, g66) ⟨rfl, rfl, rfl, rfl, trivial⟩ ?_; rw [made256]; exact (by repeat (first | exact Ent.nil _ | exact Ent.refl _ | (apply Ent.cons; case p => repeat (first | exact Pick.here _ _ | apply Pick.there)) | apply Ent.drop)))
  obtain ⟨gx, gy⟩ := x
  dsimp only
  have z1 := fillT_zero UInt8.ofNat
  have z2 := fillT_zero (fun i => UInt8.ofNat i + turn)
  repeat (first | apply ES.seq | apply ES.skip | apply ES.region | apply EL.nil | apply ES.block | apply ES.nil | apply ES.exit | apply ES.ret | apply PX.hit | (apply PX.miss; exact rfl) | apply PX.then_x | apply PX.then_r | apply PX.block_n | apply PX.block_r | refine PX.then_n (e := .normal) ?_)
  refine EL.move rfl rfl rfl ?_
  repeat (first | apply ES.seq | apply ES.skip | apply ES.region | apply EL.nil | apply ES.block | apply ES.nil | apply ES.exit | apply ES.ret | apply PX.hit | (apply PX.miss; exact rfl) | apply PX.then_x | apply PX.then_r | apply PX.block_n | apply PX.block_r | refine PX.then_n (e := .normal) ?_)
  refine ES.loop (σ := Nat) (fun k => k ≤ 256) (fun k => [(0, Sv a), (2, Uv turn), (13, .slice (some ⟨gx, 0, none⟩) 256 256), (14, .slice (some ⟨gy, 0, none⟩) 256 256), (67, Iv k)]) (fun k => [HA.row (.slice (some ⟨gx, 0, none⟩) 256 256) 5 1 256 ((fillT UInt8.ofNat k).map Uv), HA.row (.slice (some ⟨gy, 0, none⟩) 256 256) 5 1 256 ((fillT (fun i => UInt8.ofNat i + turn) k).map Uv)]) (fun k => 256 - k) 0 (Nat.zero_le _) ⟨rfl, rfl, rfl, rfl, rfl, trivial⟩ (by rw [z1, z2]; exact (by repeat (first | exact Ent.nil _ | exact Ent.refl _ | (apply Ent.cons; case p => repeat (first | exact Pick.here _ _ | apply Pick.there)) | apply Ent.drop))) ?_
  intro k hk
  repeat (first | apply ES.seq | apply ES.skip | apply ES.region | apply EL.nil | apply ES.block | apply ES.nil | apply ES.exit | apply ES.ret | apply PX.hit | (apply PX.miss; exact rfl) | apply PX.then_x | apply PX.then_r | apply PX.block_n | apply PX.block_r | refine PX.then_n (e := .normal) ?_)
  refine EL.lss rfl rfl rfl rfl ?_
  repeat (first | apply ES.seq | apply ES.skip | apply ES.region | apply EL.nil | apply ES.block | apply ES.nil | apply ES.exit | apply ES.ret | apply PX.hit | (apply PX.miss; exact rfl) | apply PX.then_x | apply PX.then_r | apply PX.block_n | apply PX.block_r | refine PX.then_n (e := .normal) ?_)
  refine ES.condD rfl (fun hlt => ?_) (fun hge => ?_)
  · have hk' : k < 256 := by omega
    have hk8 : (UInt8.ofNat k).toNat = k := by simp; omega
    have f1 := fillT_len UInt8.ofNat k hk
    have f2 := fillT_len (fun i => UInt8.ofNat i + turn) k hk
    have s1 := fillT_set UInt8.ofNat k hk'
    have s2 := fillT_set (fun i => UInt8.ofNat i + turn) k hk'
    repeat (first | apply ES.seq | apply ES.skip | apply ES.region | apply EL.nil | apply ES.block | apply ES.nil | apply ES.exit | apply ES.ret | apply PX.hit | (apply PX.miss; exact rfl) | apply PX.then_x | apply PX.then_r | apply PX.block_n | apply PX.block_r | refine PX.then_n (e := .normal) ?_)
    refine EL.move rfl rfl rfl ?_
    refine EL.assign rfl rfl rfl ?_
    repeat (first | apply ES.seq | apply ES.skip | apply ES.region | apply EL.nil | apply ES.block | apply ES.nil | apply ES.exit | apply ES.ret | apply PX.hit | (apply PX.miss; exact rfl) | apply PX.then_x | apply PX.then_r | apply PX.block_n | apply PX.block_r | refine PX.then_n (e := .normal) ?_)
    refine EL.move rfl rfl rfl ?_
    refine EL.move rfl rfl rfl ?_
    refine EL.move rfl rfl rfl ?_
    refine EL.convI ((UInt8.ofNat k).toNat : Int) rfl rfl rfl rfl rfl rfl (by rw [hk8]; exact wrap_u8 _ hk') ?_
    refine EL.indexAddrL1 rfl rfl rfl rfl rfl rfl rfl rfl hk' ?_
    refine EL.storeR rfl rfl rfl rfl rfl rfl (by repeat (first | exact PickSet.here _ _ _ | apply PickSet.there)) (by rw [List.length_map, f1]; exact hk') ?_
    repeat (first | apply ES.seq | apply ES.skip | apply ES.region | apply EL.nil | apply ES.block | apply ES.nil | apply ES.exit | apply ES.ret | apply PX.hit | (apply PX.miss; exact rfl) | apply PX.then_x | apply PX.then_r | apply PX.block_n | apply PX.block_r | refine PX.then_n (e := .normal) ?_)
    refine EL.move rfl rfl rfl ?_
    refine EL.move rfl rfl rfl ?_
    refine EL.move rfl rfl rfl ?_
    refine EL.convI ((UInt8.ofNat k).toNat : Int) rfl rfl rfl rfl rfl rfl (by rw [hk8]; exact wrap_u8 _ hk') ?_
    refine EL.move rfl rfl rfl ?_
    refine EL.add ((UInt8.ofNat k + turn).toNat : Int) rfl rfl rfl rfl (wrap_add8 _ _) ?_
    refine EL.indexAddrL1 rfl rfl rfl rfl rfl rfl rfl rfl hk' ?_
    refine EL.storeR rfl rfl rfl rfl rfl rfl (by repeat (first | exact PickSet.here _ _ _ | apply PickSet.there)) (by rw [List.length_map, f2]; exact hk') ?_
    repeat (first | apply ES.seq | apply ES.skip | apply ES.region | apply EL.nil | apply ES.block | apply ES.nil | apply ES.exit | apply ES.ret | apply PX.hit | (apply PX.miss; exact rfl) | apply PX.then_x | apply PX.then_r | apply PX.block_n | apply PX.block_r | refine PX.then_n (e := .normal) ?_)
    refine EL.add1 rfl rfl rfl rfl (by omega) ?_
    refine EL.move rfl rfl rfl ?_
    repeat (first | apply ES.seq | apply ES.skip | apply ES.region | apply EL.nil | apply ES.block | apply ES.nil | apply ES.exit | apply ES.ret | apply PX.hit | (apply PX.miss; exact rfl) | apply PX.then_x | apply PX.then_r | apply PX.block_n | apply PX.block_r | refine PX.then_n (e := .normal) ?_)
    refine PX.loop (k + 1) (by omega) (by omega) ⟨rfl, rfl, rfl, rfl, rfl, trivial⟩ ?_
    rw [← s1, ← s2]
    exact (by repeat (first | exact Ent.nil _ | exact Ent.refl _ | (apply Ent.cons; case p => repeat (first | exact Pick.here _ _ | apply Pick.there)) | apply Ent.drop))
  obtain rfl : k = 256 := by omega
  have e1 : fillT UInt8.ofNat 256 = idT := by simp [fillT, idT]
  have e2 : fillT (fun i => UInt8.ofNat i + turn) 256 = turnT turn := by simp [fillT, turnT]
  rw [e1, e2]
  have hl : idT.length = (turnT turn).length := by rw [idT_len, turn_len]
  have hbk := back idT (turnT turn) hl idT_nodup (turn_nodup turn) (fun b => ⟨fun _ => mem_turn _ _, fun _ => mem_idT _⟩)
  have c1 := fun w => new_c idT (turnT turn) (by rw [idT_len]; omega) (by rw [turn_len]; omega) w
  have c2 := fun w => new_c (turnT turn) idT (by rw [turn_len]; omega) (by rw [idT_len]; omega) w
  have n1 : (newM idT (turnT turn)).2 = 0 := by rw [newM_ok _ _ hl idT_nodup]
  have n2 : (newM (turnT turn) idT).2 = 0 := by rw [newM_ok _ _ hl.symm (turn_nodup turn)]
  rw [n1] at c1; rw [n2] at c2
  have l1 := newM_len idT (turnT turn)
  have l2 := newM_len (turnT turn) idT
  generalize (newM idT (turnT turn)).1 = t1 at *
  generalize (newM (turnT turn) idT).1 = t2 at *
  have c3 := fun w => apply_c t1 a l1 (by omega) w
  have c4 := fun w => apply_c t2 (a.map fun b => t1.getD b.toNat 0) l2 (by rw [List.length_map]; omega) w
  have hid : (a.map fun b => t1.getD b.toNat 0).map (fun b => t2.getD b.toNat 0) = a := by
    rw [List.map_map, show ((fun b : UInt8 => t2.getD b.toNat 0) ∘ fun b => t1.getD b.toNat 0) = id from funext hbk, List.map_id]
  rw [hid] at c4
  clear n1 n2
  generalize turnT turn = tt at *
  generalize idT = ii at *
  repeat (first | apply ES.seq | apply ES.skip | apply ES.region | apply EL.nil | apply ES.block | apply ES.nil | apply ES.exit | apply ES.ret | apply PX.hit | (apply PX.miss; exact rfl) | apply PX.then_x | apply PX.then_r | apply PX.block_n | apply PX.block_r | refine PX.then_n (e := .normal) ?_)
  refine EL.move rfl rfl rfl ?_
  refine EL.bytesS rfl rfl rfl rfl rfl rfl rfl rfl rfl (by repeat (first | exact Mem.here _ _ | apply Mem.there)) ?_
  refine EL.move rfl rfl rfl ?_
  refine EL.bytesS rfl rfl rfl rfl rfl rfl rfl rfl rfl (by repeat (first | exact Mem.here _ _ | apply Mem.there)) ?_
  refine EL.callP rfl rfl rfl ent19 rfl c1 ?_
  refine EL.move rfl rfl rfl ?_
  refine EL.extract rfl rfl rfl rfl ?_
  refine EL.extract rfl rfl rfl rfl ?_
  (refine EL.alloc rfl rfl rfl ?_; intro g16)
  refine EL.storeAll (vs := t1.map Uv) rfl rfl rfl rfl (by simp [l1]; rfl) (by repeat (first | exact PickSet.here _ _ _ | apply PickSet.there)) (by simp [l1]; rfl) (one_map Uv (fun _ => rfl) _) ?_
  refine EL.assign rfl rfl rfl ?_
  repeat (first | apply ES.seq | apply ES.skip | apply ES.region | apply EL.nil | apply ES.block | apply ES.nil | apply ES.exit | apply ES.ret | apply PX.hit | (apply PX.miss; exact rfl) | apply PX.then_x | apply PX.then_r | apply PX.block_n | apply PX.block_r | refine PX.then_n (e := .normal) ?_)
  refine EL.move rfl rfl rfl ?_
  refine EL.bytesS rfl rfl rfl rfl rfl rfl rfl rfl rfl (by repeat (first | exact Mem.here _ _ | apply Mem.there)) ?_
  refine EL.move rfl rfl rfl ?_
  refine EL.bytesS rfl rfl rfl rfl rfl rfl rfl rfl rfl (by repeat (first | exact Mem.here _ _ | apply Mem.there)) ?_
  refine EL.callP rfl rfl rfl ent19 rfl c2 ?_
  refine EL.move rfl rfl rfl ?_
  refine EL.extract rfl rfl rfl rfl ?_
  refine EL.extract rfl rfl rfl rfl ?_
  (refine EL.alloc rfl rfl rfl ?_; intro g18)
  refine EL.storeAll (vs := t2.map Uv) rfl rfl rfl rfl (by simp [l2]; rfl) (by repeat (first | exact PickSet.here _ _ _ | apply PickSet.there)) (by simp [l2]; rfl) (one_map Uv (fun _ => rfl) _) ?_
  refine EL.assign rfl rfl rfl ?_
  repeat (first | apply ES.seq | apply ES.skip | apply ES.region | apply EL.nil | apply ES.block | apply ES.nil | apply ES.exit | apply ES.ret | apply PX.hit | (apply PX.miss; exact rfl) | apply PX.then_x | apply PX.then_r | apply PX.block_n | apply PX.block_r | refine PX.then_n (e := .normal) ?_)
  repeat (first | apply ES.seq | apply ES.skip | apply ES.region | apply EL.nil | apply ES.block | apply ES.nil | apply ES.exit | apply ES.ret | apply PX.hit | (apply PX.miss; exact rfl) | apply PX.then_x | apply PX.then_r | apply PX.block_n | apply PX.block_r | refine PX.then_n (e := .normal) ?_)
  refine EL.move rfl rfl rfl ?_
  refine EL.neqI rfl rfl rfl rfl ?_
  refine EL.move rfl rfl rfl ?_
  refine EL.rew (d := 101) (v' := .bool false) rfl (by first | rfl | (decide) | (simp)) ?_
  refine EL.move rfl rfl rfl ?_
  refine EL.neqI rfl rfl rfl rfl ?_
  refine EL.pickF rfl rfl rfl rfl ?_
  repeat (first | apply ES.seq | apply ES.skip | apply ES.region | apply EL.nil | apply ES.block | apply ES.nil | apply ES.exit | apply ES.ret | apply PX.hit | (apply PX.miss; exact rfl) | apply PX.then_x | apply PX.then_r | apply PX.block_n | apply PX.block_r | refine PX.then_n (e := .normal) ?_)
  refine ES.condK false rfl rfl ?_
  repeat (first | apply ES.seq | apply ES.skip | apply EL.nil | apply ES.block | apply ES.nil | apply ES.exit | apply ES.ret | apply PX.hit | (apply PX.miss; exact rfl) | apply PX.then_x | apply PX.then_r | apply PX.block_n | apply PX.block_r | refine PX.then_n (e := .normal) ?_)
  refine ES.draw (X := Unit) (fun _ => [(0, Sv a), (20, Sv a), (21, Iv 0)]) (fun _ => []) [HA.blk g16 (.cells (t1.map Uv).toArray 40), HA.blk g18 (.cells (t2.map Uv).toArray 40)] mixed (by repeat (first | exact Ent.nil _ | exact Ent.refl _ | (apply Ent.cons; case p => repeat (first | exact Pick.here _ _ | apply Pick.there)) | apply Ent.drop)) ?_ (fun _ => ?_)
  · refine ED.take 0 rfl (by decide +kernel) CutX.no_panic (by decide +kernel) rfl rfl rfl (RV.loadAggB rfl rfl rfl (by repeat (first | exact Mem.here _ _ | apply Mem.there)) (by simp [l2]; rfl)) ?_
    refine ED.take 1 rfl (by decide +kernel) CutX.no_panic (by decide +kernel) rfl rfl rfl (RV.loadAggB rfl rfl rfl (by repeat (first | exact Mem.here _ _ | apply Mem.there)) (by simp [l1]; rfl)) ?_
    refine ED.take 2 rfl (by decide +kernel) CutX.no_panic (by decide +kernel) rfl rfl rfl (RV.move rfl) ?_
    refine ED.loud 3 rfl (by decide +kernel) ?_
    refine EL.callP rfl rfl rfl ent20 rfl c3 ?_
    refine ED.next (by repeat (first | exact Ent.nil _ | exact Ent.refl _ | (apply Ent.cons; case p => repeat (first | exact Pick.here _ _ | apply Pick.there)) | apply Ent.drop)) ?_
    refine ED.loud 4 rfl (by decide +kernel) ?_
    refine EL.callP rfl rfl rfl ent20 rfl c4 ?_
    refine ED.next (by repeat (first | exact Ent.nil _ | exact Ent.refl _ | (apply Ent.cons; case p => repeat (first | exact Pick.here _ _ | apply Pick.there)) | apply Ent.drop)) ?_
    refine ED.loud 5 rfl (by decide +kernel) ?_
    (refine EL.callX rfl rfl rfl ent15 rfl (lines_c a (by omega)) ?_; rintro ⟨ad5, cap5⟩)
    refine ED.next (by repeat (first | exact Ent.nil _ | exact Ent.refl _ | (apply Ent.cons; case p => repeat (first | exact Pick.here _ _ | apply Pick.there)) | apply Ent.drop)) ?_
    refine ED.loud 6 rfl (by decide +kernel) ?_
    refine EL.callPw rfl rfl rfl ent17 rfl (fun w hs => read_back ad5 cap5 a (by omega) w (Rd.row hs (by repeat (first | exact Mem.here _ _ | apply Mem.there)) (by decide))) ?_
    refine ED.next (by repeat (first | exact Ent.nil _ | exact Ent.refl _ | (apply Ent.cons; case p => repeat (first | exact Pick.here _ _ | apply Pick.there)) | apply Ent.drop)) ?_
    refine ED.take 7 rfl (by decide +kernel) CutX.no_panic (by decide +kernel) rfl rfl rfl (RV.move rfl) ?_
    refine ED.take 8 rfl (by decide +kernel) CutX.no_panic (by decide +kernel) rfl rfl rfl (RV.extract rfl rfl) ?_
    refine ED.take 9 rfl (by decide +kernel) CutX.no_panic (by decide +kernel) rfl rfl rfl (RV.extract rfl rfl) ?_
    refine ED.take 10 rfl (by decide +kernel) CutX.no_panic (by decide +kernel) rfl rfl rfl (RV.assign rfl) ?_
    refine ED.take 11 rfl (by decide +kernel) CutX.no_panic (by decide +kernel) rfl rfl rfl (RV.assign rfl) ?_
    refine ED.done (by decide +kernel) ?_
    exact PX.cutX () ⟨rfl, rfl, rfl, trivial⟩ (by repeat (first | exact Ent.nil _ | exact Ent.refl _ | (apply Ent.cons; case p => repeat (first | exact Pick.here _ _ | apply Pick.there)) | apply Ent.drop))
  repeat (first | apply ES.seq | apply ES.skip | apply ES.region | apply EL.nil | apply ES.block | apply ES.nil | apply ES.exit | apply ES.ret | apply PX.hit | (apply PX.miss; exact rfl) | apply PX.then_x | apply PX.then_r | apply PX.block_n | apply PX.block_r | refine PX.then_n (e := .normal) ?_)
  refine EL.move rfl rfl rfl ?_
  refine EL.eqlI rfl rfl rfl rfl ?_
  refine EL.move rfl rfl rfl ?_
  refine EL.rew (d := 117) (v' := .bool true) rfl (by first | rfl | (decide) | (simp)) ?_
  refine EL.move rfl rfl rfl ?_
  refine EL.move rfl rfl rfl ?_
  refine EL.eqlS rfl rfl rfl rfl ?_
  refine EL.pickT rfl rfl rfl rfl ?_
  refine EL.assign rfl rfl rfl ?_
  repeat (first | apply ES.seq | apply ES.skip | apply ES.region | apply EL.nil | apply ES.block | apply ES.nil | apply ES.exit | apply ES.ret | apply PX.hit | (apply PX.miss; exact rfl) | apply PX.then_x | apply PX.then_r | apply PX.block_n | apply PX.block_r | refine PX.then_n (e := .normal) ?_)
  exact PX.ret rfl Try.results9 (.cons (.tmp rfl) .nil) (fun w hs => ⟨(), by simp; rfl, hs.ent (.nil _)⟩)
theorem wholeSeen_lifted (os : Os) (started : os.Started) (H : Type) (enc : TypeId × Value → H) (F : Stop.Interp) :
    ReturnsInHanded {} Try.checked os 9 .any ((Rows.OpenSpec.upto Rows.wholeSeenSpec).pre6 enc Try.prog Try.f9 Rows.wholeSeenUptoRow.domain false) (((Rows.OpenSpec.upto Rows.wholeSeenSpec).at F).post enc Try.prog Try.f9 false true false false) := by
  refine returnsInHanded_of_cond (C := Try.checked) (s := (Rows.OpenSpec.upto Rows.wholeSeenSpec)) (k := Rows.uptoSmall) rfl own started (by kernel_rfl) Try.func9
    (OpenSpec.witness (enc := enc) (C := Try.checked) (s := (Rows.OpenSpec.upto Rows.wholeSeenSpec)) (k := Rows.uptoSmall) rfl false ⟨#[], #[.string ⟨#[]⟩, .string ⟨#[]⟩, .int .u8 0], []⟩ 8 (by kernel_rfl) (by kernel_rfl) (by kernel_rfl)
      (x := ([.lit (.string []), .lit (.string []), .lit (.int .u8 0)], [], [])) (by kernel_rfl) rfl (by kernel_rfl)) ?_
  intro W base args ds gs before hval0 hW _ hk _
  have hval : ∀ (j : Nat) t v, Try.f9.params[j]? = some t → args[j]? = some v → Value.okWide Try.prog W .any base t v := hval0
  have hW1 : DataW.Whole enc Try.prog Try.f9.params.toList Rows.wholeSeenSpec.vars false W args.toList ds gs before := hW
  have hW' := hW1
  obtain ⟨p, q, hA0, hV, rfl, hfz, hnd⟩ := hW1
  have hA : DataW.TrodAll enc Try.prog W 0 (fun _ => true) true Try.f9.params.toList args.toList ds p := hA0
  rw [Try.params9] at hA hval
  obtain ⟨v0, vs0, d0, ds0, p0, q0, hargs0, rfl, rfl, h0, r0⟩ := trodAll_cons hA
  obtain ⟨v1, vs1, d1, ds1, p1, q1, hargs1, rfl, rfl, h1, r1⟩ := trodAll_cons r0
  obtain ⟨v2, vs2, d2, ds2, p2, q2, hargs2, rfl, rfl, h2, r2⟩ := trodAll_cons r1
  obtain ⟨rfl, rfl, rfl⟩ := trodAll_nil r2
  subst hargs1 hargs2
  obtain rfl : args = #[v0, v1, v2] := by cases args; simp_all
  obtain ⟨rfl, rfl⟩ := trodVars_none hV
  obtain ⟨l0, rfl, rfl⟩ := open_sv Try.underlying9 (hval 0 9 v0 rfl rfl) h0
  obtain ⟨l1, rfl, rfl⟩ := open_sv Try.underlying9 (hval 1 9 v1 rfl rfl) h1
  obtain ⟨b2, rfl, rfl⟩ := open_uv Try.underlying5 (hval 2 5 v2 rfl rfl) h2
  have hb := of_decide_eq_true hk
  simp only [List.append_nil, Rows.uptoBulkAll, Rows.uptoBulk] at hb
  have hl0 : l0.length ≤ 1048576 := by omega
  have hl1 : l1.length ≤ 1048576 := by omega
  refine (wholeSeen_c l0 l1 b2 (by omega) (by omega) W).mono fun e W' ⟨_, he, hs⟩ => ⟨_, he, ?_⟩
  exact law_true (s := Rows.wholeSeenSpec) laidOut rfl Try.underlying4 (by kernel_rfl) rfl false rfl rfl rfl hW' hs.below
theorem wholeSeen_holds : Rows.WholeSeenUptoSaid :=
  OpenClaim.holds_of_cond 9 Try.f9 rfl rfl rfl rfl rfl rfl rfl ⟨rfl, rfl, rfl, rfl, rfl⟩ rfl rfl rfl rfl rfl (by kernel_rfl) Try.func9 (by kernel_rfl)
    (of_decide_eq_true (by kernel_rfl)) (by unfold Func.isWrapper; first | (rw [if_pos (by decide +kernel)]; kernel_rfl) | (rw [if_neg (by decide +kernel)]; exact ⟨rfl, rfl⟩))
    (fun os started H enc _ F => wholeSeen_lifted os started H enc F)
end Go.Proofs.Ytjjifcfcomhdcaa
