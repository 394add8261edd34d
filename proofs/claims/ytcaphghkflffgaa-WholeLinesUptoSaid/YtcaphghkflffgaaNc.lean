/- Layer 1 (lines): Join, Number, Tail and the document's. -/
import Derived.Test.YtcaphghkflffgaaNb
import Derived.Test.YtcaphghkflffgaaSlz
import Derived.Test.YtcaphghkflffgaaCa
namespace Go.Proofs.Ytcaphghkflffgaa
open Go Go.RowKit Sl
set_option maxRecDepth 100000
set_option maxHeartbeats 8000000
set_option linter.unusedVariables false
set_option linter.unusedSimpArgs false
attribute [local irreducible] ES EL PX wps

def joinM (ls : LL) : List UInt8 := ls.flatMap (· ++ [10])
theorem join_snoc (ls : LL) (i : Nat) (h : i < ls.length) : joinM (ls.take (i + 1)) = joinM (ls.take i) ++ (ls.getD i [] ++ [10]) := by
  unfold joinM
  rw [take_snoc ls i [] h, List.flatMap_append]; simp
theorem join_len : ∀ (ls : LL) (i : Nat), (joinM (ls.take i)).length ≤ ls.length + (ls.map List.length).sum
  | [], i => by simp [joinM]
  | l :: ls, 0 => by simp [joinM]
  | l :: ls, i + 1 => by
    have := join_len ls i
    unfold joinM at *
    simp only [List.take_succ_cons, List.flatMap_cons, List.length_append, List.length_cons, List.length_nil, List.map_cons, List.sum_cons] at *
    omega
theorem len_le_sum : ∀ (ls : LL) (i : Nat), (ls.getD i []).length ≤ (ls.map List.length).sum
  | [], i => by simp
  | l :: ls, 0 => by simp
  | l :: ls, i + 1 => by
    have := len_le_sum ls i
    simp only [List.getD_cons_succ, List.map_cons, List.sum_cons]
    omega
theorem writeByte_c (g : Nat) (u : Bool) (ad : Option Addr) (cap : Nat) (bs : List UInt8) (b : UInt8) (hb : bs.length + 1 ≤ 140737488355328) : Mut Try.prog 24 #[Pv g 0, Uv b] (HB g u ad cap bs) (fun _ : QA => .nilIface) (fun x => HB g true x.1 x.2 (bs ++ [b])) := by
  intro w0 B R w h
  replace h : Sat w0 B (HA.blk g (.cells #[.pointer (if u then some ⟨g, 0, none⟩ else none), .slice ad bs.length cap] 48) :: HA.buf (.slice ad bs.length cap) 5 bs.length (bs.map Uv) :: R) w := h
  refine calls_of_ES TB Try.func24 rfl _ Try.ntmps24 rfl h ?_
  repeat (first | apply ES.seq | apply ES.skip | apply ES.region | apply EL.nil | apply ES.block | apply ES.nil | apply ES.exit | apply ES.ret | apply PX.hit | (apply PX.miss; exact rfl) | apply PX.then_x | apply PX.then_r | apply PX.block_n | apply PX.block_r | refine PX.then_n (e := .normal) ?_)
  refine EL.assign rfl rfl rfl ?_
  repeat (first | apply ES.seq | apply ES.skip | apply ES.region | apply EL.nil | apply ES.block | apply ES.nil | apply ES.exit | apply ES.ret | apply PX.hit | (apply PX.miss; exact rfl) | apply PX.then_x | apply PX.then_r | apply PX.block_n | apply PX.block_r | refine PX.then_n (e := .normal) ?_)
  refine EL.move rfl rfl rfl ?_
  refine EL.callM1 rfl rfl rfl ent31 rfl (copyCheck_c g u (.slice ad bs.length cap)) (by repeat (first | exact Takes.nil _ | (apply Takes.cons; case p => repeat (first | exact Pick.here _ _ | apply Pick.there)))) ?_
  repeat (first | apply ES.seq | apply ES.skip | apply ES.region | apply EL.nil | apply ES.block | apply ES.nil | apply ES.exit | apply ES.ret | apply PX.hit | (apply PX.miss; exact rfl) | apply PX.then_x | apply PX.then_r | apply PX.block_n | apply PX.block_r | refine PX.then_n (e := .normal) ?_)
  have e1 : (bs ++ [b]).length = bs.length + 1 := by simp
  have e2 : (bs ++ [b]).map Uv = bs.map Uv ++ [Uv b] := by simp
  repeat (first | apply ES.seq | apply ES.skip | apply ES.region | apply EL.nil | apply ES.block | apply ES.nil | apply ES.exit | apply ES.ret | apply PX.hit | (apply PX.miss; exact rfl) | apply PX.then_x | apply PX.then_r | apply PX.block_n | apply PX.block_r | refine PX.then_n (e := .normal) ?_)
  refine EL.move rfl rfl rfl ?_
  refine EL.move rfl rfl rfl ?_
  refine EL.nilCheck rfl rfl rfl ?_
  refine EL.fieldAddr rfl rfl rfl rfl rfl rfl rfl rfl ?_
  (apply EL.loadB; exact rfl; exact rfl; exact rfl; exact rfl; exact rfl; (case hm => (repeat (first | exact Mem.here _ _ | apply Mem.there))); exact rfl)
  refine EL.move rfl rfl rfl ?_
  (refine EL.buildSlice1 rfl rfl rfl rfl rfl rfl rfl rfl rfl rfl ?_; intro b13)
  (refine EL.appendB1 rfl rfl rfl rfl rfl rfl rfl rfl rfl rfl (by repeat (first | exact Mem.here _ _ | apply Mem.there)) rfl (by repeat (first | exact Pick.here _ _ | apply Pick.there)) hb ?_; intro ad2 cap2)
  refine EL.nilCheck rfl rfl rfl ?_
  refine EL.fieldAddr rfl rfl rfl rfl rfl rfl rfl rfl ?_
  (apply EL.storeB; exact rfl; exact rfl; exact rfl; exact rfl; exact rfl; exact rfl; (case p => (repeat (first | exact PickSet.here _ _ _ | apply PickSet.there))); exact (by first | decide | simp))
  repeat (first | apply ES.seq | apply ES.skip | apply ES.region | apply EL.nil | apply ES.block | apply ES.nil | apply ES.exit | apply ES.ret | apply PX.hit | (apply PX.miss; exact rfl) | apply PX.then_x | apply PX.then_r | apply PX.block_n | apply PX.block_r | refine PX.then_n (e := .normal) ?_)
  refine EL.assign rfl rfl rfl ?_
  repeat (first | apply ES.seq | apply ES.skip | apply ES.region | apply EL.nil | apply ES.block | apply ES.nil | apply ES.exit | apply ES.ret | apply PX.hit | (apply PX.miss; exact rfl) | apply PX.then_x | apply PX.then_r | apply PX.block_n | apply PX.block_r | refine PX.then_n (e := .normal) ?_)
  exact PX.ret rfl Try.results24 (.cons (.tmp rfl) .nil) (fun w hs => ⟨(ad2, cap2), rfl, by
    show Sat w0 B (HA.blk g (.cells #[Pv g 0, .slice ad2 (bs ++ [b]).length cap2] 48) :: HA.buf (.slice ad2 (bs ++ [b]).length cap2) 5 (bs ++ [b]).length ((bs ++ [b]).map Uv) :: R) w
    rw [e1, e2]
    exact hs.ent (by repeat (first | exact Ent.nil _ | exact Ent.refl _ | (apply Ent.cons; case p => repeat (first | exact Pick.here _ _ | apply Pick.there)) | apply Ent.drop))⟩)
theorem join_c (ad : Option Addr) (cap : Nat) (ls : LL) (hb : ls.length + (ls.map List.length).sum ≤ 1073741824) (w : World) (hrd : Rd w w.heap.size ad (ls.map Sv)) : Pure Try.prog 17 #[.slice ad ls.length cap] (fun _ : Unit => Sv (joinM ls)) (fun _ => []) w := by
  refine calls_of_ES TB Try.func17 rfl _ Try.ntmps17 rfl (Sat.start w) ?_
  repeat (first | apply ES.seq | apply ES.skip | apply ES.region | apply EL.nil | apply ES.block | apply ES.nil | apply ES.exit | apply ES.ret | apply PX.hit | (apply PX.miss; exact rfl) | apply PX.then_x | apply PX.then_r | apply PX.block_n | apply PX.block_r | refine PX.then_n (e := .normal) ?_)
  refine EL.assign rfl rfl rfl ?_
  repeat (first | apply ES.seq | apply ES.skip | apply ES.region | apply EL.nil | apply ES.block | apply ES.nil | apply ES.exit | apply ES.ret | apply PX.hit | (apply PX.miss; exact rfl) | apply PX.then_x | apply PX.then_r | apply PX.block_n | apply PX.block_r | refine PX.then_n (e := .normal) ?_)
  (refine EL.alloc rfl rfl rfl ?_; intro g3)
  repeat (first | apply ES.seq | apply ES.skip | apply ES.region | apply EL.nil | apply ES.block | apply ES.nil | apply ES.exit | apply ES.ret | apply PX.hit | (apply PX.miss; exact rfl) | apply PX.then_x | apply PX.then_r | apply PX.block_n | apply PX.block_r | refine PX.then_n (e := .normal) ?_)
  refine EL.move rfl rfl rfl ?_
  refine EL.lenL rfl rfl rfl rfl rfl ?_
  refine EL.move rfl rfl rfl ?_
  repeat (first | apply ES.seq | apply ES.skip | apply ES.region | apply EL.nil | apply ES.block | apply ES.nil | apply ES.exit | apply ES.ret | apply PX.hit | (apply PX.miss; exact rfl) | apply PX.then_x | apply PX.then_r | apply PX.block_n | apply PX.block_r | refine PX.then_n (e := .normal) ?_)
  refine ES.nilBuf 5 ?_
  refine ES.loop (σ := Nat × Bool × Option Addr × Nat) (fun (i, u, bad, bcap) => i ≤ ls.length) (fun (i, u, bad, bcap) => [(3, Pv g3 0), (6, .slice ad ls.length cap), (7, Iv ls.length), (8, Iv i)])
    (fun (i, u, bad, bcap) => HB g3 u bad bcap (joinM (ls.take i))) (fun (i, _) => ls.length - i) (0, false, none, 0) (Nat.zero_le _) ⟨rfl, rfl, rfl, rfl, trivial⟩ (by repeat (first | exact Ent.nil _ | exact Ent.refl _ | (apply Ent.cons; case p => repeat (first | exact Pick.here _ _ | apply Pick.there)) | apply Ent.drop)) ?_
  rintro ⟨i, u, bad, bcap⟩ hi
  dsimp only at hi ⊢
  have hjl := join_len ls i
  repeat (first | apply ES.seq | apply ES.skip | apply ES.region | apply EL.nil | apply ES.block | apply ES.nil | apply ES.exit | apply ES.ret | apply PX.hit | (apply PX.miss; exact rfl) | apply PX.then_x | apply PX.then_r | apply PX.block_n | apply PX.block_r | refine PX.then_n (e := .normal) ?_)
  refine EL.lss rfl rfl rfl rfl ?_
  repeat (first | apply ES.seq | apply ES.skip | apply ES.region | apply EL.nil | apply ES.block | apply ES.nil | apply ES.exit | apply ES.ret | apply PX.hit | (apply PX.miss; exact rfl) | apply PX.then_x | apply PX.then_r | apply PX.block_n | apply PX.block_r | refine PX.then_n (e := .normal) ?_)
  refine ES.condD rfl (fun hlt => ?_) (fun hge => ?_)
  · have hlt' : i < ls.length := by omega
    obtain ⟨l, hl⟩ : ∃ l, l = ls.getD i [] := ⟨_, rfl⟩
    have hget : (ls.map Sv)[i]? = some (Sv l) := by rw [hl]; exact getElem?_map Sv ls i [] hlt'
    have hll : l.length ≤ (ls.map List.length).sum := by rw [hl]; exact len_le_sum ls i
    have hsn := join_snoc ls i hlt'
    rw [← hl, ← List.append_assoc] at hsn
    have hrd' := hrd
    obtain ⟨ga, oa, rfl, _⟩ := hrd' (fun e => by rw [e] at hget; simp at hget)
    repeat (first | apply ES.seq | apply ES.skip | apply ES.region | apply EL.nil | apply ES.block | apply ES.nil | apply ES.exit | apply ES.ret | apply PX.hit | (apply PX.miss; exact rfl) | apply PX.then_x | apply PX.then_r | apply PX.block_n | apply PX.block_r | refine PX.then_n (e := .normal) ?_)
    refine EL.indexAddrLo rfl rfl rfl rfl rfl rfl rfl rfl hlt' ?_
    refine EL.loadOld rfl rfl rfl rfl rfl hrd hget ?_
    refine EL.assign rfl rfl rfl ?_
    repeat (first | apply ES.seq | apply ES.skip | apply ES.region | apply EL.nil | apply ES.block | apply ES.nil | apply ES.exit | apply ES.ret | apply PX.hit | (apply PX.miss; exact rfl) | apply PX.then_x | apply PX.then_r | apply PX.block_n | apply PX.block_r | refine PX.then_n (e := .normal) ?_)
    refine EL.move rfl rfl rfl ?_
    (refine EL.callM rfl rfl rfl ent23 rfl (writeString_c g3 u bad bcap (joinM (ls.take i)) l (by omega)) (by repeat (first | exact Takes.nil _ | (apply Takes.cons; case p => repeat (first | exact Pick.here _ _ | apply Pick.there)))) ?_; rintro ⟨ad2, cap2⟩)
    repeat (first | apply ES.seq | apply ES.skip | apply ES.region | apply EL.nil | apply ES.block | apply ES.nil | apply ES.exit | apply ES.ret | apply PX.hit | (apply PX.miss; exact rfl) | apply PX.then_x | apply PX.then_r | apply PX.block_n | apply PX.block_r | refine PX.then_n (e := .normal) ?_)
    repeat (first | apply ES.seq | apply ES.skip | apply ES.region | apply EL.nil | apply ES.block | apply ES.nil | apply ES.exit | apply ES.ret | apply PX.hit | (apply PX.miss; exact rfl) | apply PX.then_x | apply PX.then_r | apply PX.block_n | apply PX.block_r | refine PX.then_n (e := .normal) ?_)
    (refine EL.callM rfl rfl rfl ent24 rfl (writeByte_c g3 true ad2 cap2 (joinM (ls.take i) ++ l) 10 (by rw [List.length_append]; omega)) (by repeat (first | exact Takes.nil _ | (apply Takes.cons; case p => repeat (first | exact Pick.here _ _ | apply Pick.there)))) ?_; rintro ⟨ad3, cap3⟩)
    repeat (first | apply ES.seq | apply ES.skip | apply ES.region | apply EL.nil | apply ES.block | apply ES.nil | apply ES.exit | apply ES.ret | apply PX.hit | (apply PX.miss; exact rfl) | apply PX.then_x | apply PX.then_r | apply PX.block_n | apply PX.block_r | refine PX.then_n (e := .normal) ?_)
    refine EL.add1 rfl rfl rfl rfl (by omega) ?_
    refine EL.move rfl rfl rfl ?_
    repeat (first | apply ES.seq | apply ES.skip | apply ES.region | apply EL.nil | apply ES.block | apply ES.nil | apply ES.exit | apply ES.ret | apply PX.hit | (apply PX.miss; exact rfl) | apply PX.then_x | apply PX.then_r | apply PX.block_n | apply PX.block_r | refine PX.then_n (e := .normal) ?_)
    refine PX.loop (i + 1, true, ad3, cap3) (by simp only; omega) (by simp only; omega) ⟨rfl, rfl, rfl, rfl, trivial⟩ ?_
    dsimp only
    rw [hsn]
    exact (by repeat (first | exact Ent.nil _ | exact Ent.refl _ | (apply Ent.cons; case p => repeat (first | exact Pick.here _ _ | apply Pick.there)) | apply Ent.drop))
  obtain rfl : i = ls.length := by omega
  rw [List.take_length] at hjl ⊢
  repeat (first | apply ES.seq | apply ES.skip | apply ES.region | apply EL.nil | apply ES.block | apply ES.nil | apply ES.exit | apply ES.ret | apply PX.hit | (apply PX.miss; exact rfl) | apply PX.then_x | apply PX.then_r | apply PX.block_n | apply PX.block_r | refine PX.then_n (e := .normal) ?_)
  refine EL.callM1 rfl rfl rfl ent25 rfl (bstring_c g3 u bad bcap (joinM ls) (by omega)) (by repeat (first | exact Takes.nil _ | (apply Takes.cons; case p => repeat (first | exact Pick.here _ _ | apply Pick.there)))) ?_
  refine EL.assign rfl rfl rfl ?_
  repeat (first | apply ES.seq | apply ES.skip | apply ES.region | apply EL.nil | apply ES.block | apply ES.nil | apply ES.exit | apply ES.ret | apply PX.hit | (apply PX.miss; exact rfl) | apply PX.then_x | apply PX.then_r | apply PX.block_n | apply PX.block_r | refine PX.then_n (e := .normal) ?_)
  exact PX.ret rfl Try.results17 (.cons (.tmp rfl) .nil) (fun w hs => ⟨(), rfl, hs.ent (.nil _)⟩)
theorem rjoin_c (ad : Option Addr) (cap : Nat) (ls : LL) (hb : ls.length + (ls.map List.length).sum ≤ 1073741824) (w : World) (hrd : Rd w w.heap.size ad (ls.map Sv)) : Pure Try.prog 18 #[.slice ad ls.length cap] (fun _ : Unit => Sv (joinM ls)) (fun _ => []) w := by
  refine calls_of_ES TB Try.func18 rfl _ Try.ntmps18 rfl (Sat.start w) ?_
  repeat (first | apply ES.seq | apply ES.skip | apply ES.region | apply EL.nil | apply ES.block | apply ES.nil | apply ES.exit | apply ES.ret | apply PX.hit | (apply PX.miss; exact rfl) | apply PX.then_x | apply PX.then_r | apply PX.block_n | apply PX.block_r | refine PX.then_n (e := .normal) ?_)
  refine EL.assign rfl rfl rfl ?_
  repeat (first | apply ES.seq | apply ES.skip | apply ES.region | apply EL.nil | apply ES.block | apply ES.nil | apply ES.exit | apply ES.ret | apply PX.hit | (apply PX.miss; exact rfl) | apply PX.then_x | apply PX.then_r | apply PX.block_n | apply PX.block_r | refine PX.then_n (e := .normal) ?_)
  refine EL.assign rfl rfl rfl ?_
  repeat (first | apply ES.seq | apply ES.skip | apply ES.region | apply EL.nil | apply ES.block | apply ES.nil | apply ES.exit | apply ES.ret | apply PX.hit | (apply PX.miss; exact rfl) | apply PX.then_x | apply PX.then_r | apply PX.block_n | apply PX.block_r | refine PX.then_n (e := .normal) ?_)
  refine EL.nilBuf 5 ?_
  repeat (first | apply ES.seq | apply ES.skip | apply ES.region | apply EL.nil | apply ES.block | apply ES.nil | apply ES.exit | apply ES.ret | apply PX.hit | (apply PX.miss; exact rfl) | apply PX.then_x | apply PX.then_r | apply PX.block_n | apply PX.block_r | refine PX.then_n (e := .normal) ?_)
  refine EL.assign rfl rfl rfl ?_
  repeat (first | apply ES.seq | apply ES.skip | apply ES.region | apply EL.nil | apply ES.block | apply ES.nil | apply ES.exit | apply ES.ret | apply PX.hit | (apply PX.miss; exact rfl) | apply PX.then_x | apply PX.then_r | apply PX.block_n | apply PX.block_r | refine PX.then_n (e := .normal) ?_)
  refine ES.loop (σ := Nat × Option Addr × Nat) (fun (i, bad, bcap) => i ≤ ls.length) (fun (i, bad, bcap) => [(0, .slice ad ls.length cap), (3, .slice bad (joinM (ls.take i)).length bcap), (4, Iv i)])
    (fun (i, bad, bcap) => [HA.buf (.slice bad (joinM (ls.take i)).length bcap) 5 (joinM (ls.take i)).length ((joinM (ls.take i)).map Uv)]) (fun (i, _) => ls.length - i) (0, none, 0) (Nat.zero_le _) ⟨rfl, rfl, rfl, trivial⟩ (by repeat (first | exact Ent.nil _ | exact Ent.refl _ | (apply Ent.cons; case p => repeat (first | exact Pick.here _ _ | apply Pick.there)) | apply Ent.drop)) ?_
  rintro ⟨i, bad, bcap⟩ hi
  dsimp only at hi ⊢
  have hjl := join_len ls i
  repeat (first | apply ES.seq | apply ES.skip | apply ES.region | apply EL.nil | apply ES.block | apply ES.nil | apply ES.exit | apply ES.ret | apply PX.hit | (apply PX.miss; exact rfl) | apply PX.then_x | apply PX.then_r | apply PX.block_n | apply PX.block_r | refine PX.then_n (e := .normal) ?_)
  refine EL.move rfl rfl rfl ?_
  refine EL.move rfl rfl rfl ?_
  refine EL.lenL rfl rfl rfl rfl rfl ?_
  refine EL.lss rfl rfl rfl rfl ?_
  repeat (first | apply ES.seq | apply ES.skip | apply ES.region | apply EL.nil | apply ES.block | apply ES.nil | apply ES.exit | apply ES.ret | apply PX.hit | (apply PX.miss; exact rfl) | apply PX.then_x | apply PX.then_r | apply PX.block_n | apply PX.block_r | refine PX.then_n (e := .normal) ?_)
  refine ES.condD rfl (fun hlt => ?_) (fun hge => ?_)
  · have hlt' : i < ls.length := by omega
    obtain ⟨l, hl⟩ : ∃ l, l = ls.getD i [] := ⟨_, rfl⟩
    have hget : (ls.map Sv)[i]? = some (Sv l) := by rw [hl]; exact getElem?_map Sv ls i [] hlt'
    have hll : l.length ≤ (ls.map List.length).sum := by rw [hl]; exact len_le_sum ls i
    have hsn := join_snoc ls i hlt'
    rw [← hl] at hsn
    have e1 : (joinM (ls.take (i + 1))).length = (joinM (ls.take i)).length + l.length + 1 := by rw [hsn]; simp; omega
    have e2 : (joinM (ls.take (i + 1))).map Uv = (joinM (ls.take i)).map Uv ++ l.map Uv ++ [Uv 10] := by rw [hsn]; simp
    have hrd' := hrd
    obtain ⟨ga, oa, rfl, _⟩ := hrd' (fun e => by rw [e] at hget; simp at hget)
    repeat (first | apply ES.seq | apply ES.skip | apply ES.region | apply EL.nil | apply ES.block | apply ES.nil | apply ES.exit | apply ES.ret | apply PX.hit | (apply PX.miss; exact rfl) | apply PX.then_x | apply PX.then_r | apply PX.block_n | apply PX.block_r | refine PX.then_n (e := .normal) ?_)
    refine EL.move rfl rfl rfl ?_
    refine EL.move rfl rfl rfl ?_
    refine EL.move rfl rfl rfl ?_
    refine EL.indexAddrLo rfl rfl rfl rfl rfl rfl rfl rfl hlt' ?_
    refine EL.loadOld rfl rfl rfl rfl rfl hrd hget ?_
    (refine EL.appendB rfl rfl rfl rfl rfl rfl rfl rfl rfl rfl rfl rfl (by repeat (first | exact Pick.here _ _ | apply Pick.there)) (by omega) ?_; intro ad2 cap2)
    refine EL.assign rfl rfl rfl ?_
    repeat (first | apply ES.seq | apply ES.skip | apply ES.region | apply EL.nil | apply ES.block | apply ES.nil | apply ES.exit | apply ES.ret | apply PX.hit | (apply PX.miss; exact rfl) | apply PX.then_x | apply PX.then_r | apply PX.block_n | apply PX.block_r | refine PX.then_n (e := .normal) ?_)
    refine EL.move rfl rfl rfl ?_
    (refine EL.buildSlice1 rfl rfl rfl rfl rfl rfl rfl rfl rfl rfl ?_; intro b18)
    (refine EL.appendB1 (u := Uv 10) rfl rfl rfl rfl rfl rfl rfl rfl rfl rfl (by repeat (first | exact Mem.here _ _ | apply Mem.there)) rfl (by repeat (first | exact Pick.here _ _ | apply Pick.there)) (by omega) ?_; intro ad3 cap3)
    refine EL.assign rfl rfl rfl ?_
    repeat (first | apply ES.seq | apply ES.skip | apply ES.region | apply EL.nil | apply ES.block | apply ES.nil | apply ES.exit | apply ES.ret | apply PX.hit | (apply PX.miss; exact rfl) | apply PX.then_x | apply PX.then_r | apply PX.block_n | apply PX.block_r | refine PX.then_n (e := .normal) ?_)
    repeat (first | apply ES.seq | apply ES.skip | apply ES.region | apply EL.nil | apply ES.block | apply ES.nil | apply ES.exit | apply ES.ret | apply PX.hit | (apply PX.miss; exact rfl) | apply PX.then_x | apply PX.then_r | apply PX.block_n | apply PX.block_r | refine PX.then_n (e := .normal) ?_)
    refine EL.move rfl rfl rfl ?_
    refine EL.add1 rfl rfl rfl rfl (by omega) ?_
    refine EL.assign rfl rfl rfl ?_
    repeat (first | apply ES.seq | apply ES.skip | apply ES.region | apply EL.nil | apply ES.block | apply ES.nil | apply ES.exit | apply ES.ret | apply PX.hit | (apply PX.miss; exact rfl) | apply PX.then_x | apply PX.then_r | apply PX.block_n | apply PX.block_r | refine PX.then_n (e := .normal) ?_)
    refine PX.loop (i + 1, ad3, cap3) (by simp only; omega) (by simp only; omega) ⟨rfl, getA rfl (by rw [e1]), rfl, trivial⟩ ?_
    dsimp only
    rw [e1, e2]
    exact (by repeat (first | exact Ent.nil _ | exact Ent.refl _ | (apply Ent.cons; case p => repeat (first | exact Pick.here _ _ | apply Pick.there)) | apply Ent.drop))
  obtain rfl : i = ls.length := by omega
  rw [List.take_length] at hjl ⊢
  repeat (first | apply ES.seq | apply ES.skip | apply ES.region | apply EL.nil | apply ES.block | apply ES.nil | apply ES.exit | apply ES.ret | apply PX.hit | (apply PX.miss; exact rfl) | apply PX.then_x | apply PX.then_r | apply PX.block_n | apply PX.block_r | refine PX.then_n (e := .normal) ?_)
  refine EL.move rfl rfl rfl ?_
  refine EL.bytesB rfl rfl rfl rfl rfl rfl rfl rfl rfl (by repeat (first | exact Mem.here _ _ | apply Mem.there)) ?_
  refine EL.assign rfl rfl rfl ?_
  repeat (first | apply ES.seq | apply ES.skip | apply ES.region | apply EL.nil | apply ES.block | apply ES.nil | apply ES.exit | apply ES.ret | apply PX.hit | (apply PX.miss; exact rfl) | apply PX.then_x | apply PX.then_r | apply PX.block_n | apply PX.block_r | refine PX.then_n (e := .normal) ?_)
  exact PX.ret rfl Try.results18 (.cons (.tmp rfl) .nil) (fun w hs => ⟨(), rfl, hs.ent (.nil _)⟩)
def numM (t : List UInt8) (p : Int) : Int × Int := if p < 0 ∨ (t.length : Int) < p then (0, 1) else (((1 + (t.take p.toNat).count 10 : Nat) : Int), 0)
theorem number_c (t : List UInt8) (p : Int) (ht : t.length ≤ 1073741824) (w : World) : Pure Try.prog 15 #[Sv t, Iv p] (fun _ : Unit => .tuple #[Iv (numM t p).1, Iv (numM t p).2]) (fun _ => []) w := by
  refine calls_of_ES TB Try.func15 rfl _ Try.ntmps15 rfl (Sat.start w) ?_
  repeat (first | apply ES.seq | apply ES.skip | apply ES.region | apply EL.nil | apply ES.block | apply ES.nil | apply ES.exit | apply ES.ret | apply PX.hit | (apply PX.miss; exact rfl) | apply PX.then_x | apply PX.then_r | apply PX.block_n | apply PX.block_r | refine PX.then_n (e := .normal) ?_)
  refine EL.assign rfl rfl rfl ?_
  refine EL.assign rfl rfl rfl ?_
  repeat (first | apply ES.seq | apply ES.skip | apply ES.region | apply EL.nil | apply ES.block | apply ES.nil | apply ES.exit | apply ES.ret | apply PX.hit | (apply PX.miss; exact rfl) | apply PX.then_x | apply PX.then_r | apply PX.block_n | apply PX.block_r | refine PX.then_n (e := .normal) ?_)
  refine EL.cut [(13, .bool (decide (p < 0 ∨ (t.length : Int) < p))), (0, Sv t), (1, Iv p)] [] ?_ ?_
  · repeat (first | apply ES.seq | apply ES.skip | apply ES.region | apply EL.nil | apply ES.block | apply ES.nil | apply ES.exit | apply ES.ret | apply PX.hit | (apply PX.miss; exact rfl) | apply PX.then_x | apply PX.then_r | apply PX.block_n | apply PX.block_r | refine PX.then_n (e := .normal) ?_)
    refine EL.move rfl rfl rfl ?_
    refine EL.lss rfl rfl rfl rfl ?_
    refine EL.move rfl rfl rfl ?_
    first | refine EL.splitD (d := 8) rfl (fun hp8 => ?_) (fun hp8 => ?_) | refine EL.splitN (d := 8) rfl (fun hp8 => ?_) (fun hp8 => ?_) | refine EL.splitB (d := 8) rfl (fun hp8 => ?_) (fun hp8 => ?_)
    · refine EL.pass rfl rfl rfl ?_
      refine EL.pass rfl rfl rfl ?_
      refine EL.pass rfl rfl rfl ?_
      refine EL.pass rfl rfl rfl ?_
      refine EL.pickT rfl rfl rfl rfl ?_
      exact EL.endK ⟨getB rfl (by first | exact decide_eq_decide.2 (by omega) | exact (decide_eq_true (by omega)).symm), rfl, rfl, trivial⟩ (by repeat (first | exact Ent.nil _ | exact Ent.refl _ | (apply Ent.cons; case p => repeat (first | exact Pick.here _ _ | apply Pick.there)) | apply Ent.drop))
    · refine EL.move rfl rfl rfl ?_
      refine EL.move rfl rfl rfl ?_
      refine EL.lenS rfl rfl rfl rfl rfl ?_
      refine EL.gtr rfl rfl rfl rfl ?_
      refine EL.pickF rfl rfl rfl rfl ?_
      exact EL.endK ⟨getB rfl (by first | exact decide_eq_decide.2 (by omega) | exact (decide_eq_true (by omega)).symm), rfl, rfl, trivial⟩ (by repeat (first | exact Ent.nil _ | exact Ent.refl _ | (apply Ent.cons; case p => repeat (first | exact Pick.here _ _ | apply Pick.there)) | apply Ent.drop))
  refine ES.condD rfl (fun hbad => ?_) (fun hok => ?_)
  · have hr : numM t p = (0, 1) := if_pos hbad
    repeat (first | apply ES.seq | apply ES.skip | apply ES.region | apply EL.nil | apply ES.block | apply ES.nil | apply ES.exit | apply ES.ret | apply PX.hit | (apply PX.miss; exact rfl) | apply PX.then_x | apply PX.then_r | apply PX.block_n | apply PX.block_r | refine PX.then_n (e := .normal) ?_)
    refine EL.assign rfl rfl rfl ?_
    refine EL.assign rfl rfl rfl ?_
    repeat (first | apply ES.seq | apply ES.skip | apply ES.region | apply EL.nil | apply ES.block | apply ES.nil | apply ES.exit | apply ES.ret | apply PX.hit | (apply PX.miss; exact rfl) | apply PX.then_x | apply PX.then_r | apply PX.block_n | apply PX.block_r | refine PX.then_n (e := .normal) ?_)
    exact PX.ret rfl Try.results15 (.cons (.tmp rfl) (.cons (.tmp rfl) .nil)) (fun w hs => ⟨(), by rw [hr]; rfl, hs.ent (.nil _)⟩)
  · have hr : numM t p = (((1 + (t.take p.toNat).count 10 : Nat) : Int), 0) := if_neg hok
    obtain ⟨k, rfl⟩ : ∃ k : Nat, p = (k : Int) := ⟨p.toNat, by omega⟩
    have hc : ((t.drop 0).take (k - 0)).count 10 ≤ t.length := by
      refine Nat.le_trans List.count_le_length ?_
      simp; omega
    repeat (first | apply ES.seq | apply ES.skip | apply ES.region | apply EL.nil | apply ES.block | apply ES.nil | apply ES.exit | apply ES.ret | apply PX.hit | (apply PX.miss; exact rfl) | apply PX.then_x | apply PX.then_r | apply PX.block_n | apply PX.block_r | refine PX.then_n (e := .normal) ?_)
    refine EL.move rfl rfl rfl ?_
    refine EL.move rfl rfl rfl ?_
    refine EL.sliceS rfl rfl rfl rfl rfl rfl ⟨_, rfl⟩ (Nat.zero_le _) (by omega) ?_
    refine EL.callP rfl rfl rfl ent22 rfl (count_c ((t.drop 0).take (k - 0))) ?_
    refine EL.addN (m := 1) rfl rfl rfl rfl rfl (by omega) ?_
    refine EL.assign rfl rfl rfl ?_
    refine EL.assign rfl rfl rfl ?_
    repeat (first | apply ES.seq | apply ES.skip | apply ES.region | apply EL.nil | apply ES.block | apply ES.nil | apply ES.exit | apply ES.ret | apply PX.hit | (apply PX.miss; exact rfl) | apply PX.then_x | apply PX.then_r | apply PX.block_n | apply PX.block_r | refine PX.then_n (e := .normal) ?_)
    exact PX.ret rfl Try.results15 (.cons (.tmp rfl) (.cons (.tmp rfl) .nil)) (fun w hs => ⟨(), by rw [hr]; rfl, hs.ent (.nil _)⟩)
theorem rnumber_c (t : List UInt8) (p : Int) (ht : t.length ≤ 1073741824) (w : World) : Pure Try.prog 16 #[Sv t, Iv p] (fun _ : Unit => .tuple #[Iv (numM t p).1, Iv (numM t p).2]) (fun _ => []) w := by
  refine calls_of_ES TB Try.func16 rfl _ Try.ntmps16 rfl (Sat.start w) ?_
  repeat (first | apply ES.seq | apply ES.skip | apply ES.region | apply EL.nil | apply ES.block | apply ES.nil | apply ES.exit | apply ES.ret | apply PX.hit | (apply PX.miss; exact rfl) | apply PX.then_x | apply PX.then_r | apply PX.block_n | apply PX.block_r | refine PX.then_n (e := .normal) ?_)
  refine EL.assign rfl rfl rfl ?_
  refine EL.assign rfl rfl rfl ?_
  repeat (first | apply ES.seq | apply ES.skip | apply ES.region | apply EL.nil | apply ES.block | apply ES.nil | apply ES.exit | apply ES.ret | apply PX.hit | (apply PX.miss; exact rfl) | apply PX.then_x | apply PX.then_r | apply PX.block_n | apply PX.block_r | refine PX.then_n (e := .normal) ?_)
  refine EL.cut [(15, .bool (decide (p < 0 ∨ (t.length : Int) < p))), (0, Sv t), (1, Iv p)] [] ?_ ?_
  · repeat (first | apply ES.seq | apply ES.skip | apply ES.region | apply EL.nil | apply ES.block | apply ES.nil | apply ES.exit | apply ES.ret | apply PX.hit | (apply PX.miss; exact rfl) | apply PX.then_x | apply PX.then_r | apply PX.block_n | apply PX.block_r | refine PX.then_n (e := .normal) ?_)
    refine EL.move rfl rfl rfl ?_
    refine EL.lss rfl rfl rfl rfl ?_
    refine EL.move rfl rfl rfl ?_
    first | refine EL.splitD (d := 10) rfl (fun hp10 => ?_) (fun hp10 => ?_) | refine EL.splitN (d := 10) rfl (fun hp10 => ?_) (fun hp10 => ?_) | refine EL.splitB (d := 10) rfl (fun hp10 => ?_) (fun hp10 => ?_)
    · refine EL.pass rfl rfl rfl ?_
      refine EL.pass rfl rfl rfl ?_
      refine EL.pass rfl rfl rfl ?_
      refine EL.pass rfl rfl rfl ?_
      refine EL.pickT rfl rfl rfl rfl ?_
      exact EL.endK ⟨getB rfl (by first | exact decide_eq_decide.2 (by omega) | exact (decide_eq_true (by omega)).symm), rfl, rfl, trivial⟩ (by repeat (first | exact Ent.nil _ | exact Ent.refl _ | (apply Ent.cons; case p => repeat (first | exact Pick.here _ _ | apply Pick.there)) | apply Ent.drop))
    · refine EL.move rfl rfl rfl ?_
      refine EL.move rfl rfl rfl ?_
      refine EL.lenS rfl rfl rfl rfl rfl ?_
      refine EL.gtr rfl rfl rfl rfl ?_
      refine EL.pickF rfl rfl rfl rfl ?_
      exact EL.endK ⟨getB rfl (by first | exact decide_eq_decide.2 (by omega) | exact (decide_eq_true (by omega)).symm), rfl, rfl, trivial⟩ (by repeat (first | exact Ent.nil _ | exact Ent.refl _ | (apply Ent.cons; case p => repeat (first | exact Pick.here _ _ | apply Pick.there)) | apply Ent.drop))
  refine ES.condD rfl (fun hbad => ?_) (fun hok => ?_)
  · have hr : numM t p = (0, 1) := if_pos hbad
    repeat (first | apply ES.seq | apply ES.skip | apply ES.region | apply EL.nil | apply ES.block | apply ES.nil | apply ES.exit | apply ES.ret | apply PX.hit | (apply PX.miss; exact rfl) | apply PX.then_x | apply PX.then_r | apply PX.block_n | apply PX.block_r | refine PX.then_n (e := .normal) ?_)
    refine EL.assign rfl rfl rfl ?_
    refine EL.assign rfl rfl rfl ?_
    repeat (first | apply ES.seq | apply ES.skip | apply ES.region | apply EL.nil | apply ES.block | apply ES.nil | apply ES.exit | apply ES.ret | apply PX.hit | (apply PX.miss; exact rfl) | apply PX.then_x | apply PX.then_r | apply PX.block_n | apply PX.block_r | refine PX.then_n (e := .normal) ?_)
    exact PX.ret rfl Try.results16 (.cons (.tmp rfl) (.cons (.tmp rfl) .nil)) (fun w hs => ⟨(), by rw [hr]; rfl, hs.ent (.nil _)⟩)
  · have hr : numM t p = (((1 + (t.take p.toNat).count 10 : Nat) : Int), 0) := if_neg hok
    obtain ⟨k, rfl⟩ : ∃ k : Nat, p = (k : Int) := ⟨p.toNat, by omega⟩
    repeat (first | apply ES.seq | apply ES.skip | apply ES.region | apply EL.nil | apply ES.block | apply ES.nil | apply ES.exit | apply ES.ret | apply PX.hit | (apply PX.miss; exact rfl) | apply PX.then_x | apply PX.then_r | apply PX.block_n | apply PX.block_r | refine PX.then_n (e := .normal) ?_)
    refine EL.assign rfl rfl rfl ?_
    repeat (first | apply ES.seq | apply ES.skip | apply ES.region | apply EL.nil | apply ES.block | apply ES.nil | apply ES.exit | apply ES.ret | apply PX.hit | (apply PX.miss; exact rfl) | apply PX.then_x | apply PX.then_r | apply PX.block_n | apply PX.block_r | refine PX.then_n (e := .normal) ?_)
    refine EL.assign rfl rfl rfl ?_
    repeat (first | apply ES.seq | apply ES.skip | apply ES.region | apply EL.nil | apply ES.block | apply ES.nil | apply ES.exit | apply ES.ret | apply PX.hit | (apply PX.miss; exact rfl) | apply PX.then_x | apply PX.then_r | apply PX.block_n | apply PX.block_r | refine PX.then_n (e := .normal) ?_)
    refine ES.loop (σ := Nat) (fun i => i ≤ k) (fun i => [(0, Sv t), (1, Iv k), (6, Iv ((1 + (t.take i).count 10 : Nat) : Int)), (7, Iv i)]) (fun _ => []) (fun i => k - i) 0 (Nat.zero_le _) ⟨rfl, rfl, rfl, rfl, trivial⟩ (by repeat (first | exact Ent.nil _ | exact Ent.refl _ | (apply Ent.cons; case p => repeat (first | exact Pick.here _ _ | apply Pick.there)) | apply Ent.drop)) ?_
    intro i hi
    have hc : (t.take i).count 10 ≤ t.length := by
      refine Nat.le_trans List.count_le_length ?_
      simp; omega
    repeat (first | apply ES.seq | apply ES.skip | apply ES.region | apply EL.nil | apply ES.block | apply ES.nil | apply ES.exit | apply ES.ret | apply PX.hit | (apply PX.miss; exact rfl) | apply PX.then_x | apply PX.then_r | apply PX.block_n | apply PX.block_r | refine PX.then_n (e := .normal) ?_)
    refine EL.move rfl rfl rfl ?_
    refine EL.move rfl rfl rfl ?_
    refine EL.lss rfl rfl rfl rfl ?_
    repeat (first | apply ES.seq | apply ES.skip | apply ES.region | apply EL.nil | apply ES.block | apply ES.nil | apply ES.exit | apply ES.ret | apply PX.hit | (apply PX.miss; exact rfl) | apply PX.then_x | apply PX.then_r | apply PX.block_n | apply PX.block_r | refine PX.then_n (e := .normal) ?_)
    refine ES.condD rfl (fun hlt => ?_) (fun hge => ?_)
    · have hlt' : i < t.length := by omega
      have hsn : (t.take (i + 1)).count 10 = (t.take i).count 10 + if t.getD i 0 = 10 then 1 else 0 := by
        rw [take_snoc t i 0 hlt', List.count_append, List.count_singleton]
        simp
      repeat (first | apply ES.seq | apply ES.skip | apply ES.region | apply EL.nil | apply ES.block | apply ES.nil | apply ES.exit | apply ES.ret | apply PX.hit | (apply PX.miss; exact rfl) | apply PX.then_x | apply PX.then_r | apply PX.block_n | apply PX.block_r | refine PX.then_n (e := .normal) ?_)
      refine EL.move rfl rfl rfl ?_
      refine EL.move rfl rfl rfl ?_
      refine EL.indexSN rfl rfl rfl rfl rfl rfl (by omega) ?_
      refine EL.eqlI rfl rfl rfl rfl ?_
      repeat (first | apply ES.seq | apply ES.skip | apply ES.region | apply EL.nil | apply ES.block | apply ES.nil | apply ES.exit | apply ES.ret | apply PX.hit | (apply PX.miss; exact rfl) | apply PX.then_x | apply PX.then_r | apply PX.block_n | apply PX.block_r | refine PX.then_n (e := .normal) ?_)
      refine ES.condD rfl (fun h10 => ?_) (fun h10 => ?_)
      · have hc : t.getD i 0 = 10 := UInt8.toNat_inj.1 (by rw [show (10 : UInt8).toNat = 10 from rfl]; omega)
        rw [if_pos hc] at hsn
        repeat (first | apply ES.seq | apply ES.skip | apply ES.region | apply EL.nil | apply ES.block | apply ES.nil | apply ES.exit | apply ES.ret | apply PX.hit | (apply PX.miss; exact rfl) | apply PX.then_x | apply PX.then_r | apply PX.block_n | apply PX.block_r | refine PX.then_n (e := .normal) ?_)
        refine EL.move rfl rfl rfl ?_
        refine EL.add1 rfl rfl rfl rfl (by omega) ?_
        refine EL.assign rfl rfl rfl ?_
        repeat (first | apply ES.seq | apply ES.skip | apply ES.region | apply EL.nil | apply ES.block | apply ES.nil | apply ES.exit | apply ES.ret | apply PX.hit | (apply PX.miss; exact rfl) | apply PX.then_x | apply PX.then_r | apply PX.block_n | apply PX.block_r | refine PX.then_n (e := .normal) ?_)
        refine EL.move rfl rfl rfl ?_
        refine EL.add1 rfl rfl rfl rfl (by omega) ?_
        refine EL.assign rfl rfl rfl ?_
        repeat (first | apply ES.seq | apply ES.skip | apply ES.region | apply EL.nil | apply ES.block | apply ES.nil | apply ES.exit | apply ES.ret | apply PX.hit | (apply PX.miss; exact rfl) | apply PX.then_x | apply PX.then_r | apply PX.block_n | apply PX.block_r | refine PX.then_n (e := .normal) ?_)
        exact PX.loop (i + 1) (by omega) (by omega) ⟨rfl, rfl, getA rfl (by rw [hsn]; rfl), rfl, trivial⟩ (by repeat (first | exact Ent.nil _ | exact Ent.refl _ | (apply Ent.cons; case p => repeat (first | exact Pick.here _ _ | apply Pick.there)) | apply Ent.drop))
      · have hc : t.getD i 0 ≠ 10 := fun h => h10 (by rw [h]; rfl)
        rw [if_neg hc] at hsn
        repeat (first | apply ES.seq | apply ES.skip | apply ES.region | apply EL.nil | apply ES.block | apply ES.nil | apply ES.exit | apply ES.ret | apply PX.hit | (apply PX.miss; exact rfl) | apply PX.then_x | apply PX.then_r | apply PX.block_n | apply PX.block_r | refine PX.then_n (e := .normal) ?_)
        refine EL.move rfl rfl rfl ?_
        refine EL.add1 rfl rfl rfl rfl (by omega) ?_
        refine EL.assign rfl rfl rfl ?_
        repeat (first | apply ES.seq | apply ES.skip | apply ES.region | apply EL.nil | apply ES.block | apply ES.nil | apply ES.exit | apply ES.ret | apply PX.hit | (apply PX.miss; exact rfl) | apply PX.then_x | apply PX.then_r | apply PX.block_n | apply PX.block_r | refine PX.then_n (e := .normal) ?_)
        exact PX.loop (i + 1) (by omega) (by omega) ⟨rfl, rfl, getA rfl (by rw [hsn]; rfl), rfl, trivial⟩ (by repeat (first | exact Ent.nil _ | exact Ent.refl _ | (apply Ent.cons; case p => repeat (first | exact Pick.here _ _ | apply Pick.there)) | apply Ent.drop))
    obtain rfl : i = k := by omega
    repeat (first | apply ES.seq | apply ES.skip | apply ES.region | apply EL.nil | apply ES.block | apply ES.nil | apply ES.exit | apply ES.ret | apply PX.hit | (apply PX.miss; exact rfl) | apply PX.then_x | apply PX.then_r | apply PX.block_n | apply PX.block_r | refine PX.then_n (e := .normal) ?_)
    refine EL.move rfl rfl rfl ?_
    refine EL.assign rfl rfl rfl ?_
    refine EL.assign rfl rfl rfl ?_
    repeat (first | apply ES.seq | apply ES.skip | apply ES.region | apply EL.nil | apply ES.block | apply ES.nil | apply ES.exit | apply ES.ret | apply PX.hit | (apply PX.miss; exact rfl) | apply PX.then_x | apply PX.then_r | apply PX.block_n | apply PX.block_r | refine PX.then_n (e := .normal) ?_)
    exact PX.ret rfl Try.results16 (.cons (.tmp rfl) (.cons (.tmp rfl) .nil)) (fun w hs => ⟨(), by rw [hr]; rfl, hs.ent (.nil _)⟩)
end Go.Proofs.Ytcaphghkflffgaa
