/- Layer 1 (lines): Tail and the document's; the laws' helpers. -/
import Derived.Test.YtcaphghkflffgaaNc
namespace Go.Proofs.Ytcaphghkflffgaa
open Go Go.RowKit Sl
set_option maxRecDepth 100000
set_option maxHeartbeats 8000000
set_option linter.unusedVariables false
set_option linter.unusedSimpArgs false
attribute [local irreducible] ES EL PX wps

def tailM (t : List UInt8) (n : Int) : LL := if n ≤ 0 then [] else (cutM t).drop ((cutM t).length - n.toNat)
theorem tail_c (t : List UInt8) (n : Int) (ht : t.length ≤ 1073741824) (w : World) : Pure Try.prog 19 #[Sv t, Iv n] (fun x : Option Addr × Nat => .slice x.1 (tailM t n).length x.2) (fun x => [HA.row (.slice x.1 (tailM t n).length x.2) 9 1 (tailM t n).length ((tailM t n).map Sv)]) w := by
  have hcl := cutM_len t
  refine calls_of_ES TB Try.func19 rfl _ Try.ntmps19 rfl (Sat.start w) ?_
  repeat (first | apply ES.seq | apply ES.skip | apply ES.region | apply EL.nil | apply ES.block | apply ES.nil | apply ES.exit | apply ES.ret | apply PX.hit | (apply PX.miss; exact rfl) | apply PX.then_x | apply PX.then_r | apply PX.block_n | apply PX.block_r | refine PX.then_n (e := .normal) ?_ | refine PX.then_d ?_ | apply ES.label | apply ES.scope | apply PX.sc_n | apply PX.sc_r | apply PX.sc_x)
  refine EL.assign rfl rfl rfl ?_
  repeat (first | apply ES.seq | apply ES.skip | apply ES.region | apply EL.nil | apply ES.block | apply ES.nil | apply ES.exit | apply ES.ret | apply PX.hit | (apply PX.miss; exact rfl) | apply PX.then_x | apply PX.then_r | apply PX.block_n | apply PX.block_r | refine PX.then_n (e := .normal) ?_ | refine PX.then_d ?_ | apply ES.label | apply ES.scope | apply PX.sc_n | apply PX.sc_r | apply PX.sc_x)
  refine EL.move rfl rfl rfl ?_
  refine EL.leq rfl rfl rfl rfl ?_
  repeat (first | apply ES.seq | apply ES.skip | apply ES.region | apply EL.nil | apply ES.block | apply ES.nil | apply ES.exit | apply ES.ret | apply PX.hit | (apply PX.miss; exact rfl) | apply PX.then_x | apply PX.then_r | apply PX.block_n | apply PX.block_r | refine PX.then_n (e := .normal) ?_ | refine PX.then_d ?_ | apply ES.label | apply ES.scope | apply PX.sc_n | apply PX.sc_r | apply PX.sc_x)
  refine ES.condD rfl (fun hn => ?_) (fun hn => ?_)
  · have hr : tailM t n = [] := if_pos hn
    rw [hr]
    repeat (first | apply ES.seq | apply ES.skip | apply ES.region | apply EL.nil | apply ES.block | apply ES.nil | apply ES.exit | apply ES.ret | apply PX.hit | (apply PX.miss; exact rfl) | apply PX.then_x | apply PX.then_r | apply PX.block_n | apply PX.block_r | refine PX.then_n (e := .normal) ?_ | refine PX.then_d ?_ | apply ES.label | apply ES.scope | apply PX.sc_n | apply PX.sc_r | apply PX.sc_x)
    refine EL.assign rfl rfl rfl ?_
    repeat (first | apply ES.seq | apply ES.skip | apply ES.region | apply EL.nil | apply ES.block | apply ES.nil | apply ES.exit | apply ES.ret | apply PX.hit | (apply PX.miss; exact rfl) | apply PX.then_x | apply PX.then_r | apply PX.block_n | apply PX.block_r | refine PX.then_n (e := .normal) ?_ | refine PX.then_d ?_ | apply ES.label | apply ES.scope | apply PX.sc_n | apply PX.sc_r | apply PX.sc_x)
    exact PX.ret rfl Try.results19 (.cons (.tmp rfl) .nil) (fun w hs => ⟨(none, 0), rfl, (hs.nilRow 9 1).ent (by repeat (first | exact Ent.nil _ | exact Ent.refl _ | (apply Ent.cons; case p => repeat (first | exact Pick.here _ _ | apply Pick.there)) | apply Ent.drop))⟩)
  have hr : tailM t n = (cutM t).drop ((cutM t).length - n.toNat) := if_neg hn
  obtain ⟨k, rfl⟩ : ∃ k : Nat, n = (k : Int) := ⟨n.toNat, by omega⟩
  rw [Int.toNat_natCast] at hr
  obtain ⟨ls, hls⟩ : ∃ ls, ls = cutM t := ⟨_, rfl⟩
  have hc := lcut_c t ht
  rw [← hls] at hc hr hcl
  repeat (first | apply ES.seq | apply ES.skip | apply ES.region | apply EL.nil | apply ES.block | apply ES.nil | apply ES.exit | apply ES.ret | apply PX.hit | (apply PX.miss; exact rfl) | apply PX.then_x | apply PX.then_r | apply PX.block_n | apply PX.block_r | refine PX.then_n (e := .normal) ?_ | refine PX.then_d ?_ | apply ES.label | apply ES.scope | apply PX.sc_n | apply PX.sc_r | apply PX.sc_x)
  refine EL.move rfl rfl rfl ?_
  (refine EL.callX rfl rfl rfl ent14 rfl hc ?_; rintro ⟨ad, cap⟩)
  refine EL.assign rfl rfl rfl ?_
  repeat (first | apply ES.seq | apply ES.skip | apply ES.region | apply EL.nil | apply ES.block | apply ES.nil | apply ES.exit | apply ES.ret | apply PX.hit | (apply PX.miss; exact rfl) | apply PX.then_x | apply PX.then_r | apply PX.block_n | apply PX.block_r | refine PX.then_n (e := .normal) ?_ | refine PX.then_d ?_ | apply ES.label | apply ES.scope | apply PX.sc_n | apply PX.sc_r | apply PX.sc_x)
  refine EL.rowForm (ad := ad) (cap := cap) (e := 9) (sz := 1) (n := ls.length) (cs := ls.map Sv) (by repeat (first | exact Mem.here _ _ | apply Mem.there)) (fun hfm => ?_)
  repeat (first | apply ES.seq | apply ES.skip | apply ES.region | apply EL.nil | apply ES.block | apply ES.nil | apply ES.exit | apply ES.ret | apply PX.hit | (apply PX.miss; exact rfl) | apply PX.then_x | apply PX.then_r | apply PX.block_n | apply PX.block_r | refine PX.then_n (e := .normal) ?_ | refine PX.then_d ?_ | apply ES.label | apply ES.scope | apply PX.sc_n | apply PX.sc_r | apply PX.sc_x)
  refine EL.move rfl rfl rfl ?_
  refine EL.lenL rfl rfl rfl rfl rfl ?_
  refine EL.move rfl rfl rfl ?_
  refine EL.gtr rfl rfl rfl rfl ?_
  repeat (first | apply ES.seq | apply ES.skip | apply ES.region | apply EL.nil | apply ES.block | apply ES.nil | apply ES.exit | apply ES.ret | apply PX.hit | (apply PX.miss; exact rfl) | apply PX.then_x | apply PX.then_r | apply PX.block_n | apply PX.block_r | refine PX.then_n (e := .normal) ?_ | refine PX.then_d ?_ | apply ES.label | apply ES.scope | apply PX.sc_n | apply PX.sc_r | apply PX.sc_x)
  refine ES.condD rfl (fun hgt => ?_) (fun hle => ?_)
  · obtain ⟨g, rfl⟩ := hfm.2.2.2.2 (by omega)
    have hl : (tailM t k).length = ls.length - (ls.length - k) := by rw [hr, List.length_drop]
    have hm : (tailM t k).map Sv = (ls.map Sv).drop (ls.length - k) := by rw [hr, List.map_drop]
    rw [hl, hm]
    refine ES.nilRow 9 1 ?_
    repeat (first | apply ES.seq | apply ES.skip | apply ES.region | apply EL.nil | apply ES.block | apply ES.nil | apply ES.exit | apply ES.ret | apply PX.hit | (apply PX.miss; exact rfl) | apply PX.then_x | apply PX.then_r | apply PX.block_n | apply PX.block_r | refine PX.then_n (e := .normal) ?_ | refine PX.then_d ?_ | apply ES.label | apply ES.scope | apply PX.sc_n | apply PX.sc_r | apply PX.sc_x)
    refine EL.move rfl rfl rfl ?_
    refine EL.move rfl rfl rfl ?_
    refine EL.lenL rfl rfl rfl rfl rfl ?_
    refine EL.move rfl rfl rfl ?_
    refine EL.subN rfl rfl rfl rfl rfl (by omega) (by omega) ?_
    refine EL.sliceLo rfl rfl rfl rfl rfl rfl rfl rfl (by omega) hfm.2.1 (fun ad' h' => ?_)
    have e' := h' (by omega)
    have e2 : ad' = some ⟨g, ls.length - k, none⟩ := by rw [e']; show some ((⟨g, 0, none⟩ : Addr).add _) = _; rw [add_n, Nat.zero_add]
    subst e2
    refine EL.append (m := ls.length - (ls.length - k)) (news := (ls.map Sv).drop (ls.length - k)) (ad := none) (n := 0) (cap := 0) (cs := []) rfl rfl rfl rfl rfl rfl rfl rfl rfl (by repeat (first | exact Pick.here _ _ | apply Pick.there)) (by simp; exact (Nat.mul_one _).symm) (by omega) (fun w hs j u hj => by rw [List.getElem?_drop] at hj; have := row_cell (hs.all _ (Mem.mem (A := HA.row (.slice (some ⟨g, 0, none⟩) ls.length cap) 9 1 ls.length (ls.map Sv)) (by repeat (first | exact Mem.here _ _ | apply Mem.there)))) (ls.length - k + j) u hj; rw [add_n]; exact this) (by intro u hu; obtain ⟨_, _, rfl⟩ := List.mem_map.1 (List.mem_of_mem_drop hu); rfl) (by unfold maxLen; omega) (by first | omega | (show 1 * _ ≤ _; omega) | (show 8 * _ ≤ _; omega) | (show 16 * _ ≤ _; omega) | (show 24 * _ ≤ _; omega) | (show _ * 1 ≤ _; omega) | (show _ * 8 ≤ _; omega) | (show _ * 16 ≤ _; omega) | (show _ * 24 ≤ _; omega)) ?_
    intro a20 c20
    refine EL.assign rfl rfl rfl ?_
    repeat (first | apply ES.seq | apply ES.skip | apply ES.region | apply EL.nil | apply ES.block | apply ES.nil | apply ES.exit | apply ES.ret | apply PX.hit | (apply PX.miss; exact rfl) | apply PX.then_x | apply PX.then_r | apply PX.block_n | apply PX.block_r | refine PX.then_n (e := .normal) ?_ | refine PX.then_d ?_ | apply ES.label | apply ES.scope | apply PX.sc_n | apply PX.sc_r | apply PX.sc_x)
    exact PX.ret rfl Try.results19 (.cons (.tmp rfl) .nil) (fun w hs => ⟨(some ⟨a20, 0, none⟩, c20), by simp; rfl, by have h := hs; simp only [Nat.zero_add, List.nil_append] at h; exact h.ent (by repeat (first | exact Ent.nil _ | exact Ent.refl _ | (apply Ent.cons; case p => repeat (first | exact Pick.here _ _ | apply Pick.there)) | apply Ent.drop))⟩)
  · have hr2 : tailM t k = ls := by rw [hr, show ls.length - k = 0 by omega]; rfl
    rw [hr2]
    repeat (first | apply ES.seq | apply ES.skip | apply ES.region | apply EL.nil | apply ES.block | apply ES.nil | apply ES.exit | apply ES.ret | apply PX.hit | (apply PX.miss; exact rfl) | apply PX.then_x | apply PX.then_r | apply PX.block_n | apply PX.block_r | refine PX.then_n (e := .normal) ?_ | refine PX.then_d ?_ | apply ES.label | apply ES.scope | apply PX.sc_n | apply PX.sc_r | apply PX.sc_x)
    refine EL.move rfl rfl rfl ?_
    refine EL.assign rfl rfl rfl ?_
    repeat (first | apply ES.seq | apply ES.skip | apply ES.region | apply EL.nil | apply ES.block | apply ES.nil | apply ES.exit | apply ES.ret | apply PX.hit | (apply PX.miss; exact rfl) | apply PX.then_x | apply PX.then_r | apply PX.block_n | apply PX.block_r | refine PX.then_n (e := .normal) ?_ | refine PX.then_d ?_ | apply ES.label | apply ES.scope | apply PX.sc_n | apply PX.sc_r | apply PX.sc_x)
    exact PX.ret rfl Try.results19 (.cons (.tmp rfl) .nil) (fun w hs => ⟨(ad, cap), rfl, hs.ent (by repeat (first | exact Ent.nil _ | exact Ent.refl _ | (apply Ent.cons; case p => repeat (first | exact Pick.here _ _ | apply Pick.there)) | apply Ent.drop))⟩)
def outT (ls : LL) (n : Int) (i : Nat) : LL := if n ≤ 0 then [] else (ls.take i).drop (ls.length - n.toNat)
theorem outT_step (ls : LL) (n : Int) (i : Nat) (h : i < ls.length) : outT ls n (i + 1) = if 0 < n ∧ (ls.length : Int) - n ≤ i then outT ls n i ++ [ls.getD i []] else outT ls n i := by
  unfold outT
  by_cases hn : n ≤ 0
  · rw [if_pos hn, if_pos hn, if_neg (by omega)]
  · rw [if_neg hn, if_neg hn, take_snoc ls i [] h]
    by_cases h2 : (ls.length : Int) - n ≤ i
    · rw [if_pos ⟨by omega, h2⟩, List.drop_append_of_le_length (by rw [List.length_take]; omega)]
    · rw [if_neg (by omega)]
      have e1 : (ls.take i ++ [ls.getD i []]).drop (ls.length - n.toNat) = [] := List.drop_eq_nil_of_le (by rw [List.length_append, List.length_take, List.length_singleton]; omega)
      have e2 : (ls.take i).drop (ls.length - n.toNat) = [] := List.drop_eq_nil_of_le (by rw [List.length_take]; omega)
      rw [e1, e2]
theorem outT_len (ls : LL) (n : Int) (i : Nat) : (outT ls n i).length ≤ ls.length := by
  unfold outT
  split
  · simp
  · rw [List.length_drop, List.length_take]; omega
theorem rtail_c (t : List UInt8) (n : Int) (hn1 : -9223372036854775808 ≤ n) (hn2 : n ≤ 9223372036854775807) (ht : t.length ≤ 1073741824) (w : World) : Pure Try.prog 20 #[Sv t, Iv n] (fun x : Option Addr × Nat => .slice x.1 (tailM t n).length x.2) (fun x => [HA.row (.slice x.1 (tailM t n).length x.2) 9 1 (tailM t n).length ((tailM t n).map Sv)]) w := by
  have hcl := cutM_len t
  obtain ⟨ls, hls⟩ : ∃ ls, ls = cutM t := ⟨_, rfl⟩
  have hc := rcut_c t ht
  have hto : tailM t n = outT ls n ls.length := by unfold tailM outT; rw [hls, List.take_length]
  rw [← hls] at hc hcl
  rw [hto]
  refine calls_of_ES TB Try.func20 rfl _ Try.ntmps20 rfl (Sat.start w) ?_
  repeat (first | apply ES.seq | apply ES.skip | apply ES.region | apply EL.nil | apply ES.block | apply ES.nil | apply ES.exit | apply ES.ret | apply PX.hit | (apply PX.miss; exact rfl) | apply PX.then_x | apply PX.then_r | apply PX.block_n | apply PX.block_r | refine PX.then_n (e := .normal) ?_ | refine PX.then_d ?_ | apply ES.label | apply ES.scope | apply PX.sc_n | apply PX.sc_r | apply PX.sc_x)
  refine EL.assign rfl rfl rfl ?_
  repeat (first | apply ES.seq | apply ES.skip | apply ES.region | apply EL.nil | apply ES.block | apply ES.nil | apply ES.exit | apply ES.ret | apply PX.hit | (apply PX.miss; exact rfl) | apply PX.then_x | apply PX.then_r | apply PX.block_n | apply PX.block_r | refine PX.then_n (e := .normal) ?_ | refine PX.then_d ?_ | apply ES.label | apply ES.scope | apply PX.sc_n | apply PX.sc_r | apply PX.sc_x)
  refine EL.move rfl rfl rfl ?_
  (refine EL.callX rfl rfl rfl ent13 rfl hc ?_; rintro ⟨ad1, cap1⟩)
  refine EL.assign rfl rfl rfl ?_
  repeat (first | apply ES.seq | apply ES.skip | apply ES.region | apply EL.nil | apply ES.block | apply ES.nil | apply ES.exit | apply ES.ret | apply PX.hit | (apply PX.miss; exact rfl) | apply PX.then_x | apply PX.then_r | apply PX.block_n | apply PX.block_r | refine PX.then_n (e := .normal) ?_ | refine PX.then_d ?_ | apply ES.label | apply ES.scope | apply PX.sc_n | apply PX.sc_r | apply PX.sc_x)
  refine EL.assign rfl rfl rfl ?_
  repeat (first | apply ES.seq | apply ES.skip | apply ES.region | apply EL.nil | apply ES.block | apply ES.nil | apply ES.exit | apply ES.ret | apply PX.hit | (apply PX.miss; exact rfl) | apply PX.then_x | apply PX.then_r | apply PX.block_n | apply PX.block_r | refine PX.then_n (e := .normal) ?_ | refine PX.then_d ?_ | apply ES.label | apply ES.scope | apply PX.sc_n | apply PX.sc_r | apply PX.sc_x)
  refine EL.nilRow 9 1 ?_
  have h0 : outT ls n 0 = [] := by simp [outT]
  repeat (first | apply ES.seq | apply ES.skip | apply ES.region | apply EL.nil | apply ES.block | apply ES.nil | apply ES.exit | apply ES.ret | apply PX.hit | (apply PX.miss; exact rfl) | apply PX.then_x | apply PX.then_r | apply PX.block_n | apply PX.block_r | refine PX.then_n (e := .normal) ?_ | refine PX.then_d ?_ | apply ES.label | apply ES.scope | apply PX.sc_n | apply PX.sc_r | apply PX.sc_x)
  refine EL.assign rfl rfl rfl ?_
  repeat (first | apply ES.seq | apply ES.skip | apply ES.region | apply EL.nil | apply ES.block | apply ES.nil | apply ES.exit | apply ES.ret | apply PX.hit | (apply PX.miss; exact rfl) | apply PX.then_x | apply PX.then_r | apply PX.block_n | apply PX.block_r | refine PX.then_n (e := .normal) ?_ | refine PX.then_d ?_ | apply ES.label | apply ES.scope | apply PX.sc_n | apply PX.sc_r | apply PX.sc_x)
  refine ES.loop (σ := Nat × Option Addr × Nat) (fun (i, ad, cap) => i ≤ ls.length) (fun (i, ad, cap) => [(1, Iv n), (5, .slice ad1 ls.length cap1), (6, .slice ad (outT ls n i).length cap), (7, Iv i)]) (fun (i, ad, cap) => [HA.row (.slice ad1 ls.length cap1) 9 1 ls.length (ls.map Sv), HA.row (.slice ad (outT ls n i).length cap) 9 1 (outT ls n i).length ((outT ls n i).map Sv)]) (fun (i, _) => ls.length - i) (0, none, 0) (Nat.zero_le _) ⟨rfl, rfl, getA rfl (by rw [h0]; rfl), rfl, trivial⟩ ?_ ?_
  · dsimp only
    rw [h0]
    exact (by repeat (first | exact Ent.nil _ | exact Ent.refl _ | (apply Ent.cons; case p => repeat (first | exact Pick.here _ _ | apply Pick.there)) | apply Ent.drop))
  rintro ⟨i, ad, cap⟩ hi
  dsimp only at hi ⊢
  repeat (first | apply ES.seq | apply ES.skip | apply ES.region | apply EL.nil | apply ES.block | apply ES.nil | apply ES.exit | apply ES.ret | apply PX.hit | (apply PX.miss; exact rfl) | apply PX.then_x | apply PX.then_r | apply PX.block_n | apply PX.block_r | refine PX.then_n (e := .normal) ?_ | refine PX.then_d ?_ | apply ES.label | apply ES.scope | apply PX.sc_n | apply PX.sc_r | apply PX.sc_x)
  refine EL.move rfl rfl rfl ?_
  refine EL.move rfl rfl rfl ?_
  refine EL.lenL rfl rfl rfl rfl rfl ?_
  refine EL.lss rfl rfl rfl rfl ?_
  repeat (first | apply ES.seq | apply ES.skip | apply ES.region | apply EL.nil | apply ES.block | apply ES.nil | apply ES.exit | apply ES.ret | apply PX.hit | (apply PX.miss; exact rfl) | apply PX.then_x | apply PX.then_r | apply PX.block_n | apply PX.block_r | refine PX.then_n (e := .normal) ?_ | refine PX.then_d ?_ | apply ES.label | apply ES.scope | apply PX.sc_n | apply PX.sc_r | apply PX.sc_x)
  refine ES.condD rfl (fun hlt => ?_) (fun hge => ?_)
  · have hlt' : i < ls.length := by omega
    have hst := outT_step ls n i hlt'
    have hol := outT_len ls n i
    refine ES.rowForm (ad := ad1) (cap := cap1) (e := 9) (sz := 1) (n := ls.length) (cs := ls.map Sv) (by repeat (first | exact Mem.here _ _ | apply Mem.there)) (fun hfm => ?_)
    obtain ⟨g, rfl⟩ := hfm.2.2.2.2 (by omega)
    repeat (first | apply ES.seq | apply ES.skip | apply ES.region | apply EL.nil | apply ES.block | apply ES.nil | apply ES.exit | apply ES.ret | apply PX.hit | (apply PX.miss; exact rfl) | apply PX.then_x | apply PX.then_r | apply PX.block_n | apply PX.block_r | refine PX.then_n (e := .normal) ?_ | refine PX.then_d ?_ | apply ES.label | apply ES.scope | apply PX.sc_n | apply PX.sc_r | apply PX.sc_x)
    refine EL.cut [(25, .bool (decide (0 < n ∧ (ls.length : Int) - n ≤ i))), (1, Iv n), (5, .slice (some ⟨g, 0, none⟩) ls.length cap1), (6, .slice ad (outT ls n i).length cap), (7, Iv i)] [HA.row (.slice (some ⟨g, 0, none⟩) ls.length cap1) 9 1 ls.length (ls.map Sv), HA.row (.slice ad (outT ls n i).length cap) 9 1 (outT ls n i).length ((outT ls n i).map Sv)] ?_ ?_
    · repeat (first | apply ES.seq | apply ES.skip | apply ES.region | apply EL.nil | apply ES.block | apply ES.nil | apply ES.exit | apply ES.ret | apply PX.hit | (apply PX.miss; exact rfl) | apply PX.then_x | apply PX.then_r | apply PX.block_n | apply PX.block_r | refine PX.then_n (e := .normal) ?_ | refine PX.then_d ?_ | apply ES.label | apply ES.scope | apply PX.sc_n | apply PX.sc_r | apply PX.sc_x)
      refine EL.move rfl rfl rfl ?_
      refine EL.gtr rfl rfl rfl rfl ?_
      refine EL.move rfl rfl rfl ?_
      first | refine EL.splitD (d := 18) rfl (fun hp18 => ?_) (fun hp18 => ?_) | refine EL.splitN (d := 18) rfl (fun hp18 => ?_) (fun hp18 => ?_) | refine EL.splitB (d := 18) rfl (fun hp18 => ?_) (fun hp18 => ?_)
      · refine EL.move rfl rfl rfl ?_
        refine EL.move rfl rfl rfl ?_
        refine EL.lenL rfl rfl rfl rfl rfl ?_
        refine EL.move rfl rfl rfl ?_
        refine EL.sub_ ((ls.length : Int) - n) rfl rfl rfl rfl (wrap_i64 _ (by omega) (by omega)) ?_
        refine EL.geq rfl rfl rfl rfl ?_
        refine EL.pickT rfl rfl rfl rfl ?_
        exact EL.endK ⟨getB rfl (by first | exact decide_eq_decide.2 (by omega) | exact (decide_eq_false (by omega)).symm), rfl, rfl, rfl, rfl, trivial⟩ (by repeat (first | exact Ent.nil _ | exact Ent.refl _ | (apply Ent.cons; case p => repeat (first | exact Pick.here _ _ | apply Pick.there)) | apply Ent.drop))
      · refine EL.pass rfl rfl rfl ?_
        refine EL.pass rfl rfl rfl ?_
        refine EL.pass rfl rfl rfl ?_
        refine EL.pass rfl rfl rfl ?_
        refine EL.pass rfl rfl rfl ?_
        refine EL.pass rfl rfl rfl ?_
        refine EL.pickF rfl rfl rfl rfl ?_
        exact EL.endK ⟨getB rfl (by first | exact decide_eq_decide.2 (by omega) | exact (decide_eq_false (by omega)).symm), rfl, rfl, rfl, rfl, trivial⟩ (by repeat (first | exact Ent.nil _ | exact Ent.refl _ | (apply Ent.cons; case p => repeat (first | exact Pick.here _ _ | apply Pick.there)) | apply Ent.drop))
    refine ES.condD rfl (fun hin => ?_) (fun hout => ?_)
    · rw [if_pos hin] at hst
      have e1 : (outT ls n (i + 1)).length = (outT ls n i).length + 1 := by rw [hst]; simp
      have e2 : (outT ls n (i + 1)).map Sv = (outT ls n i).map Sv ++ [Sv (ls.getD i [])] := by rw [hst]; simp
      repeat (first | apply ES.seq | apply ES.skip | apply ES.region | apply EL.nil | apply ES.block | apply ES.nil | apply ES.exit | apply ES.ret | apply PX.hit | (apply PX.miss; exact rfl) | apply PX.then_x | apply PX.then_r | apply PX.block_n | apply PX.block_r | refine PX.then_n (e := .normal) ?_ | refine PX.then_d ?_ | apply ES.label | apply ES.scope | apply PX.sc_n | apply PX.sc_r | apply PX.sc_x)
      refine EL.move rfl rfl rfl ?_
      refine EL.move rfl rfl rfl ?_
      refine EL.move rfl rfl rfl ?_
      refine EL.indexAddrL1 rfl rfl rfl rfl rfl rfl rfl rfl hlt' ?_
      refine EL.loadRm Sv [] (l := ls) rfl rfl rfl rfl rfl (by repeat (first | exact Mem.here _ _ | apply Mem.there)) hlt' ?_
      (refine EL.buildSlice1 rfl rfl rfl rfl rfl rfl rfl rfl rfl rfl ?_; intro b31)
      (refine EL.append1 rfl rfl rfl rfl rfl rfl rfl rfl rfl (by repeat (first | exact Mem.here _ _ | apply Mem.there)) (by repeat (first | exact Pick.here _ _ | apply Pick.there)) (by intro u hu; simp [Value.cells] at hu; subst hu; rfl) (by rfl) (by unfold maxLen; omega) (by first | omega | (show 1 * _ ≤ _; omega) | (show 8 * _ ≤ _; omega) | (show 16 * _ ≤ _; omega) | (show 24 * _ ≤ _; omega) | (show _ * 1 ≤ _; omega) | (show _ * 8 ≤ _; omega) | (show _ * 16 ≤ _; omega) | (show _ * 24 ≤ _; omega)) ?_; intro a32 c32)
      refine EL.assign rfl rfl rfl ?_
      repeat (first | apply ES.seq | apply ES.skip | apply ES.region | apply EL.nil | apply ES.block | apply ES.nil | apply ES.exit | apply ES.ret | apply PX.hit | (apply PX.miss; exact rfl) | apply PX.then_x | apply PX.then_r | apply PX.block_n | apply PX.block_r | refine PX.then_n (e := .normal) ?_ | refine PX.then_d ?_ | apply ES.label | apply ES.scope | apply PX.sc_n | apply PX.sc_r | apply PX.sc_x)
      refine EL.move rfl rfl rfl ?_
      refine EL.add1 rfl rfl rfl rfl (by omega) ?_
      refine EL.assign rfl rfl rfl ?_
      repeat (first | apply ES.seq | apply ES.skip | apply ES.region | apply EL.nil | apply ES.block | apply ES.nil | apply ES.exit | apply ES.ret | apply PX.hit | (apply PX.miss; exact rfl) | apply PX.then_x | apply PX.then_r | apply PX.block_n | apply PX.block_r | refine PX.then_n (e := .normal) ?_ | refine PX.then_d ?_ | apply ES.label | apply ES.scope | apply PX.sc_n | apply PX.sc_r | apply PX.sc_x)
      refine PX.loop (i + 1, some ⟨a32, 0, none⟩, c32) (by simp only; omega) (by simp only; omega) ⟨rfl, rfl, getA rfl (by rw [e1]), rfl, trivial⟩ ?_
      dsimp only
      rw [e1, e2]
      exact (by repeat (first | exact Ent.nil _ | exact Ent.refl _ | (apply Ent.cons; case p => repeat (first | exact Pick.here _ _ | apply Pick.there)) | apply Ent.drop))
    · rw [if_neg hout] at hst
      repeat (first | apply ES.seq | apply ES.skip | apply ES.region | apply EL.nil | apply ES.block | apply ES.nil | apply ES.exit | apply ES.ret | apply PX.hit | (apply PX.miss; exact rfl) | apply PX.then_x | apply PX.then_r | apply PX.block_n | apply PX.block_r | refine PX.then_n (e := .normal) ?_ | refine PX.then_d ?_ | apply ES.label | apply ES.scope | apply PX.sc_n | apply PX.sc_r | apply PX.sc_x)
      refine EL.move rfl rfl rfl ?_
      refine EL.add1 rfl rfl rfl rfl (by omega) ?_
      refine EL.assign rfl rfl rfl ?_
      repeat (first | apply ES.seq | apply ES.skip | apply ES.region | apply EL.nil | apply ES.block | apply ES.nil | apply ES.exit | apply ES.ret | apply PX.hit | (apply PX.miss; exact rfl) | apply PX.then_x | apply PX.then_r | apply PX.block_n | apply PX.block_r | refine PX.then_n (e := .normal) ?_ | refine PX.then_d ?_ | apply ES.label | apply ES.scope | apply PX.sc_n | apply PX.sc_r | apply PX.sc_x)
      refine PX.loop (i + 1, ad, cap) (by simp only; omega) (by simp only; omega) ⟨rfl, rfl, getA rfl (by rw [hst]), rfl, trivial⟩ ?_
      dsimp only
      rw [hst]
      exact (by repeat (first | exact Ent.nil _ | exact Ent.refl _ | (apply Ent.cons; case p => repeat (first | exact Pick.here _ _ | apply Pick.there)) | apply Ent.drop))
  obtain rfl : i = ls.length := by omega
  repeat (first | apply ES.seq | apply ES.skip | apply ES.region | apply EL.nil | apply ES.block | apply ES.nil | apply ES.exit | apply ES.ret | apply PX.hit | (apply PX.miss; exact rfl) | apply PX.then_x | apply PX.then_r | apply PX.block_n | apply PX.block_r | refine PX.then_n (e := .normal) ?_ | refine PX.then_d ?_ | apply ES.label | apply ES.scope | apply PX.sc_n | apply PX.sc_r | apply PX.sc_x)
  refine EL.move rfl rfl rfl ?_
  refine EL.assign rfl rfl rfl ?_
  repeat (first | apply ES.seq | apply ES.skip | apply ES.region | apply EL.nil | apply ES.block | apply ES.nil | apply ES.exit | apply ES.ret | apply PX.hit | (apply PX.miss; exact rfl) | apply PX.then_x | apply PX.then_r | apply PX.block_n | apply PX.block_r | refine PX.then_n (e := .normal) ?_ | refine PX.then_d ?_ | apply ES.label | apply ES.scope | apply PX.sc_n | apply PX.sc_r | apply PX.sc_x)
  exact PX.ret rfl Try.results20 (.cons (.tmp rfl) .nil) (fun w hs => ⟨(ad, cap), rfl, hs.ent (by repeat (first | exact Ent.nil _ | exact Ent.refl _ | (apply Ent.cons; case p => repeat (first | exact Pick.here _ _ | apply Pick.there)) | apply Ent.drop))⟩)
end Go.Proofs.Ytcaphghkflffgaa
