/- Layer 4 (bre): the parser takes a token. -/
import Derived.Test.YtblpgpgbnlhjlaaPh
namespace Go.Proofs.Ytblpgpgbnlhjlaa
open Go Go.RowKit Sl
set_option maxRecDepth 100000
set_option maxHeartbeats 8000000
set_option linter.unusedVariables false
set_option linter.unusedSimpArgs false
attribute [local irreducible] ES EL PX wps

structure POk (p : PS) (N : Nat) : Prop where
  ok : p.Ok
  deep : p.rest.length ≤ p.groups
  kids : ∀ f ∈ p.top :: p.rest, f.kids.length ≤ N
structure TokOk (p : PS) (k : Tok) : Prop where
  rep : k.kind = 5 → p.top.kids ≠ [] ∧ 0 ≤ k.lo ∧ k.lo ≤ 255 ∧ -1 ≤ k.hi ∧ k.hi ≤ 255 ∧ (0 ≤ k.hi → k.lo ≤ k.hi)
  back : k.kind = 6 → 1 ≤ k.lo ∧ k.lo ≤ 9
theorem ps0_pok : POk ps0 0 := ⟨ps0_ok, by simp [ps0], by simp [ps0]⟩
theorem takeM_0 {p : PS} {k : Tok} (h : k.kind = 0) : takeM p k = ({ p with top := p.top.put (.byte k.set) 1, size := p.size + 1 }, growE (p.size + 1)) := by unfold takeM; rw [h]; rfl
theorem takeM_1 {p : PS} {k : Tok} (h : k.kind = 1) : takeM p k = ({ p with top := p.top.put .bol 0 }, 0) := by unfold takeM; rw [h]; rfl
theorem takeM_2 {p : PS} {k : Tok} (h : k.kind = 2) : takeM p k = ({ p with top := p.top.put .eol 0 }, 0) := by unfold takeM; rw [h]; rfl
theorem takeM_3 {p : PS} {k : Tok} (h : k.kind = 3) : takeM p k = if p.groups = 9 then (p, 4) else ({ p with top := ⟨[], [], p.groups + 1, k.at_⟩, rest := p.top :: p.rest, groups := p.groups + 1 }, 0) := by unfold takeM; rw [h]; rfl
theorem takeM_4 {p : PS} {k : Tok} (h : k.kind = 4) : takeM p k = match p.rest with
    | [] => (p, 10)
    | f :: r => ({ p with top := f.put (.group p.top.group (.cat p.top.kids)) p.top.sizes.sum, rest := r, shut := p.shut.set p.top.group true }, 0) := by unfold takeM; rw [h]; rfl
theorem takeM_5 {p : PS} {k : Tok} (h : k.kind = 5) : takeM p k =
    let old := p.top.sizes.getLastD 0
    let f := { p.top with kids := p.top.kids.dropLast ++ [.rep k.lo.toNat k.hi (p.top.kids.getLastD .bol)], sizes := p.top.sizes.dropLast ++ [old * timesM k.lo.toNat k.hi] }
    ({ p with top := f, size := p.size - old + old * timesM k.lo.toNat k.hi }, growE (p.size - old + old * timesM k.lo.toNat k.hi)) := by unfold takeM; rw [h]; rfl
theorem takeM_6 {p : PS} {k : Tok} (h : k.kind = 6) : takeM p k = if p.shut.getD k.lo.toNat false = true then ({ p with top := p.top.put (.back k.lo.toNat) 1, size := p.size + 1 }, growE (p.size + 1)) else (p, 11) := by unfold takeM; rw [h]; rfl
theorem takeM_7 {p : PS} {k : Tok} (h : 7 ≤ k.kind) : takeM p k = (p, k.e) := by
  unfold takeM
  split <;> first | rfl | omega
theorem growE_le {n : Nat} (h : growE n = 0) : n ≤ 256 := by
  unfold growE at h; split at h <;> omega
theorem put_kids (f : Frame) (r : RE) (n : Nat) : (f.put r n).kids = f.kids ++ [r] := rfl
theorem put_sizes (f : Frame) (r : RE) (n : Nat) : (f.put r n).sizes = f.sizes ++ [n] := rfl
theorem put_tot (f : Frame) (r : RE) (n : Nat) : (f.put r n).tot = f.tot + n := by simp [Frame.tot, Frame.put]
theorem POk.put {p : PS} {N : Nat} (h : POk p N) (r : RE) (n : Nat) (hs : p.size + n ≤ 256) : POk { p with top := p.top.put r n, size := p.size + n } (N + 1) := by
  refine ⟨⟨?_, ?_, hs, h.ok.shut, h.ok.groups, ?_⟩, h.deep, ?_⟩
  · intro f hf
    rcases List.mem_cons.1 hf with rfl | hf
    · have := h.ok.len p.top (by simp)
      simp [Frame.put, this]
    · exact h.ok.len f (by simp [hf])
  · have := h.ok.tot
    show p.size + n = (p.top.put r n).tot + (p.rest.map Frame.tot).sum
    rw [put_tot]; omega
  · intro f hf
    rcases List.mem_cons.1 hf with rfl | hf
    · exact h.ok.num p.top (by simp)
    · exact h.ok.num f (by simp [hf])
  · intro f hf
    rcases List.mem_cons.1 hf with rfl | hf
    · have := h.kids p.top (by simp)
      simp only [put_kids, List.length_append, List.length_singleton]; omega
    · have := h.kids f (by simp [hf]); omega
theorem dropLast_last {α : Type _} (l : List α) (d : α) (h : l ≠ []) : l = l.dropLast ++ [l.getLastD d] := by
  rw [List.getLastD_eq_getLast?, List.getLast?_eq_some_getLast h]
  exact (List.dropLast_concat_getLast h).symm
theorem takeM_ok {p : PS} {N : Nat} {k : Tok} (h : POk p N) (hk : TokOk p k) (he : (takeM p k).2 = 0) (h7 : k.kind ≤ 6) : POk (takeM p k).1 (N + 1) := by
  rcases (by omega : k.kind = 0 ∨ k.kind = 1 ∨ k.kind = 2 ∨ k.kind = 3 ∨ k.kind = 4 ∨ k.kind = 5 ∨ k.kind = 6) with h0 | h0 | h0 | h0 | h0 | h0 | h0
  · rw [takeM_0 h0] at he ⊢
    exact h.put _ 1 (growE_le he)
  · rw [takeM_1 h0]
    exact h.put _ 0 h.ok.le
  · rw [takeM_2 h0]
    exact h.put _ 0 h.ok.le
  · rw [takeM_3 h0] at he ⊢
    split at he
    · cases he
    · rename_i hg
      rw [if_neg hg]
      have h9 := h.ok.groups
      refine ⟨⟨?_, ?_, h.ok.le, h.ok.shut, by simp only; omega, ?_⟩, by simp only [List.length_cons]; have := h.deep; omega, ?_⟩
      · intro f hf
        rcases List.mem_cons.1 hf with rfl | hf
        · rfl
        · exact h.ok.len f hf
      · have := h.ok.tot
        simp only [List.map_cons, List.sum_cons]
        simp only [Frame.tot, List.sum_nil] at this ⊢
        omega
      · intro f hf
        rcases List.mem_cons.1 hf with rfl | hf
        · simp only; omega
        · exact h.ok.num f hf
      · intro f hf
        rcases List.mem_cons.1 hf with rfl | hf
        · simp
        · have := h.kids f hf; omega
  · rw [takeM_4 h0] at he ⊢
    obtain ⟨top, rest, groups, shut, size⟩ := p
    cases rest with
    | nil => cases he
    | cons f r =>
      dsimp only
      have hdeep := h.deep
      have hok := h.ok
      refine ⟨⟨?_, ?_, h.ok.le, by simp [h.ok.shut], h.ok.groups, ?_⟩, by simp only [List.length_cons] at hdeep ⊢; omega, ?_⟩
      · intro f' hf
        rcases List.mem_cons.1 hf with rfl | hf
        · have := h.ok.len f (by simp)
          simp [Frame.put, this]
        · exact h.ok.len f' (by simp [hf])
      · have := h.ok.tot
        simp only [List.map_cons, List.sum_cons] at this
        show size = (f.put _ _).tot + (r.map Frame.tot).sum
        rw [put_tot]
        simp only [Frame.tot] at this ⊢
        omega
      · intro f' hf
        rcases List.mem_cons.1 hf with rfl | hf
        · exact h.ok.num f (by simp)
        · exact h.ok.num f' (by simp [hf])
      · intro f' hf
        rcases List.mem_cons.1 hf with rfl | hf
        · have := h.kids f (by simp)
          simp only [put_kids, List.length_append, List.length_singleton]; omega
        · have := h.kids f' (by simp [hf]); omega
  · rw [takeM_5 h0] at he ⊢
    dsimp only at he ⊢
    have hne := (hk.rep h0).1
    have hl := h.ok.len p.top (by simp)
    have hse : p.top.sizes ≠ [] := by
      intro e; rw [e] at hl; exact hne (List.eq_nil_of_length_eq_zero hl)
    have hz := dropLast_last p.top.sizes 0 hse
    have hsum : p.top.sizes.sum = p.top.sizes.dropLast.sum + p.top.sizes.getLastD 0 := by
      conv => lhs; rw [hz]
      simp
    refine ⟨⟨?_, ?_, growE_le he, h.ok.shut, h.ok.groups, ?_⟩, h.deep, ?_⟩
    · intro f hf
      rcases List.mem_cons.1 hf with rfl | hf
      · simp [hl]
      · exact h.ok.len f (by simp [hf])
    · have := h.ok.tot
      simp only [Frame.tot, List.sum_append, List.sum_cons, List.sum_nil] at this ⊢
      omega
    · intro f hf
      rcases List.mem_cons.1 hf with rfl | hf
      · exact h.ok.num p.top (by simp)
      · exact h.ok.num f (by simp [hf])
    · intro f hf
      rcases List.mem_cons.1 hf with rfl | hf
      · have := h.kids p.top (by simp)
        simp only [List.length_append, List.length_singleton, List.length_dropLast]; omega
      · have := h.kids f (by simp [hf]); omega
  · rw [takeM_6 h0] at he ⊢
    split at he
    · rename_i hs
      rw [if_pos hs]
      exact h.put _ 1 (growE_le he)
    · cases he

/-! the parser in memory -/
structure FV where
  kad : Option Addr
  kcap : Nat
  sad : Option Addr
  scap : Nat
  kcs : List Value
  fp : List Nat
deriving Inhabited
abbrev FV.cells (v : FV) (f : Frame) : List Value := frC v.kad f.kids.length v.kcap v.sad f.sizes.length v.scap f.group f.at_
abbrev FV.hs (v : FV) (f : Frame) : List HA := [KR v.kad f.kids.length v.kcap v.kcs, ZR v.sad v.scap f.sizes, HA.forest v.fp f.kids v.kcs]
def preC : List (Frame × FV) → List Value
  | [] => []
  | (f, v) :: r => preC r ++ v.cells f
def restH : List (Frame × FV) → List HA
  | [] => []
  | (f, v) :: r => v.hs f ++ restH r
theorem preC_len : ∀ r, (preC r).length = r.length * 4
  | [] => rfl
  | (f, v) :: r => by simp only [preC, List.length_append, preC_len r, List.length_cons, frC, List.length_nil]; omega
abbrev PH (g fg fcap : Nat) (p : PS) (tv : FV) (rv : List (Frame × FV)) : List HA :=
  PB g fg (rv.length + 1) fcap (PR p.groups p.shut p.size) :: FB fg (rv.length + 1) fcap (preC rv ++ tv.cells p.top) :: (tv.hs p.top ++ restH rv)
theorem Sat.tailL {w0 w : World} {B : Nat} {R : List HA} : ∀ {A : List HA}, Sat w0 B (A ++ R) w → Sat w0 B R w
  | [], h => h
  | _ :: A, h => Sat.tailL (A := A) h.tail
structure TX where
  fg : Nat
  fcap : Nat
  tv : FV
  rv : List (Frame × FV)
abbrev TXs (p : PS) : Type := { x : TX // x.rv.map Prod.fst = p.rest }
def TXs.any (p : PS) : TXs p := ⟨⟨0, 0, default, p.rest.map fun f => (f, default)⟩, by simp only [List.map_map]; exact List.map_id _⟩
def tkH (g : Nat) (r : PS × Int) (x : TXs r.1) : List HA := if r.2 = 0 then PH g x.1.fg x.1.fcap r.1 x.1.tv x.1.rv else []
theorem tk_ok {w0 w : World} {B g : Nat} {R : List HA} {r : PS × Int} (x : TXs r.1) (h : Sat w0 B (PH g x.1.fg x.1.fcap r.1 x.1.tv x.1.rv ++ R) w) : Sat w0 B (tkH g r x ++ R) w := by
  unfold tkH
  split
  · exact h
  · exact Sat.tailL h
theorem tk_err {w0 w : World} {B g : Nat} {R : List HA} {r : PS × Int} (x : TXs r.1) (hr : r.2 ≠ 0) (h : Sat w0 B R w) : Sat w0 B (tkH g r x ++ R) w := by
  unfold tkH
  rw [if_neg hr]
  exact h
theorem leafForest {w0 w : World} {B : Nat} {R : List HA} {fp : List Nat} {ks : List RE} {cs : List Value} (r : RE) (hr : r.kids = []) (h : Sat w0 B (HA.forest fp ks cs :: R) w) : Sat w0 B (HA.forest fp (ks ++ [r]) (cs ++ reCells r (.slice none 0 0)) :: R) w :=
  Sat.forestEq h (fun _ _ hf => hf.append (Forest.leaf r hr))
/-- A leaf is put behind the others of a frame. -/
theorem putLeaf_c (g fg fcap : Nat) (p : PS) (tv : FV) (rv : List (Frame × FV)) (hrv : rv.length ≤ 9) (hn : p.top.kids.length ≤ 65535) (hz : p.top.sizes.length ≤ 65535) (r : RE) (hr : r.kids = []) (z : Nat) :
    Mut Try.prog 77 #[Pv g 0, .agg (reCells r (.slice none 0 0)).toArray, Iv (z : Nat)] (PH g fg fcap p tv rv)
      (fun _ : (Option Addr × Nat) × (Option Addr × Nat) => Iv 0)
      (fun x => PH g fg fcap { p with top := p.top.put r z } ⟨x.1.1, x.1.2, x.2.1, x.2.2, tv.kcs ++ reCells r (.slice none 0 0), tv.fp⟩ rv) := by
  intro w0 B R w h
  have hkl : tv.kcs.length = p.top.kids.length * 9 := (row_form (h.all (KR tv.kad p.top.kids.length tv.kcap tv.kcs) (by simp))).2.2.2.1
  have hc := put_c g fg rv.length fcap (PR p.groups p.shut p.size) (preC rv) (preC_len rv) (by omega) tv.kad p.top.kids.length tv.kcap tv.sad tv.scap p.top.group p.top.at_ tv.kcs (reCells r (.slice none 0 0)) p.top.sizes z (by omega) (by omega) hkl rfl (all1 rfl)
  have h1 : Sat w0 B ([PB g fg (rv.length + 1) fcap (PR p.groups p.shut p.size), FB fg (rv.length + 1) fcap (preC rv ++ frC tv.kad p.top.kids.length tv.kcap tv.sad p.top.sizes.length tv.scap p.top.group p.top.at_), KR tv.kad p.top.kids.length tv.kcap tv.kcs, ZR tv.sad tv.scap p.top.sizes] ++ (HA.forest tv.fp p.top.kids tv.kcs :: (restH rv ++ R))) w := h
  refine (hc w0 B _ w h1).mono ?_
  rintro e w' ⟨x, he, hs⟩
  refine ⟨x, he, ?_⟩
  have h2 := leafForest r hr (hs.ent (H' := HA.forest tv.fp p.top.kids tv.kcs :: PB g fg (rv.length + 1) fcap (PR p.groups p.shut p.size) :: FB fg (rv.length + 1) fcap (preC rv ++ frC x.1.1 (p.top.kids.length + 1) x.1.2 x.2.1 (p.top.sizes.length + 1) x.2.2 p.top.group p.top.at_) :: KR x.1.1 (p.top.kids.length + 1) x.1.2 (tv.kcs ++ reCells r (.slice none 0 0)) :: ZR x.2.1 x.2.2 (p.top.sizes ++ [z]) :: (restH rv ++ R)) (.i (by repeat constructor)))
  have e1 : (p.top.put r z).kids.length = p.top.kids.length + 1 := by simp [Frame.put]
  have e2 : (p.top.put r z).sizes.length = p.top.sizes.length + 1 := by simp [Frame.put]
  show Sat w0 B (PB g fg (rv.length + 1) fcap (PR p.groups p.shut p.size) :: FB fg (rv.length + 1) fcap (preC rv ++ frC x.1.1 (p.top.put r z).kids.length x.1.2 x.2.1 (p.top.put r z).sizes.length x.2.2 p.top.group p.top.at_) :: KR x.1.1 (p.top.put r z).kids.length x.1.2 (tv.kcs ++ reCells r (.slice none 0 0)) :: ZR x.2.1 x.2.2 (p.top.sizes ++ [z]) :: HA.forest tv.fp (p.top.kids ++ [r]) (tv.kcs ++ reCells r (.slice none 0 0)) :: (restH rv ++ R)) w'
  rw [e1, e2]
  exact h2.ent (.i (by repeat constructor))
end Go.Proofs.Ytblpgpgbnlhjlaa
