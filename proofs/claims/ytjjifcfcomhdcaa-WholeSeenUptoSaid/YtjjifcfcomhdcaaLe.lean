/- Layer 16 (listing): Read: what it answers. -/
import Derived.Test.YtjjifcfcomhdcaaLd
namespace Go.Proofs.Ytjjifcfcomhdcaa
open Go Go.RowKit Sl
set_option maxRecDepth 100000
set_option maxHeartbeats 8000000
set_option linter.unusedVariables false
set_option linter.unusedSimpArgs false
attribute [local irreducible] ES EL PX wps

def escAll (t : List UInt8) : List UInt8 := t.flatMap escM
def allM (ls : LL) : List UInt8 := ls.flatMap List.dropLast
theorem fold_all : ∀ (l : List UInt8) (s : LL × List UInt8), (l.foldl stepL s).1.flatMap List.dropLast ++ (l.foldl stepL s).2 = (s.1.flatMap List.dropLast ++ s.2) ++ l.flatMap escM
  | [], s => by simp
  | b :: l, s => by
    rw [List.foldl_cons, fold_all l, List.flatMap_cons, ← List.append_assoc]
    congr 1
    unfold stepL
    split
    · simp only [List.flatMap_append, List.flatMap_cons, List.flatMap_nil, List.append_nil, List.dropLast_concat, List.append_assoc]
    · simp only [List.append_assoc]
theorem all_lines (t : List UInt8) : allM (linesM t) = escAll t := by
  have := fold_all t ([], [])
  simp only [List.flatMap_nil, List.nil_append] at this
  unfold allM linesM escAll foldL
  rw [List.flatMap_append, List.flatMap_cons, List.flatMap_nil, List.append_nil, List.dropLast_concat, this]
theorem fold_ends : ∀ (l : List UInt8) (s : LL × List UInt8), (∀ x ∈ s.1, ∃ y, x = y ++ [92]) → ∀ x ∈ (l.foldl stepL s).1, ∃ y, x = y ++ [92]
  | [], s, h => h
  | b :: l, s, h => by
    refine fold_ends l _ ?_
    unfold stepL
    split
    · intro x hx
      rcases List.mem_append.1 hx with hx | hx
      · exact h x hx
      · exact ⟨s.2, by simpa using hx⟩
    · exact h
def endB (n i : Nat) : UInt8 := if i + 1 = n then 36 else 92
/-- Each line ends as it must. -/
theorem lines_end (t : List UInt8) (i : Nat) (l : List UInt8) (h : (linesM t)[i]? = some l) : ∃ y, l = y ++ [endB (linesM t).length i] := by
  have hlen : (linesM t).length = (foldL t).1.length + 1 := by simp [linesM]
  unfold linesM at h
  rcases Nat.lt_or_ge i (foldL t).1.length with hlt | hge
  · rw [List.getElem?_append_left hlt] at h
    have he : endB (linesM t).length i = 92 := by unfold endB; rw [if_neg (by omega)]
    rw [he]
    exact fold_ends t ([], []) (by simp) l (List.mem_of_getElem? h)
  · rw [List.getElem?_append_right hge] at h
    have hi : i = (foldL t).1.length := by
      rcases Nat.lt_or_ge (i - (foldL t).1.length) 1 with h2 | h2
      · omega
      · rw [List.getElem?_eq_none (by simpa using h2)] at h; cases h
    have he : endB (linesM t).length i = 36 := by unfold endB; rw [if_pos (by omega)]
    rw [he]
    rw [hi, Nat.sub_self] at h
    exact ⟨(foldL t).2, by simpa using h.symm⟩
def sufOk (l : List UInt8) (c : UInt8) : Prop := [c].length ≤ l.length ∧ l.drop (l.length - [c].length) = [c]
theorem suf_of (y : List UInt8) (c : UInt8) : sufOk (y ++ [c]) c := by
  unfold sufOk
  simp
def readM (ls : LL) : List UInt8 × Int := match unescM (allM ls) with
  | some t => if linesM t = ls then (t, 0) else ([], 19)
  | none => ([], 19)
theorem read_bad (ls : LL) (h : ∀ t, linesM t ≠ ls) : readM ls = ([], 19) := by
  unfold readM
  split
  · rename_i t _
    rw [if_neg (h t)]
  · rfl
theorem read_end (ls : LL) (i : Nat) (l : List UInt8) (h : ls[i]? = some l) (hs : ¬ sufOk l (endB ls.length i)) : readM ls = ([], 19) := read_bad ls fun t ht => by
  subst ht
  obtain ⟨y, hy⟩ := lines_end t i l h
  rw [hy] at hs
  exact hs (suf_of _ _)
theorem sum_take : ∀ (ls : LL) (i : Nat), ((ls.take i).flatMap List.dropLast).length ≤ (ls.map List.length).sum
  | [], i => by simp
  | l :: ls, 0 => by simp
  | l :: ls, i + 1 => by
    have := sum_take ls i
    simp only [List.take_succ_cons, List.flatMap_cons, List.length_append, List.length_dropLast, List.map_cons, List.sum_cons]
    omega
theorem flat_snoc (ls : LL) (i : Nat) (h : i < ls.length) : (ls.take (i + 1)).flatMap List.dropLast = (ls.take i).flatMap List.dropLast ++ (ls.getD i []).dropLast := by
  rw [take_snoc ls i [] h, List.flatMap_append]; simp
theorem len_le_sum : ∀ (ls : LL) (i : Nat), (ls.getD i []).length ≤ (ls.map List.length).sum
  | [], i => by simp
  | l :: ls, 0 => by simp
  | l :: ls, i + 1 => by
    have := len_le_sum ls i
    simp only [List.getD_cons_succ, List.map_cons, List.sum_cons]
    omega
theorem unR_len (s : List UInt8) : (unR s).1.length ≤ s.length := by
  have key : ∀ (n : Nat) (s t : List UInt8), s.length ≤ n → unescM s = some t → t.length ≤ s.length := by
    intro n
    induction n with
    | zero =>
      intro s t hn h
      obtain rfl : s = [] := List.eq_nil_of_length_eq_zero (by omega)
      rw [unescM_nil] at h; cases h; simp
    | succ n ih =>
      intro s t hn h
      by_cases hs : s = []
      · subst hs; rw [unescM_nil] at h; cases h; simp
      · rw [unescM_step s hs] at h
        cases hx : nextE s with
        | none => rw [hx] at h; cases h
        | some b =>
          rw [hx] at h
          obtain ⟨t', h1, h2⟩ := Option.map_eq_some_iff.1 h
          subst h2
          have hb := (escM_len (UInt8.ofNat b)).1
          have hpos : 0 < s.length := List.length_pos_iff.2 hs
          have := ih _ t' (by rw [List.length_drop]; omega) h1
          rw [List.length_drop] at this
          simp only [List.length_cons]; omega
  unfold unR
  split
  · rename_i t h; exact key _ _ _ (Nat.le_refl _) h
  · simp
theorem read_c (ad : Option Addr) (cap : Nat) (ls : LL) (hb : ls.length + (ls.map List.length).sum ≤ 1073741824) (w : World) (hrd : Rd w w.heap.size ad (ls.map Sv)) :
    Pure Try.prog 17 #[.slice ad ls.length cap] (fun _ : Unit => .tuple #[Sv (readM ls).1, Iv (readM ls).2]) (fun _ => []) w := by
  refine calls_of_ESM TB Try.func17 rfl _ Try.ntmps17 rfl (Sat.start w) ?_
  repeat (first | apply ES.seq | apply ES.skip | apply ES.region | apply EL.nil | apply ES.block | apply ES.nil | apply ES.exit | apply ES.ret | apply PX.hit | (apply PX.miss; exact rfl) | apply PX.then_x | apply PX.then_r | apply PX.block_n | apply PX.block_r | refine PX.then_n (e := .normal) ?_ | refine PX.then_d ?_ | apply ES.label | apply ES.scope | apply PX.sc_n | apply PX.sc_r | apply PX.sc_x)
  (refine EL.box rfl rfl rfl ?_; intro g1)
  (refine EL.alloc rfl rfl rfl ?_; intro g2)
  (refine EL.alloc rfl rfl rfl ?_; intro g3)
  repeat (first | apply ES.seq | apply ES.skip | apply ES.region | apply EL.nil | apply ES.block | apply ES.nil | apply ES.exit | apply ES.ret | apply PX.hit | (apply PX.miss; exact rfl) | apply PX.then_x | apply PX.then_r | apply PX.block_n | apply PX.block_r | refine PX.then_n (e := .normal) ?_ | refine PX.then_d ?_ | apply ES.label | apply ES.scope | apply PX.sc_n | apply PX.sc_r | apply PX.sc_x)
  (refine EL.alloc rfl rfl rfl ?_; intro g4)
  repeat (first | apply ES.seq | apply ES.skip | apply ES.region | apply EL.nil | apply ES.block | apply ES.nil | apply ES.exit | apply ES.ret | apply PX.hit | (apply PX.miss; exact rfl) | apply PX.then_x | apply PX.then_r | apply PX.block_n | apply PX.block_r | refine PX.then_n (e := .normal) ?_ | refine PX.then_d ?_ | apply ES.label | apply ES.scope | apply PX.sc_n | apply PX.sc_r | apply PX.sc_x)
  (apply EL.loadB; exact rfl; exact rfl; exact rfl; exact rfl; exact rfl; (case hm => (repeat (first | exact Mem.here _ _ | apply Mem.there))); exact rfl)
  refine EL.lenL rfl rfl rfl rfl rfl ?_
  refine EL.move rfl rfl rfl ?_
  repeat (first | apply ES.seq | apply ES.skip | apply ES.region | apply EL.nil | apply ES.block | apply ES.nil | apply ES.exit | apply ES.ret | apply PX.hit | (apply PX.miss; exact rfl) | apply PX.then_x | apply PX.then_r | apply PX.block_n | apply PX.block_r | refine PX.then_n (e := .normal) ?_ | refine PX.then_d ?_ | apply ES.label | apply ES.scope | apply PX.sc_n | apply PX.sc_r | apply PX.sc_x)
  refine ES.nilBuf 5 ?_
  refine ES.loop (σ := Nat × Bool × Option Addr × Nat) (fun (i, u, bad, bcap) => i ≤ ls.length) (fun (i, u, bad, bcap) => [(1, Pv g1 0), (2, Pv g2 0), (3, Pv g3 0), (4, Pv g4 0), (12, .slice ad ls.length cap), (13, Iv ls.length), (14, Iv i)])
    (fun (i, u, bad, bcap) => HB g4 u bad bcap ((ls.take i).flatMap List.dropLast) ++ [HA.blk g1 (.cells #[.slice ad ls.length cap] 22), HA.blk g2 (.cells #[Sv []] 9), HA.blk g3 (.cells #[Iv 0] 30)]) (fun (i, _) => ls.length - i) (0, false, none, 0) (Nat.zero_le _) ⟨rfl, rfl, rfl, rfl, rfl, rfl, rfl, trivial⟩ (by repeat (first | exact Ent.nil _ | exact Ent.refl _ | (apply Ent.cons; case p => repeat (first | exact Pick.here _ _ | apply Pick.there)) | apply Ent.drop)) ?_
  rintro ⟨i, u, bad, bcap⟩ hi
  dsimp only at hi ⊢
  repeat (first | apply ES.seq | apply ES.skip | apply ES.region | apply EL.nil | apply ES.block | apply ES.nil | apply ES.exit | apply ES.ret | apply PX.hit | (apply PX.miss; exact rfl) | apply PX.then_x | apply PX.then_r | apply PX.block_n | apply PX.block_r | refine PX.then_n (e := .normal) ?_ | refine PX.then_d ?_ | apply ES.label | apply ES.scope | apply PX.sc_n | apply PX.sc_r | apply PX.sc_x)
  refine EL.lss rfl rfl rfl rfl ?_
  repeat (first | apply ES.seq | apply ES.skip | apply ES.region | apply EL.nil | apply ES.block | apply ES.nil | apply ES.exit | apply ES.ret | apply PX.hit | (apply PX.miss; exact rfl) | apply PX.then_x | apply PX.then_r | apply PX.block_n | apply PX.block_r | refine PX.then_n (e := .normal) ?_ | refine PX.then_d ?_ | apply ES.label | apply ES.scope | apply PX.sc_n | apply PX.sc_r | apply PX.sc_x)
  refine ES.condD rfl (fun hlt => ?_) (fun hge => ?_)
  · have hlt' : i < ls.length := by omega
    obtain ⟨l, hl⟩ : ∃ l, l = ls.getD i [] := ⟨_, rfl⟩
    have hli : ls[i]? = some l := by rw [hl, List.getD_eq_getElem?_getD, List.getElem?_eq_getElem hlt']; rfl
    have hget : (ls.map Sv)[i]? = some (Sv l) := by rw [hl]; exact getElem?_map Sv ls i [] hlt'
    have hll : l.length ≤ (ls.map List.length).sum := by rw [hl]; exact len_le_sum ls i
    have hst := sum_take ls i
    have hrd' := hrd
    obtain ⟨ga, oa, hga, _⟩ := hrd' (fun e => by rw [e] at hget; simp at hget)
    rw [hga] at hrd
    have hfl := flat_snoc ls i hlt'
    rw [← hl] at hfl
    repeat (first | apply ES.seq | apply ES.skip | apply ES.region | apply EL.nil | apply ES.block | apply ES.nil | apply ES.exit | apply ES.ret | apply PX.hit | (apply PX.miss; exact rfl) | apply PX.then_x | apply PX.then_r | apply PX.block_n | apply PX.block_r | refine PX.then_n (e := .normal) ?_ | refine PX.then_d ?_ | apply ES.label | apply ES.scope | apply PX.sc_n | apply PX.sc_r | apply PX.sc_x)
    refine EL.move rfl rfl rfl ?_
    (refine EL.rew (d := 12) rfl (by rw [hga]) ?_; refine EL.indexAddrLo rfl rfl rfl rfl rfl rfl rfl rfl hlt' ?_)
    refine EL.loadOld rfl rfl rfl rfl rfl hrd hget ?_
    refine EL.assign rfl rfl rfl ?_
    refine EL.assign rfl rfl rfl ?_
    repeat (first | apply ES.seq | apply ES.skip | apply ES.region | apply EL.nil | apply ES.block | apply ES.nil | apply ES.exit | apply ES.ret | apply PX.hit | (apply PX.miss; exact rfl) | apply PX.then_x | apply PX.then_r | apply PX.block_n | apply PX.block_r | refine PX.then_n (e := .normal) ?_ | refine PX.then_d ?_ | apply ES.label | apply ES.scope | apply PX.sc_n | apply PX.sc_r | apply PX.sc_x)
    refine EL.assign rfl rfl rfl ?_
    repeat (first | apply ES.seq | apply ES.skip | apply ES.region | apply EL.nil | apply ES.block | apply ES.nil | apply ES.exit | apply ES.ret | apply PX.hit | (apply PX.miss; exact rfl) | apply PX.then_x | apply PX.then_r | apply PX.block_n | apply PX.block_r | refine PX.then_n (e := .normal) ?_ | refine PX.then_d ?_ | apply ES.label | apply ES.scope | apply PX.sc_n | apply PX.sc_r | apply PX.sc_x)
    refine EL.move rfl rfl rfl ?_
    (apply EL.loadB; exact rfl; exact rfl; exact rfl; exact rfl; exact rfl; (case hm => (repeat (first | exact Mem.here _ _ | apply Mem.there))); exact rfl)
    refine EL.lenL rfl rfl rfl rfl rfl ?_
    refine EL.sub1 rfl rfl rfl rfl (by omega) (by omega) ?_
    refine EL.eqlI rfl rfl rfl rfl ?_
    repeat (first | apply ES.seq | apply ES.skip | apply ES.region | apply EL.nil | apply ES.block | apply ES.nil | apply ES.exit | apply ES.ret | apply PX.hit | (apply PX.miss; exact rfl) | apply PX.then_x | apply PX.then_r | apply PX.block_n | apply PX.block_r | refine PX.then_n (e := .normal) ?_ | refine PX.then_d ?_ | apply ES.label | apply ES.scope | apply PX.sc_n | apply PX.sc_r | apply PX.sc_x)
    refine ES.cutC (X := Unit) (fun _ => [(1, Pv g1 0), (2, Pv g2 0), (3, Pv g3 0), (4, Pv g4 0), (6, Sv l), (7, Sv [endB ls.length i]), (12, .slice ad ls.length cap), (13, Iv ls.length), (14, Iv i)]) (fun _ => HB g4 u bad bcap ((ls.take i).flatMap List.dropLast) ++ [HA.blk g1 (.cells #[.slice ad ls.length cap] 22), HA.blk g2 (.cells #[Sv []] 9), HA.blk g3 (.cells #[Iv 0] 30)]) ?_ (fun _ => ?_)
    · refine ES.condD rfl (fun he => ?_) (fun he => ?_)
      · have hE : endB ls.length i = 36 := by unfold endB; rw [if_pos (by omega)]
        repeat (first | apply ES.seq | apply ES.skip | apply ES.region | apply EL.nil | apply ES.block | apply ES.nil | apply ES.exit | apply ES.ret | apply PX.hit | (apply PX.miss; exact rfl) | apply PX.then_x | apply PX.then_r | apply PX.block_n | apply PX.block_r | refine PX.then_n (e := .normal) ?_ | refine PX.then_d ?_ | apply ES.label | apply ES.scope | apply PX.sc_n | apply PX.sc_r | apply PX.sc_x)
        refine EL.assign rfl rfl rfl ?_
        repeat (first | apply ES.seq | apply ES.skip | apply ES.region | apply EL.nil | apply ES.block | apply ES.nil | apply ES.exit | apply ES.ret | apply PX.hit | (apply PX.miss; exact rfl) | apply PX.then_x | apply PX.then_r | apply PX.block_n | apply PX.block_r | refine PX.then_n (e := .normal) ?_ | refine PX.then_d ?_ | apply ES.label | apply ES.scope | apply PX.sc_n | apply PX.sc_r | apply PX.sc_x)
        exact PX.cutX () ⟨rfl, rfl, rfl, rfl, rfl, getA rfl (by rw [hE]), getA rfl (by rw [hga]), rfl, rfl, trivial⟩ (by repeat (first | exact Ent.nil _ | exact Ent.refl _ | (apply Ent.cons; case p => repeat (first | exact Pick.here _ _ | apply Pick.there)) | apply Ent.drop))
      · have hE : endB ls.length i = 92 := by unfold endB; rw [if_neg (by omega)]
        repeat (first | apply ES.seq | apply ES.skip | apply ES.region | apply EL.nil | apply ES.block | apply ES.nil | apply ES.exit | apply ES.ret | apply PX.hit | (apply PX.miss; exact rfl) | apply PX.then_x | apply PX.then_r | apply PX.block_n | apply PX.block_r | refine PX.then_n (e := .normal) ?_ | refine PX.then_d ?_ | apply ES.label | apply ES.scope | apply PX.sc_n | apply PX.sc_r | apply PX.sc_x)
        exact PX.cutX () ⟨rfl, rfl, rfl, rfl, rfl, getA rfl (by rw [hE]), getA rfl (by rw [hga]), rfl, rfl, trivial⟩ (by repeat (first | exact Ent.nil _ | exact Ent.refl _ | (apply Ent.cons; case p => repeat (first | exact Pick.here _ _ | apply Pick.there)) | apply Ent.drop))
    repeat (first | apply ES.seq | apply ES.skip | apply ES.region | apply EL.nil | apply ES.block | apply ES.nil | apply ES.exit | apply ES.ret | apply PX.hit | (apply PX.miss; exact rfl) | apply PX.then_x | apply PX.then_r | apply PX.block_n | apply PX.block_r | refine PX.then_n (e := .normal) ?_ | refine PX.then_d ?_ | apply ES.label | apply ES.scope | apply PX.sc_n | apply PX.sc_r | apply PX.sc_x)
    refine EL.move rfl rfl rfl ?_
    refine EL.move rfl rfl rfl ?_
    refine EL.callP rfl rfl rfl ent23 rfl (hasSuffix_c l [endB ls.length i] (by omega)) ?_
    refine EL.not rfl rfl rfl ?_
    repeat (first | apply ES.seq | apply ES.skip | apply ES.region | apply EL.nil | apply ES.block | apply ES.nil | apply ES.exit | apply ES.ret | apply PX.hit | (apply PX.miss; exact rfl) | apply PX.then_x | apply PX.then_r | apply PX.block_n | apply PX.block_r | refine PX.then_n (e := .normal) ?_ | refine PX.then_d ?_ | apply ES.label | apply ES.scope | apply PX.sc_n | apply PX.sc_r | apply PX.sc_x)
    refine ES.condN (p := [endB ls.length i].length ≤ l.length ∧ l.drop (l.length - [endB ls.length i].length) = [endB ls.length i]) rfl (fun hns => ?_) (fun hsuf => ?_)
    · have hr := read_end ls i l hli hns
      repeat (first | apply ES.seq | apply ES.skip | apply ES.region | apply EL.nil | apply ES.block | apply ES.nil | apply ES.exit | apply ES.ret | apply PX.hit | (apply PX.miss; exact rfl) | apply PX.then_x | apply PX.then_r | apply PX.block_n | apply PX.block_r | refine PX.then_n (e := .normal) ?_ | refine PX.then_d ?_ | apply ES.label | apply ES.scope | apply PX.sc_n | apply PX.sc_r | apply PX.sc_x)
      (apply EL.storeB; exact rfl; exact rfl; exact rfl; exact rfl; exact rfl; exact rfl; (case p => (repeat (first | exact PickSet.here _ _ _ | apply PickSet.there))); exact (by first | decide | simp))
      (apply EL.storeB; exact rfl; exact rfl; exact rfl; exact rfl; exact rfl; exact rfl; (case p => (repeat (first | exact PickSet.here _ _ _ | apply PickSet.there))); exact (by first | decide | simp))
      repeat (first | apply ES.seq | apply ES.skip | apply ES.region | apply EL.nil | apply ES.block | apply ES.nil | apply ES.exit | apply ES.ret | apply PX.hit | (apply PX.miss; exact rfl) | apply PX.then_x | apply PX.then_r | apply PX.block_n | apply PX.block_r | refine PX.then_n (e := .normal) ?_ | refine PX.then_d ?_ | apply ES.label | apply ES.scope | apply PX.sc_n | apply PX.sc_r | apply PX.sc_x)
      exact PX.retM [] rfl (.nil _) Try.results17 (.cons (.blk1 rfl rfl rfl (by repeat (first | exact Mem.here _ _ | apply Mem.there)) rfl) (.cons (.blk1 rfl rfl rfl (by repeat (first | exact Mem.here _ _ | apply Mem.there)) rfl) .nil)) (fun w hs => ⟨(), by rw [hr]; rfl, hs.ent (.nil _)⟩)
    have hl1 : 1 ≤ l.length := hsuf.1
    have hdl : (l.drop 0).take (l.length - 1 - 0) = l.dropLast := by rw [List.drop_zero, Nat.sub_zero, List.dropLast_eq_take]
    repeat (first | apply ES.seq | apply ES.skip | apply ES.region | apply EL.nil | apply ES.block | apply ES.nil | apply ES.exit | apply ES.ret | apply PX.hit | (apply PX.miss; exact rfl) | apply PX.then_x | apply PX.then_r | apply PX.block_n | apply PX.block_r | refine PX.then_n (e := .normal) ?_ | refine PX.then_d ?_ | apply ES.label | apply ES.scope | apply PX.sc_n | apply PX.sc_r | apply PX.sc_x)
    refine EL.move rfl rfl rfl ?_
    refine EL.move rfl rfl rfl ?_
    refine EL.lenS rfl rfl rfl rfl rfl ?_
    refine EL.sub1 rfl rfl rfl rfl (by omega) (by omega) ?_
    refine EL.sliceS rfl rfl rfl rfl rfl rfl ⟨_, rfl⟩ (Nat.zero_le _) (by omega) ?_
    (refine EL.callM rfl rfl rfl ent24 rfl (writeString_c g4 u bad bcap ((ls.take i).flatMap List.dropLast) ((l.drop 0).take (l.length - 1 - 0)) (by rw [hdl, List.length_dropLast]; omega)) (by repeat (first | exact Takes.nil _ | (apply Takes.cons; case p => repeat (first | exact Pick.here _ _ | apply Pick.there)))) ?_; rintro ⟨ad2, cap2⟩)
    repeat (first | apply ES.seq | apply ES.skip | apply ES.region | apply EL.nil | apply ES.block | apply ES.nil | apply ES.exit | apply ES.ret | apply PX.hit | (apply PX.miss; exact rfl) | apply PX.then_x | apply PX.then_r | apply PX.block_n | apply PX.block_r | refine PX.then_n (e := .normal) ?_ | refine PX.then_d ?_ | apply ES.label | apply ES.scope | apply PX.sc_n | apply PX.sc_r | apply PX.sc_x)
    refine EL.add1 rfl rfl rfl rfl (by omega) ?_
    refine EL.move rfl rfl rfl ?_
    repeat (first | apply ES.seq | apply ES.skip | apply ES.region | apply EL.nil | apply ES.block | apply ES.nil | apply ES.exit | apply ES.ret | apply PX.hit | (apply PX.miss; exact rfl) | apply PX.then_x | apply PX.then_r | apply PX.block_n | apply PX.block_r | refine PX.then_n (e := .normal) ?_ | refine PX.then_d ?_ | apply ES.label | apply ES.scope | apply PX.sc_n | apply PX.sc_r | apply PX.sc_x)
    refine PX.loop (i + 1, true, ad2, cap2) (by simp only; omega) (by simp only; omega) ⟨rfl, rfl, rfl, rfl, rfl, rfl, rfl, trivial⟩ ?_
    dsimp only
    rw [hfl, ← hdl]
    exact (by repeat (first | exact Ent.nil _ | exact Ent.refl _ | (apply Ent.cons; case p => repeat (first | exact Pick.here _ _ | apply Pick.there)) | apply Ent.drop))
  obtain rfl : i = ls.length := by omega
  rw [List.take_length]
  have hal : (ls.flatMap List.dropLast).length ≤ (ls.map List.length).sum := by have := sum_take ls ls.length; rwa [List.take_length] at this
  have hul := unR_len (allM ls)
  obtain ⟨r, hr0⟩ : ∃ r, r = unR (allM ls) := ⟨_, rfl⟩
  have hcu := unescape_c (allM ls) (by unfold allM; omega)
  rw [← hr0] at hcu hul
  have hrl : r.1.length ≤ 1073741824 := by unfold allM at hul; omega
  repeat (first | apply ES.seq | apply ES.skip | apply ES.region | apply EL.nil | apply ES.block | apply ES.nil | apply ES.exit | apply ES.ret | apply PX.hit | (apply PX.miss; exact rfl) | apply PX.then_x | apply PX.then_r | apply PX.block_n | apply PX.block_r | refine PX.then_n (e := .normal) ?_ | refine PX.then_d ?_ | apply ES.label | apply ES.scope | apply PX.sc_n | apply PX.sc_r | apply PX.sc_x)
  refine EL.callM1 rfl rfl rfl ent26 rfl (bstring_c g4 u bad bcap (ls.flatMap List.dropLast) (by omega)) (by repeat (first | exact Takes.nil _ | (apply Takes.cons; case p => repeat (first | exact Pick.here _ _ | apply Pick.there)))) ?_
  refine EL.callP rfl rfl rfl ent25 rfl hcu ?_
  refine EL.move rfl rfl rfl ?_
  refine EL.extract rfl rfl rfl rfl ?_
  refine EL.extract rfl rfl rfl rfl ?_
  refine EL.assign rfl rfl rfl ?_
  refine EL.assign rfl rfl rfl ?_
  repeat (first | apply ES.seq | apply ES.skip | apply ES.region | apply EL.nil | apply ES.block | apply ES.nil | apply ES.exit | apply ES.ret | apply PX.hit | (apply PX.miss; exact rfl) | apply PX.then_x | apply PX.then_r | apply PX.block_n | apply PX.block_r | refine PX.then_n (e := .normal) ?_ | refine PX.then_d ?_ | apply ES.label | apply ES.scope | apply PX.sc_n | apply PX.sc_r | apply PX.sc_x)
  refine EL.move rfl rfl rfl ?_
  refine EL.not rfl rfl rfl ?_
  repeat (first | apply ES.seq | apply ES.skip | apply ES.region | apply EL.nil | apply ES.block | apply ES.nil | apply ES.exit | apply ES.ret | apply PX.hit | (apply PX.miss; exact rfl) | apply PX.then_x | apply PX.then_r | apply PX.block_n | apply PX.block_r | refine PX.then_n (e := .normal) ?_ | refine PX.then_d ?_ | apply ES.label | apply ES.scope | apply PX.sc_n | apply PX.sc_r | apply PX.sc_x)
  refine ES.cond rfl (fun hno => ?_) (fun hyes => ?_)
  · have hrm : readM ls = ([], 19) := by
      unfold readM
      cases hx : unescM (allM ls) with
      | none => rfl
      | some t => unfold unR at hr0; rw [hx] at hr0; rw [hr0] at hno; cases hno
    repeat (first | apply ES.seq | apply ES.skip | apply ES.region | apply EL.nil | apply ES.block | apply ES.nil | apply ES.exit | apply ES.ret | apply PX.hit | (apply PX.miss; exact rfl) | apply PX.then_x | apply PX.then_r | apply PX.block_n | apply PX.block_r | refine PX.then_n (e := .normal) ?_ | refine PX.then_d ?_ | apply ES.label | apply ES.scope | apply PX.sc_n | apply PX.sc_r | apply PX.sc_x)
    (apply EL.storeB; exact rfl; exact rfl; exact rfl; exact rfl; exact rfl; exact rfl; (case p => (repeat (first | exact PickSet.here _ _ _ | apply PickSet.there))); exact (by first | decide | simp))
    (apply EL.storeB; exact rfl; exact rfl; exact rfl; exact rfl; exact rfl; exact rfl; (case p => (repeat (first | exact PickSet.here _ _ _ | apply PickSet.there))); exact (by first | decide | simp))
    repeat (first | apply ES.seq | apply ES.skip | apply ES.region | apply EL.nil | apply ES.block | apply ES.nil | apply ES.exit | apply ES.ret | apply PX.hit | (apply PX.miss; exact rfl) | apply PX.then_x | apply PX.then_r | apply PX.block_n | apply PX.block_r | refine PX.then_n (e := .normal) ?_ | refine PX.then_d ?_ | apply ES.label | apply ES.scope | apply PX.sc_n | apply PX.sc_r | apply PX.sc_x)
    exact PX.retM [] rfl (.nil _) Try.results17 (.cons (.blk1 rfl rfl rfl (by repeat (first | exact Mem.here _ _ | apply Mem.there)) rfl) (.cons (.blk1 rfl rfl rfl (by repeat (first | exact Mem.here _ _ | apply Mem.there)) rfl) .nil)) (fun w hs => ⟨(), by rw [hrm]; rfl, hs.ent (.nil _)⟩)
  obtain ⟨t, ht⟩ : ∃ t, t = r.1 := ⟨_, rfl⟩
  have hrm : readM ls = if linesM t = ls then (t, 0) else ([], 19) := by
    unfold readM
    cases hx : unescM (allM ls) with
    | none => unfold unR at hr0; rw [hx] at hr0; rw [hr0] at hyes; cases hyes
    | some t' => unfold unR at hr0; rw [hx] at hr0; rw [hr0] at ht; simp only at ht ⊢; rw [ht]
  rw [← ht] at hrl
  rw [← ht]
  repeat (first | apply ES.seq | apply ES.skip | apply ES.region | apply EL.nil | apply ES.block | apply ES.nil | apply ES.exit | apply ES.ret | apply PX.hit | (apply PX.miss; exact rfl) | apply PX.then_x | apply PX.then_r | apply PX.block_n | apply PX.block_r | refine PX.then_n (e := .normal) ?_ | refine PX.then_d ?_ | apply ES.label | apply ES.scope | apply PX.sc_n | apply PX.sc_r | apply PX.sc_x)
  (refine EL.alloc rfl rfl rfl ?_; intro g10)
  (apply EL.storeB; exact rfl; exact rfl; exact rfl; exact rfl; exact rfl; exact rfl; (case p => (repeat (first | exact PickSet.here _ _ _ | apply PickSet.there))); exact (by first | decide | simp))
  repeat (first | apply ES.seq | apply ES.skip | apply ES.region | apply EL.nil | apply ES.block | apply ES.nil | apply ES.exit | apply ES.ret | apply PX.hit | (apply PX.miss; exact rfl) | apply PX.then_x | apply PX.then_r | apply PX.block_n | apply PX.block_r | refine PX.then_n (e := .normal) ?_ | refine PX.then_d ?_ | apply ES.label | apply ES.scope | apply PX.sc_n | apply PX.sc_r | apply PX.sc_x)
  refine EL.move rfl rfl rfl ?_
  (refine EL.callX rfl rfl rfl ent21 rfl (all_c t) ?_; intro gc)
  repeat (first | apply ES.seq | apply ES.skip | apply ES.region | apply EL.nil | apply ES.block | apply ES.nil | apply ES.exit | apply ES.ret | apply PX.hit | (apply PX.miss; exact rfl) | apply PX.then_x | apply PX.then_r | apply PX.block_n | apply PX.block_r | refine PX.then_n (e := .normal) ?_ | refine PX.then_d ?_ | apply ES.label | apply ES.scope | apply PX.sc_n | apply PX.sc_r | apply PX.sc_x)
  refine ES.rangeFunc (σ := Nat) (τ := Unit) (fun i j => j = i ∧ j ≤ ls.length ∧ ls.take j = (linesM t).take j ∧ j ≤ (linesM t).length) (fun j => [HA.blk g10 (.cells #[Iv j] 3), HA.blk g1 (.cells #[.slice ad ls.length cap] 22), HA.blk g2 (.cells #[Sv []] 9), HA.blk g3 (.cells #[Iv 0] 30)])
    (fun c _ _ => c = .ret ∧ linesM t ≠ ls) (fun _ => [HA.blk g2 (.cells #[Sv []] 9), HA.blk g3 (.cells #[Iv 19] 30)]) 0 ⟨rfl, Nat.zero_le _, by simp, Nat.zero_le _⟩
    rfl rfl ent28 (all1_iter gc t (by omega) _ _) (by repeat (first | exact Takes.nil _ | (apply Takes.cons; case p => repeat (first | exact Pick.here _ _ | apply Pick.there)))) (by repeat (first | exact Takes.nil _ | (apply Takes.cons; case p => repeat (first | exact Pick.here _ _ | apply Pick.there)))) (by intro x hx; obtain ⟨_, _, rfl⟩ := List.mem_map.1 hx; rfl) rfl ?_ (fun D j hj => ?_) (fun D c i _ hc => ?_)
  · rintro l i j x R1 ⟨rfl, hjl, hjt, hjn⟩ hx
    obtain ⟨ln, hln, rfl⟩ : ∃ ln, (linesM t)[j]? = some ln ∧ x = [Sv ln] := by
      rw [List.getElem?_map] at hx
      obtain ⟨ln, h1, h2⟩ := Option.map_eq_some_iff.1 hx
      exact ⟨ln, h1, h2.symm⟩
    have hlt : j < (linesM t).length := (List.getElem?_eq_some_iff.1 hln).1
    repeat (first | apply ES.seq | apply ES.skip | apply ES.region | apply EL.nil | apply ES.block | apply ES.nil | apply ES.exit | apply ES.ret | apply PX.hit | (apply PX.miss; exact rfl) | apply PX.then_x | apply PX.then_r | apply PX.block_n | apply PX.block_r | refine PX.then_n (e := .normal) ?_ | refine PX.then_d ?_ | apply ES.label | apply ES.scope | apply PX.sc_n | apply PX.sc_r | apply PX.sc_x)
    refine EL.assign rfl rfl rfl ?_
    repeat (first | apply ES.seq | apply ES.skip | apply ES.region | apply EL.nil | apply ES.block | apply ES.nil | apply ES.exit | apply ES.ret | apply PX.hit | (apply PX.miss; exact rfl) | apply PX.then_x | apply PX.then_r | apply PX.block_n | apply PX.block_r | refine PX.then_n (e := .normal) ?_ | refine PX.then_d ?_ | apply ES.label | apply ES.scope | apply PX.sc_n | apply PX.sc_r | apply PX.sc_x)
    refine PX.assigned [(11, Sv ln), (1, Pv g1 0), (2, Pv g2 0), (3, Pv g3 0), (10, Pv g10 0)] [HA.blk g10 (.cells #[Iv j] 3), HA.blk g1 (.cells #[.slice ad ls.length cap] 22), HA.blk g2 (.cells #[Sv []] 9), HA.blk g3 (.cells #[Iv 0] 30)] ⟨rfl, rfl, rfl, rfl, rfl, trivial⟩ (by repeat (first | exact Ent.nil _ | exact Ent.refl _ | (apply Ent.cons; case p => repeat (first | exact Pick.here _ _ | apply Pick.there)) | apply Ent.drop)) (fun R2 => ?_)
    repeat (first | apply ES.seq | apply ES.skip | apply ES.region | apply EL.nil | apply ES.block | apply ES.nil | apply ES.exit | apply ES.ret | apply PX.hit | (apply PX.miss; exact rfl) | apply PX.then_x | apply PX.then_r | apply PX.block_n | apply PX.block_r | refine PX.then_n (e := .normal) ?_ | refine PX.then_d ?_ | apply ES.label | apply ES.scope | apply PX.sc_n | apply PX.sc_r | apply PX.sc_x)
    refine EL.cut [(56, .bool (decide (¬ (j < ls.length ∧ ls.getD j [] = ln)))), (1, Pv g1 0), (2, Pv g2 0), (3, Pv g3 0), (10, Pv g10 0)] ([HA.blk g10 (.cells #[Iv j] 3), HA.blk g1 (.cells #[.slice ad ls.length cap] 22), HA.blk g2 (.cells #[Sv []] 9), HA.blk g3 (.cells #[Iv 0] 30)] ++ R2) ?_ ?_
    · by_cases hjj : j < ls.length
      · have hget : (ls.map Sv)[j]? = some (Sv (ls.getD j [])) := getElem?_map Sv ls j [] hjj
        have hrd' := hrd
        obtain ⟨ga, oa, hga, _⟩ := hrd' (fun e => by rw [e] at hget; simp at hget)
        rw [hga] at hrd
        repeat (first | apply ES.seq | apply ES.skip | apply ES.region | apply EL.nil | apply ES.block | apply ES.nil | apply ES.exit | apply ES.ret | apply PX.hit | (apply PX.miss; exact rfl) | apply PX.then_x | apply PX.then_r | apply PX.block_n | apply PX.block_r | refine PX.then_n (e := .normal) ?_ | refine PX.then_d ?_ | apply ES.label | apply ES.scope | apply PX.sc_n | apply PX.sc_r | apply PX.sc_x)
        (apply EL.loadB; exact rfl; exact rfl; exact rfl; exact rfl; exact rfl; (case hm => (repeat (first | exact Mem.here _ _ | apply Mem.there))); exact rfl)
        (apply EL.loadB; exact rfl; exact rfl; exact rfl; exact rfl; exact rfl; (case hm => (repeat (first | exact Mem.here _ _ | apply Mem.there))); exact rfl)
        refine EL.lenL rfl rfl rfl rfl rfl ?_
        refine EL.geq rfl rfl rfl rfl ?_
        refine EL.move rfl rfl rfl ?_
        refine EL.rew (d := 49) (v' := .bool false) rfl (congrArg Value.bool (decide_eq_false (by omega))) ?_
        (apply EL.loadB; exact rfl; exact rfl; exact rfl; exact rfl; exact rfl; (case hm => (repeat (first | exact Mem.here _ _ | apply Mem.there))); exact rfl)
        (apply EL.loadB; exact rfl; exact rfl; exact rfl; exact rfl; exact rfl; (case hm => (repeat (first | exact Mem.here _ _ | apply Mem.there))); exact rfl)
        (refine EL.rew (d := 50) rfl (by rw [hga]) ?_; refine EL.indexAddrLo rfl rfl rfl rfl rfl rfl rfl rfl hjj ?_)
        refine EL.loadOld rfl rfl rfl rfl rfl hrd hget ?_
        refine EL.move rfl rfl rfl ?_
        refine EL.neqS rfl rfl rfl rfl ?_
        refine EL.pickF rfl rfl rfl rfl ?_
        repeat (first | apply ES.seq | apply ES.skip | apply ES.region | apply EL.nil | apply ES.block | apply ES.nil | apply ES.exit | apply ES.ret | apply PX.hit | (apply PX.miss; exact rfl) | apply PX.then_x | apply PX.then_r | apply PX.block_n | apply PX.block_r | refine PX.then_n (e := .normal) ?_ | refine PX.then_d ?_ | apply ES.label | apply ES.scope | apply PX.sc_n | apply PX.sc_r | apply PX.sc_x)
        exact EL.endK ⟨getB rfl (by rw [Bool.eq_iff_iff]; simp [hjj]), rfl, rfl, rfl, rfl, trivial⟩ (by repeat (first | exact Ent.nil _ | exact Ent.refl _ | (apply Ent.cons; case p => repeat (first | exact Pick.here _ _ | apply Pick.there)) | apply Ent.drop))
      · repeat (first | apply ES.seq | apply ES.skip | apply ES.region | apply EL.nil | apply ES.block | apply ES.nil | apply ES.exit | apply ES.ret | apply PX.hit | (apply PX.miss; exact rfl) | apply PX.then_x | apply PX.then_r | apply PX.block_n | apply PX.block_r | refine PX.then_n (e := .normal) ?_ | refine PX.then_d ?_ | apply ES.label | apply ES.scope | apply PX.sc_n | apply PX.sc_r | apply PX.sc_x)
        (apply EL.loadB; exact rfl; exact rfl; exact rfl; exact rfl; exact rfl; (case hm => (repeat (first | exact Mem.here _ _ | apply Mem.there))); exact rfl)
        (apply EL.loadB; exact rfl; exact rfl; exact rfl; exact rfl; exact rfl; (case hm => (repeat (first | exact Mem.here _ _ | apply Mem.there))); exact rfl)
        refine EL.lenL rfl rfl rfl rfl rfl ?_
        refine EL.geq rfl rfl rfl rfl ?_
        refine EL.move rfl rfl rfl ?_
        refine EL.rew (d := 49) (v' := .bool true) rfl (congrArg Value.bool (decide_eq_true (by omega))) ?_
        refine EL.pass rfl rfl rfl ?_
        refine EL.pass rfl rfl rfl ?_
        refine EL.pass rfl rfl rfl ?_
        refine EL.pass rfl rfl rfl ?_
        refine EL.pass rfl rfl rfl ?_
        refine EL.pass rfl rfl rfl ?_
        refine EL.pickT rfl rfl rfl rfl ?_
        repeat (first | apply ES.seq | apply ES.skip | apply ES.region | apply EL.nil | apply ES.block | apply ES.nil | apply ES.exit | apply ES.ret | apply PX.hit | (apply PX.miss; exact rfl) | apply PX.then_x | apply PX.then_r | apply PX.block_n | apply PX.block_r | refine PX.then_n (e := .normal) ?_ | refine PX.then_d ?_ | apply ES.label | apply ES.scope | apply PX.sc_n | apply PX.sc_r | apply PX.sc_x)
        exact EL.endK ⟨getB rfl (by simp [hjj]), rfl, rfl, rfl, rfl, trivial⟩ (by repeat (first | exact Ent.nil _ | exact Ent.refl _ | (apply Ent.cons; case p => repeat (first | exact Pick.here _ _ | apply Pick.there)) | apply Ent.drop))
    refine ES.condD rfl (fun hbad => ?_) (fun hgood => ?_)
    · have hne : linesM t ≠ ls := fun e => by
        subst e
        refine hbad ⟨hlt, ?_⟩
        rw [List.getD_eq_getElem?_getD, hln]; rfl
      repeat (first | apply ES.seq | apply ES.skip | apply ES.region | apply EL.nil | apply ES.block | apply ES.nil | apply ES.exit | apply ES.ret | apply PX.hit | (apply PX.miss; exact rfl) | apply PX.then_x | apply PX.then_r | apply PX.block_n | apply PX.block_r | refine PX.then_n (e := .normal) ?_ | refine PX.then_d ?_ | apply ES.label | apply ES.scope | apply PX.sc_n | apply PX.sc_r | apply PX.sc_x)
      (apply EL.storeB; exact rfl; exact rfl; exact rfl; exact rfl; exact rfl; exact rfl; (case p => (repeat (first | exact PickSet.here _ _ _ | apply PickSet.there))); exact (by first | decide | simp))
      (apply EL.storeB; exact rfl; exact rfl; exact rfl; exact rfl; exact rfl; exact rfl; (case p => (repeat (first | exact PickSet.here _ _ _ | apply PickSet.there))); exact (by first | decide | simp))
      repeat (first | apply ES.seq | apply ES.skip | apply ES.region | apply EL.nil | apply ES.block | apply ES.nil | apply ES.exit | apply ES.ret | apply PX.hit | (apply PX.miss; exact rfl) | apply PX.then_x | apply PX.then_r | apply PX.block_n | apply PX.block_r | refine PX.then_n (e := .normal) ?_ | refine PX.then_d ?_ | apply ES.label | apply ES.scope | apply PX.sc_n | apply PX.sc_r | apply PX.sc_x)
      exact PX.roundR () ⟨rfl, hne⟩ (by repeat (first | exact Ent.nil _ | exact Ent.refl _ | (apply Ent.cons; case p => repeat (first | exact Pick.here _ _ | apply Pick.there)) | apply Ent.drop))
    · have hg := Classical.not_not.1 hgood
      have hj1 : ls.take (j + 1) = (linesM t).take (j + 1) := by
        rw [take_snoc ls j [] hg.1, take_snoc (linesM t) j [] hlt, hjt, hg.2]
        congr 2
        rw [List.getD_eq_getElem?_getD, hln]; rfl
      repeat (first | apply ES.seq | apply ES.skip | apply ES.region | apply EL.nil | apply ES.block | apply ES.nil | apply ES.exit | apply ES.ret | apply PX.hit | (apply PX.miss; exact rfl) | apply PX.then_x | apply PX.then_r | apply PX.block_n | apply PX.block_r | refine PX.then_n (e := .normal) ?_ | refine PX.then_d ?_ | apply ES.label | apply ES.scope | apply PX.sc_n | apply PX.sc_r | apply PX.sc_x)
      (apply EL.loadB; exact rfl; exact rfl; exact rfl; exact rfl; exact rfl; (case hm => (repeat (first | exact Mem.here _ _ | apply Mem.there))); exact rfl)
      refine EL.add1 rfl rfl rfl rfl (by omega) ?_
      (apply EL.storeB; exact rfl; exact rfl; exact rfl; exact rfl; exact rfl; exact rfl; (case p => (repeat (first | exact PickSet.here _ _ _ | apply PickSet.there))); exact (by first | decide | simp))
      repeat (first | apply ES.seq | apply ES.skip | apply ES.region | apply EL.nil | apply ES.block | apply ES.nil | apply ES.exit | apply ES.ret | apply PX.hit | (apply PX.miss; exact rfl) | apply PX.then_x | apply PX.then_r | apply PX.block_n | apply PX.block_r | refine PX.then_n (e := .normal) ?_ | refine PX.then_d ?_ | apply ES.label | apply ES.scope | apply PX.sc_n | apply PX.sc_r | apply PX.sc_x)
      exact PX.round (j + 1) ⟨rfl, by omega, hj1, by omega⟩ (by repeat (first | exact Ent.nil _ | exact Ent.refl _ | (apply Ent.cons; case p => repeat (first | exact Pick.here _ _ | apply Pick.there)) | apply Ent.drop))
  · obtain ⟨hj0, hjl, hjt, hjn⟩ := hj
    rw [List.length_map] at hj0
    subst hj0
    repeat (first | apply ES.seq | apply ES.skip | apply ES.region | apply EL.nil | apply ES.block | apply ES.nil | apply ES.exit | apply ES.ret | apply PX.hit | (apply PX.miss; exact rfl) | apply PX.then_x | apply PX.then_r | apply PX.block_n | apply PX.block_r | refine PX.then_n (e := .normal) ?_ | refine PX.then_d ?_ | apply ES.label | apply ES.scope | apply PX.sc_n | apply PX.sc_r | apply PX.sc_x)
    (apply EL.loadB; exact rfl; exact rfl; exact rfl; exact rfl; exact rfl; (case hm => (repeat (first | exact Mem.here _ _ | apply Mem.there))); exact rfl)
    (apply EL.loadB; exact rfl; exact rfl; exact rfl; exact rfl; exact rfl; (case hm => (repeat (first | exact Mem.here _ _ | apply Mem.there))); exact rfl)
    refine EL.lenL rfl rfl rfl rfl rfl ?_
    refine EL.neqI rfl rfl rfl rfl ?_
    repeat (first | apply ES.seq | apply ES.skip | apply ES.region | apply EL.nil | apply ES.block | apply ES.nil | apply ES.exit | apply ES.ret | apply PX.hit | (apply PX.miss; exact rfl) | apply PX.then_x | apply PX.then_r | apply PX.block_n | apply PX.block_r | refine PX.then_n (e := .normal) ?_ | refine PX.then_d ?_ | apply ES.label | apply ES.scope | apply PX.sc_n | apply PX.sc_r | apply PX.sc_x)
    refine ES.condN rfl (fun hne => ?_) (fun he => ?_)
    · have hb2 : readM ls = ([], 19) := by rw [hrm, if_neg (fun e => hne (by rw [e]))]
      repeat (first | apply ES.seq | apply ES.skip | apply ES.region | apply EL.nil | apply ES.block | apply ES.nil | apply ES.exit | apply ES.ret | apply PX.hit | (apply PX.miss; exact rfl) | apply PX.then_x | apply PX.then_r | apply PX.block_n | apply PX.block_r | refine PX.then_n (e := .normal) ?_ | refine PX.then_d ?_ | apply ES.label | apply ES.scope | apply PX.sc_n | apply PX.sc_r | apply PX.sc_x)
      (apply EL.storeB; exact rfl; exact rfl; exact rfl; exact rfl; exact rfl; exact rfl; (case p => (repeat (first | exact PickSet.here _ _ _ | apply PickSet.there))); exact (by first | decide | simp))
      (apply EL.storeB; exact rfl; exact rfl; exact rfl; exact rfl; exact rfl; exact rfl; (case p => (repeat (first | exact PickSet.here _ _ _ | apply PickSet.there))); exact (by first | decide | simp))
      repeat (first | apply ES.seq | apply ES.skip | apply ES.region | apply EL.nil | apply ES.block | apply ES.nil | apply ES.exit | apply ES.ret | apply PX.hit | (apply PX.miss; exact rfl) | apply PX.then_x | apply PX.then_r | apply PX.block_n | apply PX.block_r | refine PX.then_n (e := .normal) ?_ | refine PX.then_d ?_ | apply ES.label | apply ES.scope | apply PX.sc_n | apply PX.sc_r | apply PX.sc_x)
      exact PX.retM [D] rfl (by repeat (first | exact Takes.nil _ | (apply Takes.cons; case p => repeat (first | exact Pick.here _ _ | apply Pick.there)))) Try.results17 (.cons (.blk1 rfl rfl rfl (by repeat (first | exact Mem.here _ _ | apply Mem.there)) rfl) (.cons (.blk1 rfl rfl rfl (by repeat (first | exact Mem.here _ _ | apply Mem.there)) rfl) .nil)) (fun w hs => ⟨(), by rw [hb2]; rfl, hs.ent (.nil _)⟩)
    · have heq : linesM t = ls := by
        have hl : (linesM t).length = ls.length := by omega
        rw [List.take_length, hl, List.take_length] at hjt
        exact hjt.symm
      have hb2 : readM ls = (t, 0) := by rw [hrm, if_pos heq]
      repeat (first | apply ES.seq | apply ES.skip | apply ES.region | apply EL.nil | apply ES.block | apply ES.nil | apply ES.exit | apply ES.ret | apply PX.hit | (apply PX.miss; exact rfl) | apply PX.then_x | apply PX.then_r | apply PX.block_n | apply PX.block_r | refine PX.then_n (e := .normal) ?_ | refine PX.then_d ?_ | apply ES.label | apply ES.scope | apply PX.sc_n | apply PX.sc_r | apply PX.sc_x)
      refine EL.move rfl rfl rfl ?_
      (apply EL.storeB; exact rfl; exact rfl; exact rfl; exact rfl; exact rfl; exact rfl; (case p => (repeat (first | exact PickSet.here _ _ _ | apply PickSet.there))); exact (by first | decide | simp))
      (apply EL.storeB; exact rfl; exact rfl; exact rfl; exact rfl; exact rfl; exact rfl; (case p => (repeat (first | exact PickSet.here _ _ _ | apply PickSet.there))); exact (by first | decide | simp))
      repeat (first | apply ES.seq | apply ES.skip | apply ES.region | apply EL.nil | apply ES.block | apply ES.nil | apply ES.exit | apply ES.ret | apply PX.hit | (apply PX.miss; exact rfl) | apply PX.then_x | apply PX.then_r | apply PX.block_n | apply PX.block_r | refine PX.then_n (e := .normal) ?_ | refine PX.then_d ?_ | apply ES.label | apply ES.scope | apply PX.sc_n | apply PX.sc_r | apply PX.sc_x)
      exact PX.retM [D] rfl (by repeat (first | exact Takes.nil _ | (apply Takes.cons; case p => repeat (first | exact Pick.here _ _ | apply Pick.there)))) Try.results17 (.cons (.blk1 rfl rfl rfl (by repeat (first | exact Mem.here _ _ | apply Mem.there)) rfl) (.cons (.blk1 rfl rfl rfl (by repeat (first | exact Mem.here _ _ | apply Mem.there)) rfl) .nil)) (fun w hs => ⟨(), by rw [hb2]; rfl, hs.ent (.nil _)⟩)
  · obtain ⟨rfl, hne⟩ := hc
    have hb2 : readM ls = ([], 19) := by rw [hrm, if_neg hne]
    repeat (first | apply ES.seq | apply ES.skip | apply ES.region | apply EL.nil | apply ES.block | apply ES.nil | apply ES.exit | apply ES.ret | apply PX.hit | (apply PX.miss; exact rfl) | apply PX.then_x | apply PX.then_r | apply PX.block_n | apply PX.block_r | refine PX.then_n (e := .normal) ?_ | refine PX.then_d ?_ | apply ES.label | apply ES.scope | apply PX.sc_n | apply PX.sc_r | apply PX.sc_x)
    exact PX.retM [D] rfl (by repeat (first | exact Takes.nil _ | (apply Takes.cons; case p => repeat (first | exact Pick.here _ _ | apply Pick.there)))) Try.results17 (.cons (.blk1 rfl rfl rfl (by repeat (first | exact Mem.here _ _ | apply Mem.there)) rfl) (.cons (.blk1 rfl rfl rfl (by repeat (first | exact Mem.here _ _ | apply Mem.there)) rfl) .nil)) (fun w hs => ⟨(), by rw [hb2]; rfl, hs.ent (.nil _)⟩)
end Go.Proofs.Ytjjifcfcomhdcaa
