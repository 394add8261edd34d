/- Texts of this claim, bundled. -/
import Derived.Test.YtblpgpgbnlhjlaaZo5
namespace Go.Proofs.Ytblpgpgbnlhjlaa
open Go Go.RowKit Sl
set_option maxRecDepth 100000
set_option maxHeartbeats 8000000
set_option linter.unusedVariables false
set_option linter.unusedSimpArgs false
attribute [local irreducible] ES EL PX wps
abbrev CB (gc gm : Nat) (s : List UInt8) : HA := HA.blk gc (.cells #[Sv s, .map (some gm)] 88)
abbrev MH (gm : Nat) (es : List ME) : HA := HA.memo gm 3 es
abbrev VR (g cap n : Nat) (v : Row) : HA := HA.row (.slice (some ⟨g, 0, none⟩) (n + 1) cap) 3 1 (n + 1) (rowC v n)
theorem keyW : KeyTy Try.prog TB 153 1 := ⟨_, _, _, _, _, _, rfl, rfl, sth153, rfl, rfl, rfl, by decide, rfl, rfl, ⟨⟨_, rfl, rfl⟩, rfl, rfl, trivial⟩, rfl⟩
structure EntOk (w0 : World) (B : Nat) (s : List UInt8) (m : ME) (r : RE) (at_ : Nat) : Prop where
  node : NodeRd w0 B m.key.g m.key.off r
  is : m.key.is = [(at_ : Int)]
  le : at_ ≤ s.length
  val : ∃ gb cap, m.val = .slice (some ⟨gb, 0, none⟩) (s.length + 1) cap
  cells : m.cells = rowC (rowW s r at_) s.length
def MemoOk (w0 : World) (B : Nat) (s : List UInt8) (es : List ME) : Prop := ∀ m ∈ es, ∃ r a, EntOk w0 B s m r a
structure GrowV (w0 : World) (B : Nat) (s : List UInt8) (es : List ME) (b : Nat) where
  es' : List ME
  new : List ME
  eq : es' = es ++ new
  ok : MemoOk w0 B s es'
  small : ∀ m ∈ new, ∃ r a, EntOk w0 B s m r a ∧ r.sz ≤ b
def GrowV.zero {w0 : World} {B : Nat} {s : List UInt8} {es : List ME} {b : Nat} (h : MemoOk w0 B s es) : GrowV w0 B s es b := ⟨es, [], by simp, h, by simp⟩
def GrowV.trans {w0 : World} {B : Nat} {s : List UInt8} {es : List ME} {b c : Nat} (x : GrowV w0 B s es b) (y : GrowV w0 B s x.es' c) (h : c ≤ b) : GrowV w0 B s es b :=
  ⟨y.es', x.new ++ y.new, y.eq.trans ((congrArg (· ++ y.new) x.eq).trans (List.append_assoc _ _ _)), y.ok, fun m hm => by
    rcases List.mem_append.1 hm with hm | hm
    · exact x.small m hm
    · obtain ⟨r, a, h1, h2⟩ := y.small m hm
      exact ⟨r, a, h1, by omega⟩⟩
def GrowV.wide {w0 : World} {B : Nat} {s : List UInt8} {es : List ME} {b c : Nat} (x : GrowV w0 B s es b) (h : b ≤ c) : GrowV w0 B s es c :=
  ⟨x.es', x.new, x.eq, x.ok, fun m hm => by
    obtain ⟨r, a, h1, h2⟩ := x.small m hm
    exact ⟨r, a, h1, by omega⟩⟩
structure RowX (w0 : World) (B : Nat) (s : List UInt8) (es : List ME) (r : RE) (a : Nat) where
  G : GrowV w0 B s es r.sz
  m : ME
  mem : m ∈ G.es'
  ent : EntOk w0 B s m r a
def RowCt (s : List UInt8) (gc gm : Nat) (w0 : World) (B : Nat) (r : RE) (g off : Nat) : Prop :=
  ∀ (a : Nat) (es : List ME), a ≤ s.length → MemoOk w0 B s es → MutAt Try.prog 41 #[Pv gc 0, Pv g off, Iv (a : Nat)] [CB gc gm s, MH gm es] (fun x : RowX w0 B s es r a => x.m.val) (fun x => [CB gc gm s, MH gm x.G.es']) w0 B
structure ThrX (w0 : World) (B : Nat) (s : List UInt8) (es : List ME) (r : RE) where
  G : GrowV w0 B s es r.sz
  g : Nat
  cap : Nat
theorem none_c (v : Row) (n : Nat) (hn : n ≤ 1073741824) (ad : Option Addr) (cap : Nat) (w : World) (hrd : Rd w w.heap.size ad (rowC v n)) : Pure Try.prog 84 #[.slice ad (n + 1) cap] (fun _ : Unit => .bool (noneR n v)) (fun _ => []) w := by
  obtain ⟨g, off, rfl, _⟩ := hrd (fun e => by have := rowC_len v n; rw [e] at this; simp at this)
  have hiff := noneR_iff n v
  refine calls_of_ES TB Try.func84 rfl _ Try.ntmps84 rfl (Sat.start w) ?_
  refine .go ?_; repeat constructor
  refine EL.assign rfl rfl rfl ?_
  refine .go ?_; repeat constructor
  refine EL.move rfl rfl rfl ?_
  refine EL.lenL rfl rfl rfl rfl rfl ?_
  refine EL.move rfl rfl rfl ?_
  refine .go ?_; repeat constructor
  refine ES.loop (σ := Nat) (fun i => i ≤ n + 1 ∧ ∀ q, q < i → v q = 0) (fun i => [(5, .slice (some ⟨g, off, none⟩) (n + 1) cap), (6, Iv ((n + 1 : Nat) : Int)), (7, Iv (i : Nat))]) (fun _ => []) (fun i => n + 1 - i) 0 ⟨Nat.zero_le _, fun q h => by omega⟩ ⟨rfl, rfl, rfl, trivial⟩ (.i (by repeat constructor)) ?_
  rintro i ⟨hi, hz⟩
  dsimp only at hi hz ⊢
  refine .go ?_; repeat constructor
  refine EL.lss rfl rfl rfl rfl ?_
  refine .go ?_; repeat constructor
  refine ES.condD rfl (fun hlt => ?_) (fun hge => ?_)
  · refine .go ?_; repeat constructor
    refine EL.indexAddrLo rfl rfl rfl rfl rfl rfl rfl rfl (by omega) ?_
    refine EL.loadOld rfl rfl rfl rfl rfl hrd (rowC_get v (by omega)) ?_
    refine EL.assign rfl rfl rfl ?_
    refine .go ?_; repeat constructor
    refine EL.move rfl rfl rfl ?_
    refine EL.neqI rfl rfl rfl rfl ?_
    refine .go ?_; repeat constructor
    refine ES.condN rfl (fun hne => ?_) (fun he => ?_)
    · have hf : noneR n v = false := by
        rw [Bool.eq_false_iff, ne_eq, hiff]
        intro h
        exact hne (by rw [h i (by omega)]; rfl)
      rw [hf]
      refine .go ?_; repeat constructor
      refine EL.assign rfl rfl rfl ?_
      refine .go ?_; repeat constructor
      exact PX.ret rfl Try.results84 (.cons (.tmp rfl) .nil) (fun w hs => ⟨(), rfl, hs.ent (.i (by repeat constructor))⟩)
    · refine .go ?_; repeat constructor
      refine EL.add1 rfl rfl rfl rfl (by omega) ?_
      refine EL.move rfl rfl rfl ?_
      refine .go ?_; repeat constructor
      refine PX.loop (i + 1) ⟨by omega, fun q hq => ?_⟩ (by omega) ⟨rfl, rfl, rfl, trivial⟩ (.i (by repeat constructor))
      rcases Nat.lt_or_ge q i with h | h
      · exact hz q h
      · obtain rfl : q = i := by omega
        omega
  · have ht : noneR n v = true := hiff.2 (fun q hq => hz q (by omega))
    rw [ht]
    refine .go ?_; repeat constructor
    refine EL.assign rfl rfl rfl ?_
    refine .go ?_; repeat constructor
    exact PX.ret rfl Try.results84 (.cons (.tmp rfl) .nil) (fun w hs => ⟨(), rfl, hs.ent (.i (by repeat constructor))⟩)
theorem VR_eq {g cap n : Nat} {u v : Row} (h : rowC u n = rowC v n) : VR g cap n u = VR g cap n v := congrArg (HA.row (.slice (some ⟨g, 0, none⟩) (n + 1) cap) 3 1 (n + 1)) h
theorem if_row (n : Nat) (u v : Row) (j x : Nat) (hx : x = u j) : rowC (updR (fun q => if q < j then u q else v q) j x) n = rowC (fun q => if q < j + 1 then u q else v q) n := rowC_ext (fun q _ => by
  show (if q = j then x else if q < j then u q else v q) = if q < j + 1 then u q else v q
  subst hx
  rcases Nat.lt_trichotomy q j with h | h | h
  · rw [if_neg (by omega), if_pos h, if_pos (by omega)]
  · subst h; rw [if_pos rfl, if_pos (by omega)]
  · rw [if_neg (by omega), if_neg (by omega), if_neg (by omega)])
theorem if_row_keep (n : Nat) (u v : Row) (j : Nat) (hx : u j = v j) : rowC (fun q => if q < j then u q else v q) n = rowC (fun q => if q < j + 1 then u q else v q) n := rowC_ext (fun q _ => by
  show (if q < j then u q else v q) = if q < j + 1 then u q else v q
  rcases Nat.lt_trichotomy q j with h | h | h
  · rw [if_pos h, if_pos (by omega)]
  · subst h; rw [if_neg (by omega), if_pos (by omega), hx]
  · rw [if_neg (by omega), if_neg (by omega)])
theorem through_c (s : List UInt8) (hs : s.length ≤ 1024) (gc gm : Nat) (w0 : World) (B : Nat) (r : RE) (g off : Nat) (hrow : RowCt s gc gm w0 B r g off) (vg vcap : Nat) (vr : Row) (more : Bool) (es : List ME) (hv : ∀ q, vr q ≤ 4097) (hok : MemoOk w0 B s es) :
    MutAt Try.prog 62 #[Pv gc 0, .slice (some ⟨vg, 0, none⟩) (s.length + 1) vcap, Pv g off, .bool more] [CB gc gm s, MH gm es, VR vg vcap s.length vr] (fun x : ThrX w0 B s es r => .slice (some ⟨x.g, 0, none⟩) (s.length + 1) x.cap)
      (fun x => [CB gc gm s, MH gm x.G.es', VR x.g x.cap s.length (thrR capW s.length (rowW s r) vr more)]) w0 B := by
  intro R w h
  replace h : Sat w0 B (CB gc gm s :: MH gm es :: VR vg vcap s.length vr :: R) w := h
  obtain ⟨n, hn⟩ : ∃ n, n = s.length := ⟨_, rfl⟩
  have hf : ∀ p q, rowW s r p q ≤ 4097 := fun p q => row_le s r p q
  refine calls_of_ES TB Try.func62 rfl _ Try.ntmps62 rfl h ?_
  refine .go ?_; repeat constructor
  refine EL.assign rfl rfl rfl ?_
  refine .go ?_; repeat constructor
  refine EL.move rfl rfl rfl ?_
  refine EL.lenL rfl rfl rfl rfl rfl ?_
  refine EL.makeSlice (n := s.length + 1) rfl rfl rfl rfl rfl rfl (by first | omega | (show 1 * _ ≤ _; omega) | (show 8 * _ ≤ _; omega) | (show 16 * _ ≤ _; omega) | (show 24 * _ ≤ _; omega) | (show _ * 1 ≤ _; omega) | (show _ * 8 ≤ _; omega) | (show _ * 16 ≤ _; omega) | (show _ * 24 ≤ _; omega) | exact Nat.le_trans (Nat.mul_le_mul_right _ (show _ ≤ 1073741824 by omega)) (by decide)) (by unfold maxLen; omega) ?_
  intro g16
  refine EL.assign rfl rfl rfl ?_
  refine .go ?_; repeat constructor
  refine EL.move rfl rfl rfl ?_
  refine EL.lenL rfl rfl rfl rfl rfl ?_
  refine EL.move rfl rfl rfl ?_
  refine .go ?_; repeat constructor
  refine ES.rowEq (by repeat constructor) (cs' := rowC (fun q => thrGo capW (rowW s r) vr more q 0) s.length) ((made1 _ _).trans (rowC_zero _)) ?_
  refine ES.loop (σ := Nat × GrowV w0 B s es r.sz) (fun (p, G) => p ≤ s.length + 1) (fun (p, G) => [(0, Pv gc 0), (2, Pv g off), (3, .bool more), (9, .slice (some ⟨g16, 0, none⟩) (s.length + 1) (s.length + 1)), (17, .slice (some ⟨vg, 0, none⟩) (s.length + 1) vcap), (18, Iv ((s.length + 1 : Nat) : Int)), (19, Iv (p : Nat))])
    (fun (p, G) => CB gc gm s :: MH gm G.es' :: VR vg vcap s.length vr :: VR g16 (s.length + 1) s.length (fun q => thrGo capW (rowW s r) vr more q p) :: R) (fun (p, G) => s.length + 1 - p) (0, GrowV.zero hok) (Nat.zero_le _) ⟨rfl, rfl, rfl, rfl, rfl, rfl, rfl, trivial⟩ (.i (by repeat constructor)) ?_
  rintro ⟨p, G⟩ hp
  dsimp only at hp ⊢
  refine .go ?_; repeat constructor
  refine EL.lss rfl rfl rfl rfl ?_
  refine .go ?_; repeat constructor
  refine ES.condD rfl (fun hlt => ?_) (fun hge => ?_)
  · have hpn : p ≤ s.length := by omega
    refine .go ?_; repeat constructor
    refine EL.move rfl rfl rfl ?_
    refine EL.indexAddrL1 rfl rfl rfl rfl rfl rfl rfl rfl (by omega) ?_
    refine EL.loadR rfl rfl rfl rfl rfl (by repeat constructor) (rowC_get vr hpn) ?_
    refine EL.assign rfl rfl rfl ?_
    refine EL.assign rfl rfl rfl ?_
    refine .go ?_; repeat constructor
    refine EL.move rfl rfl rfl ?_
    refine EL.eqlI rfl rfl rfl rfl ?_
    refine .go ?_; repeat constructor
    refine ES.condD rfl (fun h0 => ?_) (fun hne => ?_)
    · have h0' : vr p = 0 := by omega
      refine .go ?_; repeat constructor
      refine EL.add1 rfl rfl rfl rfl (by omega) ?_
      refine EL.move rfl rfl rfl ?_
      refine .go ?_; repeat constructor
      refine PX.loop (p + 1, G) (by simp only; omega) (by simp only; omega) ⟨rfl, rfl, rfl, rfl, rfl, rfl, rfl, trivial⟩ ?_
      have e : rowC (fun q => thrGo capW (rowW s r) vr more q p) s.length = rowC (fun q => thrGo capW (rowW s r) vr more q (p + 1)) s.length := rowC_ext (fun q _ => by show _ = thrGo capW (rowW s r) vr more q (p + 1); rw [thrGo, if_pos (.inl h0')])
      dsimp only
      rw [← VR_eq (g := g16) (cap := s.length + 1) e]
      exact (.i (by repeat constructor))
    · have hvp := hv p
      refine .go ?_; repeat constructor
      refine EL.move rfl rfl rfl ?_
      refine EL.move rfl rfl rfl ?_
      refine EL.move rfl rfl rfl ?_
      (refine EL.callMw rfl rfl rfl ent41 rfl (hrow p G.es' hpn G.ok) (by repeat constructor) ?_; intro x)
      obtain ⟨gb, rcap, hxv⟩ := x.ent.val
      refine EL.rew (d := 29) (v' := .slice (some ⟨gb, 0, none⟩) (s.length + 1) rcap) rfl hxv ?_
      refine EL.lenL rfl rfl rfl rfl rfl ?_
      refine EL.move rfl rfl rfl ?_
      refine .go ?_; repeat constructor
      refine ES.loop (σ := Nat) (fun j => j ≤ s.length + 1) (fun j => [(0, Pv gc 0), (2, Pv g off), (3, .bool more), (9, .slice (some ⟨g16, 0, none⟩) (s.length + 1) (s.length + 1)), (17, .slice (some ⟨vg, 0, none⟩) (s.length + 1) vcap), (18, Iv ((s.length + 1 : Nat) : Int)), (19, Iv (p : Nat)), (10, Iv (p : Nat)), (11, Iv (vr p : Nat)), (29, .slice (some ⟨gb, 0, none⟩) (s.length + 1) rcap), (30, Iv ((s.length + 1 : Nat) : Int)), (31, Iv (j : Nat))])
        (fun j => CB gc gm s :: MH gm x.G.es' :: VR vg vcap s.length vr :: VR g16 (s.length + 1) s.length (fun q => if q < j then thrGo capW (rowW s r) vr more q (p + 1) else thrGo capW (rowW s r) vr more q p) :: R) (fun j => s.length + 1 - j) 0 (Nat.zero_le _) ⟨rfl, rfl, rfl, rfl, rfl, rfl, rfl, rfl, rfl, rfl, rfl, rfl, trivial⟩ (.i (by repeat constructor)) ?_
      intro j hj
      refine .go ?_; repeat constructor
      refine EL.lss rfl rfl rfl rfl ?_
      refine .go ?_; repeat constructor
      refine ES.condD rfl (fun hlt2 => ?_) (fun hge2 => ?_)
      · have hjn : j ≤ s.length := by omega
        have hfj := hf p j
        refine .go ?_; repeat constructor
        refine EL.move rfl rfl rfl ?_
        refine EL.indexAddrL1 rfl rfl rfl rfl rfl rfl rfl rfl (by omega) ?_
        refine EL.ofRV (RV.loadMemo rfl rfl rfl (by repeat constructor) x.mem hxv (by rw [x.ent.cells]; exact rowC_get _ hjn)) rfl rfl rfl (by intro c h; cases h) ?_
        refine EL.assign rfl rfl rfl ?_
        refine EL.assign rfl rfl rfl ?_
        refine .go ?_; repeat constructor
        refine EL.cutX (X := Unit) (fun _ => [(0, Pv gc 0), (2, Pv g off), (3, .bool more), (9, .slice (some ⟨g16, 0, none⟩) (s.length + 1) (s.length + 1)), (17, .slice (some ⟨vg, 0, none⟩) (s.length + 1) vcap), (18, Iv ((s.length + 1 : Nat) : Int)), (19, Iv (p : Nat)), (10, Iv (p : Nat)), (11, Iv (vr p : Nat)), (29, .slice (some ⟨gb, 0, none⟩) (s.length + 1) rcap), (30, Iv ((s.length + 1 : Nat) : Int)), (31, Iv (j : Nat)), (12, Iv (j : Nat)), (13, Iv (rowW s r p j : Nat)), (41, .bool (decide (more = true ∧ j = p)))])
          (fun _ => CB gc gm s :: MH gm x.G.es' :: VR vg vcap s.length vr :: VR g16 (s.length + 1) s.length (fun q => if q < j then thrGo capW (rowW s r) vr more q (p + 1) else thrGo capW (rowW s r) vr more q p) :: R) ?_ (fun _ => ?_)
        · refine .go ?_; repeat constructor
          refine EL.move rfl rfl rfl ?_
          refine EL.move rfl rfl rfl ?_
          first | refine EL.splitD (d := 37) rfl (fun hp37 => ?_) (fun hp37 => ?_) | refine EL.splitN (d := 37) rfl (fun hp37 => ?_) (fun hp37 => ?_) | refine EL.splitB (d := 37) rfl (fun hp37 => ?_) (fun hp37 => ?_)
          · refine EL.move rfl rfl rfl ?_
            refine EL.move rfl rfl rfl ?_
            refine EL.eqlI rfl rfl rfl rfl ?_
            refine EL.pickT rfl rfl rfl rfl ?_
            exact EL.endX () ⟨rfl, rfl, rfl, rfl, rfl, rfl, rfl, rfl, rfl, rfl, rfl, rfl, rfl, rfl, getA rfl (congrArg Value.bool (by simp_all <;> omega)), trivial⟩ (.i (by repeat constructor))
          · refine EL.pass rfl rfl rfl ?_
            refine EL.pass rfl rfl rfl ?_
            refine EL.pass rfl rfl rfl ?_
            refine EL.pickF rfl rfl rfl rfl ?_
            exact EL.endX () ⟨rfl, rfl, rfl, rfl, rfl, rfl, rfl, rfl, rfl, rfl, rfl, rfl, rfl, rfl, getA rfl (congrArg Value.bool (by simp_all <;> omega)), trivial⟩ (.i (by repeat constructor))
        have hstep : thrGo capW (rowW s r) vr more j (p + 1) = if vr p = 0 ∨ (more = true ∧ j = p) then thrGo capW (rowW s r) vr more j p else capW (thrGo capW (rowW s r) vr more j p + vr p * rowW s r p j) := by rw [thrGo]
        refine ES.condD rfl (fun hskip => ?_) (fun hgo => ?_)
        · rw [if_pos (.inr hskip)] at hstep
          refine .go ?_; repeat constructor
          refine EL.add1 rfl rfl rfl rfl (by omega) ?_
          refine EL.move rfl rfl rfl ?_
          refine .go ?_; repeat constructor
          refine PX.loop (j + 1) (by omega) (by omega) ⟨rfl, rfl, rfl, rfl, rfl, rfl, rfl, rfl, rfl, rfl, rfl, rfl, trivial⟩ ?_
          rw [← VR_eq (g := g16) (cap := s.length + 1) (if_row_keep _ _ _ j hstep)]
          exact (.i (by repeat constructor))
        · rw [if_neg (by rintro (h | h); exact hne (by rw [h]; rfl); exact hgo h)] at hstep
          have hmul : vr p * rowW s r p j ≤ 4097 * 4097 := Nat.mul_le_mul hvp hfj
          have hold := thr_le (rowW s r) vr more j p
          have hget : (rowC (fun q => if q < j then thrGo capW (rowW s r) vr more q (p + 1) else thrGo capW (rowW s r) vr more q p) s.length)[j]? = some (Iv (thrGo capW (rowW s r) vr more j p : Nat)) := by
            rw [rowC_get _ hjn]
            simp
          have hval : (Iv (min (((thrGo capW (rowW s r) vr more j p : Nat) : Int) + ((vr p * rowW s r p j : Nat) : Int)) 4097)) = Iv ((capW (thrGo capW (rowW s r) vr more j p + vr p * rowW s r p j) : Nat) : Int) := congrArg Iv (by unfold capW; omega)
          refine .go ?_; repeat constructor
          refine EL.move rfl rfl rfl ?_
          refine EL.move rfl rfl rfl ?_
          refine EL.move rfl rfl rfl ?_
          refine EL.move rfl rfl rfl ?_
          refine EL.indexAddrL1 rfl rfl rfl rfl rfl rfl rfl rfl (by omega) ?_
          refine EL.loadR rfl rfl rfl rfl rfl (by repeat constructor) hget ?_
          refine EL.move rfl rfl rfl ?_
          refine EL.move rfl rfl rfl ?_
          refine EL.mulN rfl rfl rfl rfl rfl (by omega) ?_
          refine EL.addN rfl rfl rfl rfl rfl (by omega) ?_
          refine EL.ofRV (RV.minI rfl rfl) rfl rfl rfl (by intro c h; cases h) ?_
          refine EL.indexAddrL1 rfl rfl rfl rfl rfl rfl rfl rfl (by omega) ?_
          (refine EL.storeR rfl rfl rfl rfl rfl rfl (by repeat constructor) (by rw [rowC_len]; omega) ?_; refine EL.rowEq (v := .slice (some ⟨g16, 0, none⟩) (s.length + 1) (s.length + 1)) (by repeat constructor) ((congrArg (fun u => (rowC _ _).set j u) hval).trans ((rowC_set _ _ hjn).trans (if_row _ _ _ _ _ hstep.symm))) ?_)
          refine .go ?_; repeat constructor
          refine EL.add1 rfl rfl rfl rfl (by omega) ?_
          refine EL.move rfl rfl rfl ?_
          refine .go ?_; repeat constructor
          exact PX.loop (j + 1) (by omega) (by omega) ⟨rfl, rfl, rfl, rfl, rfl, rfl, rfl, rfl, rfl, rfl, rfl, rfl, trivial⟩ (.i (by repeat constructor))
      · obtain rfl : j = s.length + 1 := by omega
        refine .go ?_; repeat constructor
        refine EL.add1 rfl rfl rfl rfl (by omega) ?_
        refine EL.move rfl rfl rfl ?_
        refine .go ?_; repeat constructor
        refine PX.loop (p + 1, G.trans x.G (Nat.le_refl _)) (by simp only; omega) (by simp only; omega) ⟨rfl, rfl, rfl, rfl, rfl, rfl, rfl, trivial⟩ ?_
        have e : rowC (fun q => if q < s.length + 1 then thrGo capW (rowW s r) vr more q (p + 1) else thrGo capW (rowW s r) vr more q p) s.length = rowC (fun q => thrGo capW (rowW s r) vr more q (p + 1)) s.length := rowC_ext (fun q hq => if_pos (by omega))
        dsimp only
        rw [← VR_eq (g := g16) (cap := s.length + 1) e]
        exact (.i (by repeat constructor))
  · obtain rfl : p = s.length + 1 := by omega
    refine .go ?_; repeat constructor
    refine EL.move rfl rfl rfl ?_
    refine EL.assign rfl rfl rfl ?_
    refine .go ?_; repeat constructor
    exact PX.ret rfl Try.results62 (.cons (.tmp rfl) .nil) (fun w hs => ⟨⟨G, g16, s.length + 1⟩, rfl, hs.ent (.i (by repeat constructor))⟩)
end Go.Proofs.Ytblpgpgbnlhjlaa
namespace Go.Proofs.Ytblpgpgbnlhjlaa
open Go Go.RowKit Sl
set_option maxRecDepth 100000
set_option maxHeartbeats 8000000
set_option linter.unusedVariables false
set_option linter.unusedSimpArgs false
attribute [local irreducible] ES EL PX wps
structure RSt (w0 : World) (B : Nat) (s : List UInt8) (es : List ME) (b : Nat) where
  i : Nat
  g : Nat
  cap : Nat
  v : Row
  G : GrowV w0 B s es b
structure MSt (w0 : World) (B : Nat) (s : List UInt8) (es : List ME) (b : Nat) where
  c : Nat
  g : Nat
  cap : Nat
  v : Row
  all : Row
  G : GrowV w0 B s es b
theorem repeat_c (s : List UInt8) (hs : s.length ≤ 1024) (gc gm : Nat) (w0 : World) (B : Nat) (lo : Nat) (hi : Int) (k : RE) (g off : Nat) (hfine : (RE.rep lo hi k).fine) (hn : NodeRd w0 B g off (.rep lo hi k))
    (hrow : ∀ g off, NodeRd w0 B g off k → RowCt s gc gm w0 B k g off) (vg vcap : Nat) (vr : Row) (es : List ME) (hv : ∀ q, vr q ≤ 4097) (hok : MemoOk w0 B s es) :
    MutAt Try.prog 61 #[Pv gc 0, .slice (some ⟨vg, 0, none⟩) (s.length + 1) vcap, Pv g off] [CB gc gm s, MH gm es, VR vg vcap s.length vr] (fun x : ThrX w0 B s es k => .slice (some ⟨x.g, 0, none⟩) (s.length + 1) x.cap)
      (fun x => [CB gc gm s, MH gm x.G.es', VR x.g x.cap s.length (repR capW s.length lo hi k.thin (rowW s k) vr)]) w0 B := by
  intro R w h
  replace h : Sat w0 B (CB gc gm s :: MH gm es :: VR vg vcap s.length vr :: R) w := h
  obtain ⟨ad, cap, hrd, hkids⟩ := hn.kids
  have hrd := hrd.rd
  obtain ⟨kg, ko, rfl, hk⟩ := hkids (by simp [RE.kids])
  have hkn : NodeRd w0 B kg ko k := by have := hk 0 k rfl; rwa [Nat.zero_mul, Nat.add_zero] at this
  have hrk := hrow kg ko hkn
  have hkf := hfine.2.2.2.2
  have hle : leastM lo k = if k.thin = true then min lo 1 else lo := rfl
  obtain ⟨hlo, hh0, hh1, hlh, _⟩ := hfine
  have hrep : repR capW s.length lo hi k.thin (rowW s k) vr = (let v1 := timesR capW s.length (rowW s k) (leastM lo k) vr; if k.thin = true then v1 else moreR capW s.length (rowW s k) (if hi < 0 then s.length + 2 else hi.toNat - lo) v1 v1) := rfl
  have hlel : leastM lo k ≤ 255 := by rw [hle]; split <;> omega
  obtain ⟨v1, hv1⟩ : ∃ v1, v1 = timesR capW s.length (rowW s k) (leastM lo k) vr := ⟨_, rfl⟩
  dsimp only at hrep
  rw [← hv1] at hrep
  rw [hrep]
  refine calls_of_ES TB Try.func61 rfl _ Try.ntmps61 rfl h ?_
  refine .go ?_; repeat constructor
  refine EL.assign rfl rfl rfl ?_
  refine .go ?_; repeat constructor
  refine EL.move rfl rfl rfl ?_
  refine EL.nilCheck rfl rfl rfl ?_
  refine EL.fieldAddr rfl rfl rfl rfl rfl rfl rfl rfl ?_
  refine EL.loadOld rfl rfl rfl rfl rfl hrd rfl ?_
  refine EL.indexAddrL (i := 0) rfl rfl rfl rfl rfl rfl rfl (by simp [RE.kids]) ?_
  refine EL.assign rfl rfl rfl ?_
  refine .go ?_; repeat constructor
  refine EL.move rfl rfl rfl ?_
  refine EL.callPw rfl rfl rfl ent82 rfl (fun w hs => least_c lo hi k ⟨hlo, hh0, hh1, hlh, hkf⟩ g off w (NodeRd.sat hn hs)) ?_
  refine EL.move rfl rfl rfl ?_
  refine .go ?_; repeat constructor
  refine ES.loop (σ := RSt w0 B s es k.sz) (fun x => x.i ≤ leastM lo k ∧ (∀ q, x.v q ≤ 4097) ∧ timesR capW s.length (rowW s k) (leastM lo k - x.i) x.v = v1) (fun x => [(0, Pv gc 0), (1, .slice (some ⟨x.g, 0, none⟩) (s.length + 1) x.cap), (2, Pv g off), (7, Pv kg ko), (18, Iv (leastM lo k : Nat)), (19, Iv (x.i : Nat))])
    (fun x => CB gc gm s :: MH gm x.G.es' :: VR x.g x.cap s.length x.v :: R) (fun x => leastM lo k - x.i) ⟨0, vg, vcap, vr, GrowV.zero hok⟩ ⟨Nat.zero_le _, hv, hv1.symm⟩ ⟨rfl, rfl, rfl, rfl, rfl, rfl, trivial⟩ (.i (by repeat constructor)) ?_
  rintro ⟨i, ig, icap, iv, G⟩ ⟨hi1, hi2, hi3⟩
  dsimp only at hi1 hi2 hi3 ⊢
  refine .go ?_; repeat constructor
  refine EL.lss rfl rfl rfl rfl ?_
  refine .go ?_; repeat constructor
  refine ES.condD rfl (fun hlt => ?_) (fun hge => ?_)
  · refine .go ?_; repeat constructor
    refine EL.move rfl rfl rfl ?_
    refine EL.move rfl rfl rfl ?_
    refine EL.move rfl rfl rfl ?_
    (refine EL.callMw rfl rfl rfl ent62 rfl (through_c s hs gc gm w0 B k kg ko hrk ig icap iv false G.es' hi2 G.ok) (by repeat constructor) ?_; intro x)
    refine EL.assign rfl rfl rfl ?_
    refine .go ?_; repeat constructor
    refine EL.add1 rfl rfl rfl rfl (by omega) ?_
    refine EL.move rfl rfl rfl ?_
    refine .go ?_; repeat constructor
    refine PX.loop ⟨i + 1, x.g, x.cap, thrR capW s.length (rowW s k) iv false, G.trans x.G (Nat.le_refl _)⟩ ⟨by simp only; omega, fun q => thr_le _ _ _ _ _, ?_⟩ (by simp only; omega) ⟨rfl, rfl, rfl, rfl, rfl, rfl, trivial⟩ (.i (by repeat constructor))
    dsimp only
    obtain ⟨m, hm⟩ : ∃ m, leastM lo k - i = m + 1 := ⟨leastM lo k - i - 1, by omega⟩
    rw [hm, timesR] at hi3
    rw [show leastM lo k - (i + 1) = m by omega]
    exact hi3
  obtain rfl : i = leastM lo k := by omega
  rw [Nat.sub_self, timesR] at hi3
  subst hi3
  refine ES.nilRow 3 1 ?_
  refine .go ?_; repeat constructor
  refine EL.move rfl rfl rfl ?_
  refine EL.appendW (cs := []) (news := rowC iv s.length) rfl rfl rfl rfl rfl rfl rfl rfl rfl (by repeat constructor) (fun w hs => Rd.row hs (by repeat constructor) (by decide)) (by rw [rowC_len]; exact (Nat.mul_one _).symm) (fun u hu => by obtain ⟨q, _, rfl⟩ := List.mem_map.1 hu; rfl) (by unfold maxLen; omega) (by first | omega | (show 1 * _ ≤ _; omega) | (show 8 * _ ≤ _; omega) | (show 16 * _ ≤ _; omega) | (show 24 * _ ≤ _; omega) | (show _ * 1 ≤ _; omega) | (show _ * 8 ≤ _; omega) | (show _ * 16 ≤ _; omega) | (show _ * 24 ≤ _; omega) | exact Nat.le_trans (Nat.mul_le_mul_right _ (show _ ≤ 1073741824 by omega)) (by decide)) ?_
  intro ad27 cap27
  refine EL.rowForm (e := 3) (sz := 1) (cs := [] ++ rowC iv s.length) (ad := ad27) (cap := cap27) (len := 0 + (s.length + 1)) (n := 0 + (s.length + 1)) (by repeat constructor) (fun hf => ?_)
  obtain ⟨ag, rfl⟩ := hf.2.2.2.2 (by omega)
  rw [Nat.zero_add]
  refine EL.assign rfl rfl rfl ?_
  refine .go ?_; repeat constructor
  refine EL.move rfl rfl rfl ?_
  refine EL.callPw rfl rfl rfl ent83 rfl (fun w hs => thin_c k hkf kg ko w (NodeRd.sat hkn hs)) ?_
  refine .go ?_; repeat constructor
  refine ES.cond rfl (fun ht => ?_) (fun hf => ?_)
  · rw [if_pos ht]
    refine .go ?_; repeat constructor
    refine EL.move rfl rfl rfl ?_
    refine EL.assign rfl rfl rfl ?_
    refine .go ?_; repeat constructor
    exact PX.ret rfl Try.results61 (.cons (.tmp rfl) .nil) (fun w hs => ⟨⟨G, ag, cap27⟩, rfl, hs.ent (.i (by repeat constructor))⟩)
  rw [if_neg (by rw [hf]; decide)]
  obtain ⟨F, hF⟩ : ∃ F, F = if hi < 0 then s.length + 2 else hi.toNat - lo := ⟨_, rfl⟩
  rw [← hF]
  obtain ⟨fin, hfin⟩ : ∃ fin, fin = moreR capW s.length (rowW s k) F iv iv := ⟨_, rfl⟩
  rw [← hfin]
  have hF2 : F ≤ 2000 := by rw [hF]; split <;> omega
  have hzero : ∀ p q, q < p → rowW s k p q = 0 := rowW_zero s k
  refine .go ?_; repeat constructor
  refine EL.move rfl rfl rfl ?_
  refine EL.nilCheck rfl rfl rfl ?_
  refine EL.fieldAddr rfl rfl rfl rfl rfl rfl rfl rfl ?_
  refine EL.loadOld rfl rfl rfl rfl rfl hrd rfl ?_
  refine EL.assign rfl rfl rfl ?_
  refine .go ?_; repeat constructor
  refine ES.loop (σ := MSt w0 B s es k.sz) (fun x => x.c ≤ F ∧ (∀ q, x.v q ≤ 4097) ∧ (∀ q, x.all q ≤ 4097) ∧ zeroTo x.v x.c ∧ (hi < 0 → x.c ≤ s.length) ∧ moreR capW s.length (rowW s k) (F - x.c) x.v x.all = fin)
    (fun x => [(0, Pv gc 0), (1, .slice (some ⟨x.g, 0, none⟩) (s.length + 1) x.cap), (2, Pv g off), (7, Pv kg ko), (8, .slice (some ⟨ag, 0, none⟩) (s.length + 1) cap27), (9, Iv ((lo + x.c : Nat) : Int))])
    (fun x => CB gc gm s :: MH gm x.G.es' :: VR x.g x.cap s.length x.v :: VR ag cap27 s.length x.all :: R) (fun x => F - x.c) ⟨0, ig, icap, iv, iv, G⟩ ⟨Nat.zero_le _, hi2, hi2, fun q hq => absurd hq (Nat.not_lt_zero q), fun _ => Nat.zero_le _, hfin.symm⟩ ⟨rfl, rfl, rfl, rfl, rfl, rfl, trivial⟩ (.i (by repeat constructor)) ?_
  rintro ⟨c, cg, ccap, cv, call, G⟩ ⟨hc1, hc2, hc3, hc4, hc5, hc6⟩
  dsimp only at hc1 hc2 hc3 hc4 hc5 hc6 ⊢
  refine .go ?_; repeat constructor
  refine EL.cutX (X := Unit) (fun _ => [(0, Pv gc 0), (1, .slice (some ⟨cg, 0, none⟩) (s.length + 1) ccap), (2, Pv g off), (7, Pv kg ko), (8, .slice (some ⟨ag, 0, none⟩) (s.length + 1) cap27), (9, Iv ((lo + c : Nat) : Int)), (47, .bool (decide (hi < 0 ∨ ((lo + c : Nat) : Int) < hi)))])
    (fun _ => CB gc gm s :: MH gm G.es' :: VR cg ccap s.length cv :: VR ag cap27 s.length call :: R) ?_ (fun _ => ?_)
  · refine .go ?_; repeat constructor
    refine EL.move rfl rfl rfl ?_
    refine EL.nilCheck rfl rfl rfl ?_
    refine EL.fieldAddr rfl rfl rfl rfl rfl rfl rfl rfl ?_
    refine EL.loadOld rfl rfl rfl rfl rfl hrd rfl ?_
    refine EL.lss rfl rfl rfl rfl ?_
    refine EL.move rfl rfl rfl ?_
    first | refine EL.splitD (d := 40) rfl (fun hp40 => ?_) (fun hp40 => ?_) | refine EL.splitN (d := 40) rfl (fun hp40 => ?_) (fun hp40 => ?_) | refine EL.splitB (d := 40) rfl (fun hp40 => ?_) (fun hp40 => ?_)
    · refine EL.pass rfl rfl rfl ?_
      refine EL.pass rfl rfl rfl ?_
      refine EL.pass rfl rfl rfl ?_
      refine EL.pass rfl rfl rfl ?_
      refine EL.pass rfl rfl rfl ?_
      refine EL.pass rfl rfl rfl ?_
      refine EL.pickT rfl rfl rfl rfl ?_
      exact EL.endX () ⟨rfl, rfl, rfl, rfl, rfl, rfl, getA rfl (congrArg Value.bool (by rw [Bool.eq_iff_iff]; simp only [decide_eq_true_eq, true_iff]; have hh : (RE.rep lo hi k).hi = hi := rfl; omega)), trivial⟩ (.i (by repeat constructor))
    · refine EL.move rfl rfl rfl ?_
      refine EL.move rfl rfl rfl ?_
      refine EL.nilCheck rfl rfl rfl ?_
      refine EL.fieldAddr rfl rfl rfl rfl rfl rfl rfl rfl ?_
      refine EL.loadOld rfl rfl rfl rfl rfl hrd rfl ?_
      refine EL.lss rfl rfl rfl rfl ?_
      refine EL.pickF rfl rfl rfl rfl ?_
      exact EL.endX () ⟨rfl, rfl, rfl, rfl, rfl, rfl, getA rfl (congrArg Value.bool (by rw [Bool.eq_iff_iff]; simp only [decide_eq_true_eq, true_iff]; have hh : (RE.rep lo hi k).hi = hi := rfl; omega)), trivial⟩ (.i (by repeat constructor))
  refine ES.condD rfl (fun hgo => ?_) (fun hend => ?_)
  · obtain ⟨m, hm⟩ : ∃ m, F - c = m + 1 := ⟨F - c - 1, by
      rw [hF] at hc1 ⊢
      split at hc1 <;> rename_i hneg
      · have := hc5 hneg; rw [if_pos hneg]; omega
      · rw [if_neg hneg]; omega⟩
    rw [hm, moreR] at hc6
    refine .go ?_; repeat constructor
    refine EL.move rfl rfl rfl ?_
    refine EL.move rfl rfl rfl ?_
    refine EL.move rfl rfl rfl ?_
    (refine EL.callMw rfl rfl rfl ent62 rfl (through_c s hs gc gm w0 B k kg ko hrk cg ccap cv true G.es' hc2 G.ok) (by repeat constructor) ?_; intro x)
    refine EL.assign rfl rfl rfl ?_
    refine .go ?_; repeat constructor
    obtain ⟨nv, hnv⟩ : ∃ nv, nv = thrR capW s.length (rowW s k) cv true := ⟨_, rfl⟩
    rw [← hnv] at hc6 ⊢
    have hnz : zeroTo nv (c + 1) := by rw [hnv]; exact thrR_step rfl hzero hc4
    have hnl : ∀ q, nv q ≤ 4097 := fun q => by rw [hnv]; exact thr_le _ _ _ _ _
    refine .go ?_; repeat constructor
    refine EL.move rfl rfl rfl ?_
    refine EL.callPw rfl rfl rfl ent84 rfl (fun w hs => none_c nv s.length (by omega) _ _ w (Rd.row hs (show Mem _ (VR x.g x.cap s.length nv) from (by repeat constructor)) (by decide))) ?_
    refine .go ?_; repeat constructor
    refine ES.cond rfl (fun hno => ?_) (fun hsome => ?_)
    · rw [if_pos hno] at hc6
      subst hc6
      refine .go ?_; repeat constructor
      refine EL.move rfl rfl rfl ?_
      refine EL.assign rfl rfl rfl ?_
      refine .go ?_; repeat constructor
      exact PX.ret rfl Try.results61 (.cons (.tmp rfl) .nil) (fun w hs => ⟨⟨G.trans x.G (Nat.le_refl _), ag, cap27⟩, rfl, hs.ent (.i (by repeat constructor))⟩)
    · rw [if_neg (by rw [hsome]; decide)] at hc6
      have hcn : c + 1 ≤ s.length := by
        rcases Nat.lt_or_ge s.length (c + 1) with hlt | hge
        · have : noneR s.length nv = true := (noneR_iff _ _).2 (fun q hq => hnz q (by omega))
          rw [this] at hsome; cases hsome
        · exact hge
      refine .go ?_; repeat constructor
      refine EL.move rfl rfl rfl ?_
      refine EL.lenL rfl rfl rfl rfl rfl ?_
      refine EL.move rfl rfl rfl ?_
      refine .go ?_; repeat constructor
      have e0 : rowC call s.length = rowC (fun q => if q < 0 then capW (call q + nv q) else call q) s.length := rowC_ext (fun q _ => (if_neg (by omega)).symm)
      refine ES.loop (σ := Nat) (fun j => j ≤ s.length + 1) (fun j => [(0, Pv gc 0), (1, .slice (some ⟨x.g, 0, none⟩) (s.length + 1) x.cap), (2, Pv g off), (7, Pv kg ko), (8, .slice (some ⟨ag, 0, none⟩) (s.length + 1) cap27), (9, Iv ((lo + c : Nat) : Int)), (56, .slice (some ⟨x.g, 0, none⟩) (s.length + 1) x.cap), (57, Iv ((s.length + 1 : Nat) : Int)), (58, Iv (j : Nat))])
        (fun j => CB gc gm s :: MH gm x.G.es' :: VR x.g x.cap s.length nv :: VR ag cap27 s.length (fun q => if q < j then capW (call q + nv q) else call q) :: R) (fun j => s.length + 1 - j) 0 (Nat.zero_le _) ⟨rfl, rfl, rfl, rfl, rfl, rfl, rfl, rfl, rfl, trivial⟩ (by rw [← VR_eq (g := ag) (cap := cap27) e0]; exact (.i (by repeat constructor))) ?_
      intro j hj
      refine .go ?_; repeat constructor
      refine EL.lss rfl rfl rfl rfl ?_
      refine .go ?_; repeat constructor
      refine ES.condD rfl (fun hlt => ?_) (fun hge => ?_)
      · have hjn : j ≤ s.length := by omega
        have hcj := hc3 j
        have hnj := hnl j
        have hget : (rowC (fun q => if q < j then capW (call q + nv q) else call q) s.length)[j]? = some (Iv (call j : Nat)) := by
          rw [rowC_get _ hjn]
          simp
        have hval : (Iv (min (((call j : Nat) : Int) + ((nv j : Nat) : Int)) 4097)) = Iv ((capW (call j + nv j) : Nat) : Int) := congrArg Iv (by unfold capW; omega)
        refine .go ?_; repeat constructor
        refine EL.move rfl rfl rfl ?_
        refine EL.indexAddrL1 rfl rfl rfl rfl rfl rfl rfl rfl (by omega) ?_
        refine EL.loadR rfl rfl rfl rfl rfl (by repeat constructor) (rowC_get nv hjn) ?_
        refine EL.assign rfl rfl rfl ?_
        refine EL.assign rfl rfl rfl ?_
        refine .go ?_; repeat constructor
        refine EL.move rfl rfl rfl ?_
        refine EL.move rfl rfl rfl ?_
        refine EL.move rfl rfl rfl ?_
        refine EL.move rfl rfl rfl ?_
        refine EL.indexAddrL1 rfl rfl rfl rfl rfl rfl rfl rfl (by omega) ?_
        refine EL.loadR rfl rfl rfl rfl rfl (by repeat constructor) hget ?_
        refine EL.move rfl rfl rfl ?_
        refine EL.addN rfl rfl rfl rfl rfl (by omega) ?_
        refine EL.ofRV (RV.minI rfl rfl) rfl rfl rfl (by intro c h; cases h) ?_
        refine EL.indexAddrL1 rfl rfl rfl rfl rfl rfl rfl rfl (by omega) ?_
        (refine EL.storeR rfl rfl rfl rfl rfl rfl (by repeat constructor) (by rw [rowC_len]; omega) ?_; refine EL.rowEq (v := .slice (some ⟨ag, 0, none⟩) (s.length + 1) cap27) (by repeat constructor) ((congrArg (fun u => (rowC _ _).set j u) hval).trans ((rowC_set _ _ hjn).trans (if_row _ (fun q => capW (call q + nv q)) _ _ _ rfl))) ?_)
        refine .go ?_; repeat constructor
        refine EL.add1 rfl rfl rfl rfl (by omega) ?_
        refine EL.move rfl rfl rfl ?_
        refine .go ?_; repeat constructor
        exact PX.loop (j + 1) (by omega) (by omega) ⟨rfl, rfl, rfl, rfl, rfl, rfl, rfl, rfl, rfl, trivial⟩ (.i (by repeat constructor))
      · obtain rfl : j = s.length + 1 := by omega
        have e1 : rowC (fun q => if q < s.length + 1 then capW (call q + nv q) else call q) s.length = rowC (fun q => capW (call q + nv q)) s.length := rowC_ext (fun q hq => if_pos (by omega))
        refine .go ?_; repeat constructor
        refine EL.move rfl rfl rfl ?_
        refine EL.add1 rfl rfl rfl rfl (by omega) ?_
        refine EL.assign rfl rfl rfl ?_
        refine .go ?_; repeat constructor
        refine PX.loop ⟨c + 1, x.g, x.cap, nv, fun q => capW (call q + nv q), G.trans x.G (Nat.le_refl _)⟩ ⟨by simp only; omega, hnl, fun q => cap_le _, hnz, fun _ => hcn, by simp only; rw [show F - (c + 1) = m by omega]; exact hc6⟩ (by simp only; omega) ⟨rfl, rfl, rfl, rfl, rfl, rfl, trivial⟩ ?_
        dsimp only
        rw [← VR_eq (g := ag) (cap := cap27) e1]
        exact (.i (by repeat constructor))
  · have h0 : F - c = 0 := by
      rw [hF]
      split <;> omega
    rw [h0, moreR] at hc6
    subst hc6
    refine .go ?_; repeat constructor
    refine EL.move rfl rfl rfl ?_
    refine EL.assign rfl rfl rfl ?_
    refine .go ?_; repeat constructor
    exact PX.ret rfl Try.results61 (.cons (.tmp rfl) .nil) (fun w hs => ⟨⟨G, ag, cap27⟩, rfl, hs.ent (.i (by repeat constructor))⟩)
end Go.Proofs.Ytblpgpgbnlhjlaa
namespace Go.Proofs.Ytblpgpgbnlhjlaa
open Go Go.RowKit Sl
set_option maxRecDepth 100000
set_option maxHeartbeats 8000000
set_option linter.unusedVariables false
set_option linter.unusedSimpArgs false
attribute [local irreducible] ES EL PX wps
theorem PlainAt.of_node {w0 w : World} {B g off : Nat} {H : List HA} {r : RE} (h : NodeRd w0 B g off r) (hs : Sat w0 B H w) : PlainAt w g := by
  obtain ⟨ad, cap, hrd, _⟩ := h.kids
  obtain ⟨g', off', h1, h2, ca, ta, h3, _⟩ := hrd (by simp [reCells])
  simp only [Option.some.injEq, Addr.mk.injEq] at h1
  obtain ⟨rfl, _, _⟩ := h1
  exact ⟨ca, ta, by rw [hs.below.block g h2]; exact h3⟩
theorem memo_plain {w0 w : World} {B : Nat} {H : List HA} {s : List UInt8} {es : List ME} (hok : MemoOk w0 B s es) (hs : Sat w0 B H w) : ∀ m ∈ es, PlainAt w m.key.g := fun m hm => by
  obtain ⟨r, a, h⟩ := hok m hm
  exact PlainAt.of_node h.node hs
theorem memo_len {w0 : World} {B : Nat} {s : List UInt8} {es : List ME} (hok : MemoOk w0 B s es) : ∀ m ∈ es, m.key.is.length = 1 := fun m hm => by
  obtain ⟨r, a, h⟩ := hok m hm
  rw [h.is]; rfl
theorem memo_hit {w0 : World} {B : Nat} {s : List UInt8} {es : List ME} (hok : MemoOk w0 B s es) {g off a : Nat} {r : RE} (hn : NodeRd w0 B g off r) {m : ME} (h : memoGet ⟨g, off, [(a : Int)]⟩ es = some m) : m ∈ es ∧ EntOk w0 B s m r a := by
  have h1 := List.mem_of_find?_eq_some h
  have h2 := List.find?_some h
  have h3 : (⟨g, off, [(a : Int)]⟩ : MK) = m.key := of_decide_eq_true h2
  obtain ⟨r', a', he⟩ := hok m h1
  have hi := he.is
  rw [← h3] at hi
  simp only [List.cons.injEq, and_true] at hi
  obtain rfl : a = a' := by omega
  have hnd := he.node
  rw [← h3] at hnd
  obtain rfl := hn.inj hnd
  exact ⟨h1, he⟩
theorem memoGet_app (k : MK) (es new : List ME) : memoGet k (es ++ new) = match memoGet k es with | some m => some m | none => memoGet k new := by
  unfold memoGet
  rw [List.find?_append]
  cases es.find? (fun m => decide (k = m.key)) <;> rfl
theorem memo_new {w0 : World} {B : Nat} {s : List UInt8} {es : List ME} {g off a b : Nat} {r : RE} (hn : NodeRd w0 B g off r) (G : GrowV w0 B s es b) (hb : b < r.sz) (h : memoGet ⟨g, off, [(a : Int)]⟩ es = none) : memoGet ⟨g, off, [(a : Int)]⟩ G.es' = none := by
  rw [G.eq, memoGet_app, h]
  cases hm : memoGet ⟨g, off, [(a : Int)]⟩ G.new with
  | none => rfl
  | some m =>
    have h1 := List.mem_of_find?_eq_some hm
    have h2 := List.find?_some hm
    have h3 : (⟨g, off, [(a : Int)]⟩ : MK) = m.key := of_decide_eq_true h2
    obtain ⟨r', a', he, hsz⟩ := G.small m h1
    have hnd := he.node
    rw [← h3] at hnd
    obtain rfl := hn.inj hnd
    omega
theorem rowW_cat (s : List UInt8) (r : RE) (a : Nat) (h : r.kind = 0 ∨ r.kind = 4) : rowW s r a = catR capW s r.kids (unitR a) := by
  cases r <;> simp [RE.kind] at h
  · show rowR capW s _ a = _; rw [rowR]; rfl
  · show rowR capW s _ a = _; rw [rowR]; simp only [RE.kids]; rw [catR, catR]
theorem unit_at (a : Nat) : unitR a a = 1 := if_pos rfl
theorem unit_le (a q : Nat) : unitR a q ≤ 4097 := by unfold unitR; split <;> omega
structure WSt (w0 : World) (B : Nat) (s : List UInt8) (es : List ME) (b : Nat) where
  g : Nat
  cap : Nat
  G : GrowV w0 B s es b
structure KSt (w0 : World) (B : Nat) (s : List UInt8) (es : List ME) (b : Nat) where
  i : Nat
  g : Nat
  cap : Nat
  v : Row
  G : GrowV w0 B s es b
theorem row_n (n : Nat) : ∀ (r : RE), r.sz ≤ n → r.fine → ∀ (s : List UInt8), s.length ≤ 1024 → ∀ (gc gm : Nat) (w0 : World) (B g off : Nat), NodeRd w0 B g off r → RowCt s gc gm w0 B r g off := by
  induction n with
  | zero => intro r hr; exact absurd (sz_pos r) (by omega)
  | succ n ih =>
    intro r hr hfine s hs gc gm w0 B g off hn a es ha hok R w h
    replace h : Sat w0 B (CB gc gm s :: MH gm es :: R) w := h
    have hn0 := hn
    obtain ⟨ad, cap, hrd, hkids⟩ := hn.kids
    have hrd := hrd.rd
    have hfl := fine_len hfine
    refine calls_of_ES TB Try.func41 rfl _ Try.ntmps41 rfl h ?_
    refine .go ?_; repeat constructor
    refine EL.assign rfl rfl rfl ?_
    refine .go ?_; repeat constructor
    refine EL.move rfl rfl rfl ?_
    refine EL.move rfl rfl rfl ?_
    (apply EL.build2; exact rfl; exact rfl; exact rfl; exact rfl; exact rfl; exact rfl; exact rfl; exact rfl; exact rfl; exact rfl)
    (refine EL.alloc rfl rfl rfl ?_; intro g7)
    (apply EL.storeAll; exact rfl; exact rfl; exact rfl; exact rfl; exact rfl; (case p => repeat constructor); exact rfl; (case h1 => exact (by first | rfl | exact all1 rfl | (intro u hu; simp only [List.mem_cons, List.not_mem_nil, or_false] at hu; rcases hu with rfl | rfl | rfl | rfl <;> rfl) | (intro u hu; simp at hu; rcases hu with rfl | rfl | rfl | rfl <;> rfl) | (intro u hu; simp at hu; rcases hu with rfl | rfl | rfl <;> rfl) | (intro u hu; simp at hu; rcases hu with rfl | rfl <;> rfl) | (intro u hu; simp at hu; obtain ⟨_, _, rfl⟩ := hu; rfl))))
    refine .go ?_; repeat constructor
    cases hmg : memoGet ⟨g, off, [(a : Int)]⟩ es with
    | some m =>
      obtain ⟨hmem, hent⟩ := memo_hit hok hn hmg
      refine ES.draw (X := Unit) (fun _ => [(8, m.val), (9, .bool true)]) (fun _ => CB gc gm s :: MH gm es :: R) (CB gc gm s :: MH gm es :: HA.blk g7 (.cells #[Pv g off, Iv (a : Nat)] 153) :: R) mixed (.i (by repeat constructor)) ?_ (fun _ => ?_)
      · refine ED.take 0 rfl (by decide +kernel) CutX.no_panic (by decide +kernel) rfl rfl rfl (RV.move rfl) ?_
        refine ED.take 1 rfl (by decide +kernel) CutX.no_panic (by decide +kernel) rfl rfl rfl (RV.nilCheck rfl) ?_
        refine ED.take 2 rfl (by decide +kernel) CutX.no_panic (by decide +kernel) rfl rfl rfl (RV.fieldAddr rfl rfl rfl rfl rfl rfl) ?_
        refine ED.take 3 rfl (by decide +kernel) CutX.no_panic (by decide +kernel) rfl rfl rfl (RV.loadB rfl rfl rfl (by repeat constructor) rfl) ?_
        refine ED.take 4 rfl (by decide +kernel) CutX.no_panic (by decide +kernel) rfl rfl rfl (RV.loadAggB rfl rfl rfl (by repeat constructor) rfl) ?_
        refine ED.take 5 rfl (by decide +kernel) CutX.no_panic (by decide +kernel) rfl rfl rfl (RV.lookupHit (k := ⟨g, off, [(a : Int)]⟩) (n := 1) rfl rfl rfl rfl rfl rfl keyW (by repeat constructor) rfl (memo_len hok) (fun w hs => ⟨PlainAt.of_node hn hs, memo_plain hok hs⟩) hmg) ?_
        refine ED.take 6 rfl (by decide +kernel) CutX.no_panic (by decide +kernel) rfl rfl rfl (RV.move rfl) ?_
        refine ED.take 7 rfl (by decide +kernel) CutX.no_panic (by decide +kernel) rfl rfl rfl (RV.extract rfl rfl) ?_
        refine ED.take 8 rfl (by decide +kernel) CutX.no_panic (by decide +kernel) rfl rfl rfl (RV.extract rfl rfl) ?_
        refine ED.take 9 rfl (by decide +kernel) CutX.no_panic (by decide +kernel) rfl rfl rfl (RV.assign rfl) ?_
        refine ED.take 10 rfl (by decide +kernel) CutX.no_panic (by decide +kernel) rfl rfl rfl (RV.assign rfl) ?_
        refine ED.done (by decide +kernel) ?_
        exact PX.cutX () ⟨rfl, rfl, trivial⟩ (.i (by repeat constructor))
      refine .go ?_; repeat constructor
      refine EL.move rfl rfl rfl ?_
      refine .go ?_; repeat constructor
      refine ES.condT rfl ?_
      refine .go ?_; repeat constructor
      refine EL.move rfl rfl rfl ?_
      refine EL.assign rfl rfl rfl ?_
      refine .go ?_; repeat constructor
      exact PX.ret rfl Try.results41 (.cons (.tmp rfl) .nil) (fun w hs => ⟨⟨GrowV.zero hok, m, hmem, hent⟩, rfl, hs.ent (.i (by repeat constructor))⟩)
    | none =>
      refine ES.draw (X := Unit) (fun _ => [(0, Pv gc 0), (1, Pv g off), (2, Iv (a : Nat)), (7, Pv g7 0), (9, .bool false)]) (fun _ => CB gc gm s :: MH gm es :: HA.blk g7 (.cells #[Pv g off, Iv (a : Nat)] 153) :: R) (CB gc gm s :: MH gm es :: HA.blk g7 (.cells #[Pv g off, Iv (a : Nat)] 153) :: R) mixed (.i (by repeat constructor)) ?_ (fun _ => ?_)
      · refine ED.take 0 rfl (by decide +kernel) CutX.no_panic (by decide +kernel) rfl rfl rfl (RV.move rfl) ?_
        refine ED.take 1 rfl (by decide +kernel) CutX.no_panic (by decide +kernel) rfl rfl rfl (RV.nilCheck rfl) ?_
        refine ED.take 2 rfl (by decide +kernel) CutX.no_panic (by decide +kernel) rfl rfl rfl (RV.fieldAddr rfl rfl rfl rfl rfl rfl) ?_
        refine ED.take 3 rfl (by decide +kernel) CutX.no_panic (by decide +kernel) rfl rfl rfl (RV.loadB rfl rfl rfl (by repeat constructor) rfl) ?_
        refine ED.take 4 rfl (by decide +kernel) CutX.no_panic (by decide +kernel) rfl rfl rfl (RV.loadAggB rfl rfl rfl (by repeat constructor) rfl) ?_
        refine ED.take 5 rfl (by decide +kernel) CutX.no_panic (by decide +kernel) rfl rfl rfl (RV.lookupMiss (k := ⟨g, off, [(a : Int)]⟩) (n := 1) rfl rfl rfl rfl rfl rfl keyW (by repeat constructor) rfl (memo_len hok) (fun w hs => ⟨PlainAt.of_node hn hs, memo_plain hok hs⟩) hmg) ?_
        refine ED.take 6 rfl (by decide +kernel) CutX.no_panic (by decide +kernel) rfl rfl rfl (RV.move rfl) ?_
        refine ED.take 7 rfl (by decide +kernel) CutX.no_panic (by decide +kernel) rfl rfl rfl (RV.extract rfl rfl) ?_
        refine ED.take 8 rfl (by decide +kernel) CutX.no_panic (by decide +kernel) rfl rfl rfl (RV.extract rfl rfl) ?_
        refine ED.take 9 rfl (by decide +kernel) CutX.no_panic (by decide +kernel) rfl rfl rfl (RV.assign rfl) ?_
        refine ED.take 10 rfl (by decide +kernel) CutX.no_panic (by decide +kernel) rfl rfl rfl (RV.assign rfl) ?_
        refine ED.done (by decide +kernel) ?_
        exact PX.cutX () ⟨rfl, rfl, rfl, rfl, rfl, trivial⟩ (.i (by repeat constructor))
      refine .go ?_; repeat constructor
      refine EL.move rfl rfl rfl ?_
      refine .go ?_; repeat constructor
      refine ES.condF rfl ?_
      refine .go ?_; repeat constructor
      refine EL.move rfl rfl rfl ?_
      refine EL.nilCheck rfl rfl rfl ?_
      refine EL.fieldAddr rfl rfl rfl rfl rfl rfl rfl rfl ?_
      (apply EL.loadB; exact rfl; exact rfl; exact rfl; exact rfl; exact rfl; (case hm => repeat constructor); exact rfl)
      refine EL.lenS rfl rfl rfl rfl rfl ?_
      refine EL.assign rfl rfl rfl ?_
      refine .go ?_; repeat constructor
      refine EL.move rfl rfl rfl ?_
      refine EL.add1 rfl rfl rfl rfl (by omega) ?_
      refine EL.makeSlice (n := s.length + 1) rfl rfl rfl rfl rfl rfl (by first | omega | (show 1 * _ ≤ _; omega) | (show 8 * _ ≤ _; omega) | (show 16 * _ ≤ _; omega) | (show 24 * _ ≤ _; omega) | (show _ * 1 ≤ _; omega) | (show _ * 8 ≤ _; omega) | (show _ * 16 ≤ _; omega) | (show _ * 24 ≤ _; omega) | exact Nat.le_trans (Nat.mul_le_mul_right _ (show _ ≤ 1073741824 by omega)) (by decide)) (by unfold maxLen; omega) ?_
      intro g35
      refine EL.rowEq (v := .slice (some ⟨g35, 0, none⟩) (s.length + 1) (s.length + 1)) (by repeat constructor) ((made1 _ _).trans (rowC_zero s.length)) ?_
      have hu1 : (rowC (fun _ => 0) s.length).set a (Iv 1) = rowC (unitR a) s.length := (rowC_set _ 1 ha).trans (rowC_ext (fun q _ => by show (if q = a then 1 else 0) = unitR a q; rfl))
      refine EL.assign rfl rfl rfl ?_
      refine .go ?_; repeat constructor
      refine EL.move rfl rfl rfl ?_
      refine EL.move rfl rfl rfl ?_
      refine EL.indexAddrL1 rfl rfl rfl rfl rfl rfl rfl rfl (by omega) ?_
      (refine EL.storeR rfl rfl rfl rfl rfl rfl (by repeat constructor) (by rw [rowC_len]; omega) ?_; refine EL.rowEq (v := .slice (some ⟨g35, 0, none⟩) (s.length + 1) (s.length + 1)) (by repeat constructor) hu1 ?_)
      refine .go ?_; repeat constructor
      refine EL.move rfl rfl rfl ?_
      refine EL.nilCheck rfl rfl rfl ?_
      refine EL.fieldAddr rfl rfl rfl rfl rfl rfl rfl rfl ?_
      refine EL.loadOld rfl rfl rfl rfl rfl hrd rfl ?_
      repeat (first | apply EL.nil | apply ES.seq | apply ES.skip)
      obtain ⟨b, hb⟩ : ∃ b, r.sz = b + 1 := ⟨r.sz - 1, by have := sz_pos r; omega⟩
      refine ES.cutC (X := WSt w0 B s es b) (fun x => [(0, Pv gc 0), (7, Pv g7 0), (11, .slice (some ⟨x.g, 0, none⟩) (s.length + 1) x.cap)]) (fun x => CB gc gm s :: MH gm x.G.es' :: HA.blk g7 (.cells #[Pv g off, Iv (a : Nat)] 153) :: VR x.g x.cap s.length (rowW s r a) :: R) ?_ (fun x => ?_)
      · refine .go ?_; repeat constructor
        refine EL.eqlI rfl rfl rfl rfl ?_
        refine EL.assign rfl rfl rfl ?_
        refine .go ?_; repeat constructor
        refine ES.condD rfl (fun h1 => ?_) (fun h1 => ?_)
        · obtain ⟨bs, rfl⟩ := kind_1 (show r.kind = 1 by omega)
          have hz : (rowC (unitR a) s.length).set a (Iv 0) = rowC (fun _ => 0) s.length := (rowC_set _ 0 ha).trans (rowC_ext (fun q _ => by
            show (if q = a then 0 else unitR a q) = 0
            split
            · rfl
            · rename_i hne; exact if_neg hne))
          refine .go ?_; repeat constructor
          refine EL.move rfl rfl rfl ?_
          refine EL.move rfl rfl rfl ?_
          refine EL.indexAddrL1 rfl rfl rfl rfl rfl rfl rfl rfl (by omega) ?_
          (refine EL.storeR rfl rfl rfl rfl rfl rfl (by repeat constructor) (by rw [rowC_len]; omega) ?_; refine EL.rowEq (v := .slice (some ⟨g35, 0, none⟩) (s.length + 1) (s.length + 1)) (by repeat constructor) hz ?_)
          refine .go ?_; repeat constructor
          refine ES.draw (X := Unit) (fun _ => [(0, Pv gc 0), (2, Iv (a : Nat)), (7, Pv g7 0), (11, .slice (some ⟨g35, 0, none⟩) (s.length + 1) (s.length + 1)), (81, .bool (decide (a < s.length ∧ hasS bs (s.getD a 0).toNat = true)))]) (fun _ => CB gc gm s :: MH gm es :: HA.blk g7 (.cells #[Pv g off, Iv (a : Nat)] 153) :: VR g35 (s.length + 1) s.length (fun _ => 0) :: R)
            (CB gc gm s :: MH gm es :: HA.blk g7 (.cells #[Pv g off, Iv (a : Nat)] 153) :: VR g35 (s.length + 1) s.length (fun _ => 0) :: R) mixed (.i (by repeat constructor)) ?_ (fun _ => ?_)
          · refine ED.take 0 rfl (by decide +kernel) CutX.no_panic (by decide +kernel) rfl rfl rfl (RV.move rfl) ?_
            refine ED.take 1 rfl (by decide +kernel) CutX.no_panic (by decide +kernel) rfl rfl rfl (RV.move rfl) ?_
            refine ED.take 2 rfl (by decide +kernel) CutX.no_panic (by decide +kernel) rfl rfl rfl (RV.lss rfl rfl) ?_
            refine ED.take 3 rfl (by decide +kernel) CutX.no_panic (by decide +kernel) rfl rfl rfl (RV.move rfl) ?_
            first | refine ED.part (d := 69) rfl (fun hp69 => ?_) (fun hp69 => ?_) | refine ED.partN (d := 69) rfl (fun hp69 => ?_) (fun hp69 => ?_) | refine ED.partB (d := 69) rfl (fun hp69 => ?_) (fun hp69 => ?_)
            · refine ED.take 4 rfl (by decide +kernel) CutX.no_panic (by decide +kernel) rfl rfl rfl (RV.move rfl) ?_
              refine ED.take 5 rfl (by decide +kernel) CutX.no_panic (by decide +kernel) rfl rfl rfl (RV.nilCheck rfl) ?_
              refine ED.take 6 rfl (by decide +kernel) CutX.no_panic (by decide +kernel) rfl rfl rfl (RV.fieldAddr rfl rfl rfl rfl rfl rfl) ?_
              refine ED.take 7 rfl (by decide +kernel) CutX.no_panic (by decide +kernel) rfl rfl rfl (RV.loadOldA (vs := [Wv bs.a, Wv bs.b, Wv bs.c, Wv bs.d]) rfl rfl rfl rfl (by simp) hrd (set_cells (.byte bs) _)) ?_
              refine ED.take 8 rfl (by decide +kernel) CutX.no_panic (by decide +kernel) rfl rfl rfl (RV.move rfl) ?_
              refine ED.take 9 rfl (by decide +kernel) CutX.no_panic (by decide +kernel) rfl rfl rfl (RV.nilCheck rfl) ?_
              refine ED.take 10 rfl (by decide +kernel) CutX.no_panic (by decide +kernel) rfl rfl rfl (RV.fieldAddr rfl rfl rfl rfl rfl rfl) ?_
              refine ED.take 11 rfl (by decide +kernel) CutX.no_panic (by decide +kernel) rfl rfl rfl (RV.loadB rfl rfl rfl (by repeat constructor) rfl) ?_
              refine ED.take 12 rfl (by decide +kernel) CutX.no_panic (by decide +kernel) rfl rfl rfl (RV.move rfl) ?_
              refine ED.take 13 rfl (by decide +kernel) CutX.no_panic (by decide +kernel) rfl rfl rfl (RV.indexSN rfl rfl rfl rfl (by omega)) ?_
              refine ED.loud 14 rfl (by decide +kernel) ?_
              refine EL.callP rfl rfl rfl ent60 rfl (has_c bs (s.getD a 0)) ?_
              refine ED.next (.i (by repeat constructor)) ?_
              refine ED.take 15 rfl (by decide +kernel) CutX.no_panic (by decide +kernel) rfl rfl rfl (RV.pickT rfl rfl) ?_
              refine ED.done (by decide +kernel) ?_
              exact PX.cutX () ⟨rfl, rfl, rfl, rfl, getA rfl (congrArg Value.bool (by rw [Bool.eq_iff_iff]; simp only [decide_eq_true_eq, Bool.false_eq_true, false_iff]; first | exact ⟨fun h => ⟨by omega, h⟩, fun h => h.2⟩ | (intro h; omega))), trivial⟩ (.i (by repeat constructor))
            · refine ED.pass 4 rfl (by decide +kernel) CutX.no_panic (by decide +kernel) rfl rfl rfl ?_
              refine ED.pass 5 rfl (by decide +kernel) CutX.no_panic (by decide +kernel) rfl rfl rfl ?_
              refine ED.pass 6 rfl (by decide +kernel) CutX.no_panic (by decide +kernel) rfl rfl rfl ?_
              refine ED.pass 7 rfl (by decide +kernel) CutX.no_panic (by decide +kernel) rfl rfl rfl ?_
              refine ED.pass 8 rfl (by decide +kernel) CutX.no_panic (by decide +kernel) rfl rfl rfl ?_
              refine ED.pass 9 rfl (by decide +kernel) CutX.no_panic (by decide +kernel) rfl rfl rfl ?_
              refine ED.pass 10 rfl (by decide +kernel) CutX.no_panic (by decide +kernel) rfl rfl rfl ?_
              refine ED.pass 11 rfl (by decide +kernel) CutX.no_panic (by decide +kernel) rfl rfl rfl ?_
              refine ED.pass 12 rfl (by decide +kernel) CutX.no_panic (by decide +kernel) rfl rfl rfl ?_
              refine ED.pass 13 rfl (by decide +kernel) CutX.no_panic (by decide +kernel) rfl rfl rfl ?_
              refine ED.pass 14 rfl (by decide +kernel) CutX.no_panic (by decide +kernel) rfl rfl rfl ?_
              refine ED.take 15 rfl (by decide +kernel) CutX.no_panic (by decide +kernel) rfl rfl rfl (RV.pickF rfl rfl) ?_
              refine ED.done (by decide +kernel) ?_
              exact PX.cutX () ⟨rfl, rfl, rfl, rfl, getA rfl (congrArg Value.bool (by rw [Bool.eq_iff_iff]; simp only [decide_eq_true_eq, Bool.false_eq_true, false_iff]; first | exact ⟨fun h => ⟨by omega, h⟩, fun h => h.2⟩ | (intro h; omega))), trivial⟩ (.i (by repeat constructor))
          refine ES.condD rfl (fun hy => ?_) (fun hno => ?_)
          · have e1 : (rowC (fun _ => 0) s.length).set (a + 1) (Iv 1) = rowC (rowW s (.byte bs) a) s.length := (rowC_set _ 1 (by omega)).trans (rowC_ext (fun q _ => by
              show (if q = a + 1 then 1 else 0) = if a < s.length ∧ hasS bs (s.getD a 0).toNat = true ∧ q = a + 1 then 1 else 0
              by_cases e : q = a + 1
              · rw [if_pos e, if_pos ⟨hy.1, hy.2, e⟩]
              · rw [if_neg e, if_neg (fun h => e h.2.2)]))
            refine .go ?_; repeat constructor
            refine EL.move rfl rfl rfl ?_
            refine EL.move rfl rfl rfl ?_
            refine EL.add1 rfl rfl rfl rfl (by omega) ?_
            refine EL.indexAddrL1 rfl rfl rfl rfl rfl rfl rfl rfl (by omega) ?_
            (refine EL.storeR rfl rfl rfl rfl rfl rfl (by repeat constructor) (by rw [rowC_len]; omega) ?_; refine EL.rowEq (v := .slice (some ⟨g35, 0, none⟩) (s.length + 1) (s.length + 1)) (by repeat constructor) e1 ?_)
            refine .go ?_; repeat constructor
            exact PX.cutX ⟨g35, s.length + 1, GrowV.zero hok⟩ ⟨rfl, rfl, rfl, trivial⟩ (.i (by repeat constructor))
          · have e1 : rowC (fun _ => 0) s.length = rowC (rowW s (.byte bs) a) s.length := rowC_ext (fun q _ => by
              show 0 = if a < s.length ∧ hasS bs (s.getD a 0).toNat = true ∧ q = a + 1 then 1 else 0
              rw [if_neg (fun h => hno ⟨h.1, h.2.1⟩)])
            refine .go ?_; repeat constructor
            exact PX.cutX ⟨g35, s.length + 1, GrowV.zero hok⟩ ⟨rfl, rfl, rfl, trivial⟩ (by rw [← VR_eq (g := g35) (cap := s.length + 1) e1]; exact (.i (by repeat constructor)))
        refine .go ?_; repeat constructor
        refine EL.eqlI rfl rfl rfl rfl ?_
        refine EL.assign rfl rfl rfl ?_
        refine .go ?_; repeat constructor
        refine ES.condD rfl (fun h2 => ?_) (fun h2 => ?_)
        · obtain rfl := kind_2 (show r.kind = 2 by omega)
          have hval : Iv (min ((unitR a a : Nat) : Int) (1 - min (a : Int) 1)) = Iv ((if a = 0 then 1 else 0 : Nat) : Int) := congrArg Iv (by rw [unit_at]; split <;> omega)
          have e1 : (rowC (unitR a) s.length).set a (Iv ((if a = 0 then 1 else 0 : Nat) : Int)) = rowC (rowW s .bol a) s.length := (rowC_set _ _ ha).trans (rowC_ext (fun q _ => by
            show (if q = a then (if a = 0 then 1 else 0) else unitR a q) = if a = 0 ∧ q = a then 1 else 0
            unfold unitR
            split <;> split <;> simp_all))
          refine .go ?_; repeat constructor
          refine EL.move rfl rfl rfl ?_
          refine EL.move rfl rfl rfl ?_
          refine EL.move rfl rfl rfl ?_
          refine EL.move rfl rfl rfl ?_
          refine EL.indexAddrL1 rfl rfl rfl rfl rfl rfl rfl rfl (by omega) ?_
          refine EL.loadR rfl rfl rfl rfl rfl (by repeat constructor) (rowC_get _ ha) ?_
          refine EL.move rfl rfl rfl ?_
          refine EL.ofRV (RV.minI rfl rfl) rfl rfl rfl (by intro c h; cases h) ?_
          refine EL.sub_ (1 - min (a : Int) 1) rfl rfl rfl rfl (wrap_i64 _ (by omega) (by omega)) ?_
          refine EL.ofRV (RV.minI rfl rfl) rfl rfl rfl (by intro c h; cases h) ?_
          refine EL.indexAddrL1 rfl rfl rfl rfl rfl rfl rfl rfl (by omega) ?_
          (refine EL.storeR rfl rfl rfl rfl rfl rfl (by repeat constructor) (by rw [rowC_len]; omega) ?_; refine EL.rowEq (v := .slice (some ⟨g35, 0, none⟩) (s.length + 1) (s.length + 1)) (by repeat constructor) ((congrArg (fun u => (rowC _ _).set a u) hval).trans e1) ?_)
          refine .go ?_; repeat constructor
          exact PX.cutX ⟨g35, s.length + 1, GrowV.zero hok⟩ ⟨rfl, rfl, rfl, trivial⟩ (.i (by repeat constructor))
        refine .go ?_; repeat constructor
        refine EL.eqlI rfl rfl rfl rfl ?_
        refine EL.assign rfl rfl rfl ?_
        refine .go ?_; repeat constructor
        refine ES.condD rfl (fun h3 => ?_) (fun h3 => ?_)
        · obtain rfl := kind_3 (show r.kind = 3 by omega)
          have hval : Iv (min ((unitR a a : Nat) : Int) (1 - min ((s.length : Int) - (a : Int)) 1)) = Iv ((if a = s.length then 1 else 0 : Nat) : Int) := congrArg Iv (by rw [unit_at]; split <;> omega)
          have e1 : (rowC (unitR a) s.length).set a (Iv ((if a = s.length then 1 else 0 : Nat) : Int)) = rowC (rowW s .eol a) s.length := (rowC_set _ _ ha).trans (rowC_ext (fun q _ => by
            show (if q = a then (if a = s.length then 1 else 0) else unitR a q) = if a = s.length ∧ q = a then 1 else 0
            unfold unitR
            split <;> split <;> simp_all))
          refine .go ?_; repeat constructor
          refine EL.move rfl rfl rfl ?_
          refine EL.move rfl rfl rfl ?_
          refine EL.move rfl rfl rfl ?_
          refine EL.move rfl rfl rfl ?_
          refine EL.indexAddrL1 rfl rfl rfl rfl rfl rfl rfl rfl (by omega) ?_
          refine EL.loadR rfl rfl rfl rfl rfl (by repeat constructor) (rowC_get _ ha) ?_
          refine EL.move rfl rfl rfl ?_
          refine EL.move rfl rfl rfl ?_
          refine EL.sub_ ((s.length : Int) - (a : Int)) rfl rfl rfl rfl (wrap_i64 _ (by omega) (by omega)) ?_
          refine EL.ofRV (RV.minI rfl rfl) rfl rfl rfl (by intro c h; cases h) ?_
          refine EL.sub_ (1 - min ((s.length : Int) - (a : Int)) 1) rfl rfl rfl rfl (wrap_i64 _ (by omega) (by omega)) ?_
          refine EL.ofRV (RV.minI rfl rfl) rfl rfl rfl (by intro c h; cases h) ?_
          refine EL.indexAddrL1 rfl rfl rfl rfl rfl rfl rfl rfl (by omega) ?_
          (refine EL.storeR rfl rfl rfl rfl rfl rfl (by repeat constructor) (by rw [rowC_len]; omega) ?_; refine EL.rowEq (v := .slice (some ⟨g35, 0, none⟩) (s.length + 1) (s.length + 1)) (by repeat constructor) ((congrArg (fun u => (rowC _ _).set a u) hval).trans e1) ?_)
          refine .go ?_; repeat constructor
          exact PX.cutX ⟨g35, s.length + 1, GrowV.zero hok⟩ ⟨rfl, rfl, rfl, trivial⟩ (.i (by repeat constructor))
        refine .go ?_; repeat constructor
        refine EL.eqlI rfl rfl rfl rfl ?_
        refine EL.assign rfl rfl rfl ?_
        refine .go ?_; repeat constructor
        refine ES.condD rfl (fun h6 => ?_) (fun h6 => ?_)
        · obtain ⟨bn, rfl⟩ := kind_6 (show r.kind = 6 by omega)
          refine .go ?_; repeat constructor
          refine EL.move rfl rfl rfl ?_
          refine EL.assign rfl rfl rfl ?_
          refine .go ?_; repeat constructor
          have e0 : rowC (unitR a) s.length = rowC (fun q => if a ≤ q ∧ q < a then 1 else unitR a q) s.length := rowC_ext (fun q _ => (if_neg (by omega)).symm)
          refine ES.loop (σ := Nat) (fun j => a ≤ j ∧ j ≤ s.length + 1) (fun j => [(0, Pv gc 0), (7, Pv g7 0), (10, Iv (s.length : Nat)), (11, .slice (some ⟨g35, 0, none⟩) (s.length + 1) (s.length + 1)), (12, Iv (j : Nat))])
            (fun j => CB gc gm s :: MH gm es :: HA.blk g7 (.cells #[Pv g off, Iv (a : Nat)] 153) :: VR g35 (s.length + 1) s.length (fun q => if a ≤ q ∧ q < j then 1 else unitR a q) :: R) (fun j => s.length + 1 - j) a ⟨Nat.le_refl _, by omega⟩ ⟨rfl, rfl, rfl, rfl, rfl, trivial⟩ (by rw [← VR_eq (g := g35) (cap := s.length + 1) e0]; exact (.i (by repeat constructor))) ?_
          rintro j ⟨hj1, hj2⟩
          refine .go ?_; repeat constructor
          refine EL.move rfl rfl rfl ?_
          refine EL.move rfl rfl rfl ?_
          refine EL.leq rfl rfl rfl rfl ?_
          refine .go ?_; repeat constructor
          refine ES.condD rfl (fun hlt => ?_) (fun hge => ?_)
          · have hjn : j ≤ s.length := by omega
            have e2 : (rowC (fun q => if a ≤ q ∧ q < j then 1 else unitR a q) s.length).set j (Iv 1) = rowC (fun q => if a ≤ q ∧ q < j + 1 then 1 else unitR a q) s.length := (rowC_set _ 1 hjn).trans (rowC_ext (fun q _ => by
              show (if q = j then 1 else if a ≤ q ∧ q < j then 1 else unitR a q) = if a ≤ q ∧ q < j + 1 then 1 else unitR a q
              by_cases e : q = j
              · rw [if_pos e, if_pos (by omega)]
              · rw [if_neg e]
                by_cases e2 : a ≤ q ∧ q < j
                · rw [if_pos e2, if_pos (by omega)]
                · rw [if_neg e2, if_neg (by omega)]))
            refine .go ?_; repeat constructor
            refine EL.move rfl rfl rfl ?_
            refine EL.move rfl rfl rfl ?_
            refine EL.indexAddrL1 rfl rfl rfl rfl rfl rfl rfl rfl (by omega) ?_
            (refine EL.storeR rfl rfl rfl rfl rfl rfl (by repeat constructor) (by rw [rowC_len]; omega) ?_; refine EL.rowEq (v := .slice (some ⟨g35, 0, none⟩) (s.length + 1) (s.length + 1)) (by repeat constructor) e2 ?_)
            refine .go ?_; repeat constructor
            refine EL.move rfl rfl rfl ?_
            refine EL.add1 rfl rfl rfl rfl (by omega) ?_
            refine EL.assign rfl rfl rfl ?_
            refine .go ?_; repeat constructor
            exact PX.loop (j + 1) ⟨by omega, by omega⟩ (by omega) ⟨rfl, rfl, rfl, rfl, rfl, trivial⟩ (.i (by repeat constructor))
          · have e3 : rowC (fun q => if a ≤ q ∧ q < j then 1 else unitR a q) s.length = rowC (rowW s (.back bn) a) s.length := rowC_ext (fun q hq => by
              show (if a ≤ q ∧ q < j then 1 else unitR a q) = if a ≤ q then 1 else 0
              unfold unitR
              by_cases e : a ≤ q
              · rw [if_pos ⟨e, by omega⟩, if_pos e]
              · rw [if_neg (by omega), if_neg (by omega), if_neg e])
            refine .go ?_; repeat constructor
            exact PX.cutX ⟨g35, s.length + 1, GrowV.zero hok⟩ ⟨rfl, rfl, rfl, trivial⟩ (by rw [← VR_eq (g := g35) (cap := s.length + 1) e3]; exact (.i (by repeat constructor)))
        refine .go ?_; repeat constructor
        refine EL.eqlI rfl rfl rfl rfl ?_
        refine EL.assign rfl rfl rfl ?_
        refine .go ?_; repeat constructor
        refine ES.condD rfl (fun h5 => ?_) (fun h5 => ?_)
        · obtain ⟨lo, hi, k, rfl⟩ := kind_5 (show r.kind = 5 by omega)
          have hkf := hfine.2.2.2.2
          have hks : k.sz + 1 = (RE.rep lo hi k).sz := by simp [RE.sz]
          have hrep := repeat_c s hs gc gm w0 B lo hi k g off hfine hn (fun g' off' hk => ih k (by omega) hkf s hs gc gm w0 B g' off' hk) g35 (s.length + 1) (unitR a) es (unit_le a) hok
          refine .go ?_; repeat constructor
          refine EL.move rfl rfl rfl ?_
          refine EL.move rfl rfl rfl ?_
          refine EL.move rfl rfl rfl ?_
          (refine EL.callMw rfl rfl rfl ent61 rfl hrep (by repeat constructor) ?_; intro x)
          refine EL.assign rfl rfl rfl ?_
          refine .go ?_; repeat constructor
          have e1 : rowC (repR capW s.length lo hi k.thin (rowW s k) (unitR a)) s.length = rowC (rowW s (.rep lo hi k) a) s.length := rowC_ext (fun q _ => by show _ = rowR capW s (.rep lo hi k) a q; rw [rowR])
          exact PX.cutX ⟨x.g, x.cap, x.G.wide (by omega)⟩ ⟨rfl, rfl, rfl, trivial⟩ (by rw [← VR_eq (g := x.g) (cap := x.cap) e1]; exact (.i (by repeat constructor)))
        have hk04 : r.kind = 0 ∨ r.kind = 4 := by have := kind_le r; omega
        have hcat := rowW_cat s r a hk04
        refine .go ?_; repeat constructor
        refine EL.move rfl rfl rfl ?_
        refine EL.nilCheck rfl rfl rfl ?_
        refine EL.fieldAddr rfl rfl rfl rfl rfl rfl rfl rfl ?_
        refine EL.loadOld rfl rfl rfl rfl rfl hrd rfl ?_
        refine EL.lenL rfl rfl rfl rfl rfl ?_
        refine EL.move rfl rfl rfl ?_
        refine .go ?_; repeat constructor
        refine ES.loop (σ := KSt w0 B s es b) (fun x => x.i ≤ r.kids.length ∧ (∀ q, x.v q ≤ 4097) ∧ catR capW s (r.kids.drop x.i) x.v = rowW s r a) (fun x => [(0, Pv gc 0), (1, Pv g off), (7, Pv g7 0), (11, .slice (some ⟨x.g, 0, none⟩) (s.length + 1) x.cap), (47, Iv (r.kids.length : Nat)), (48, Iv (x.i : Nat))])
          (fun x => CB gc gm s :: MH gm x.G.es' :: HA.blk g7 (.cells #[Pv g off, Iv (a : Nat)] 153) :: VR x.g x.cap s.length x.v :: R) (fun x => r.kids.length - x.i) ⟨0, g35, s.length + 1, unitR a, GrowV.zero hok⟩ ⟨Nat.zero_le _, unit_le a, by rw [List.drop_zero]; exact hcat.symm⟩ ⟨rfl, rfl, rfl, rfl, rfl, rfl, trivial⟩ (.i (by repeat constructor)) ?_
        rintro ⟨i, ig, icap, iv, G⟩ ⟨hi1, hi2, hi3⟩
        dsimp only at hi1 hi2 hi3 ⊢
        refine .go ?_; repeat constructor
        refine EL.lss rfl rfl rfl rfl ?_
        refine .go ?_; repeat constructor
        refine ES.condD rfl (fun hlt => ?_) (fun hge => ?_)
        · have hlt' : i < r.kids.length := by omega
          obtain ⟨kg, ko, rfl, hk⟩ := hkids (by intro e; rw [e] at hlt'; simp at hlt')
          obtain ⟨k, hki⟩ : ∃ k, r.kids[i]? = some k := ⟨_, List.getElem?_eq_getElem hlt'⟩
          have hkn := hk i k hki
          have hmem := List.mem_of_getElem? hki
          have hks := kids_lt hmem
          have hthr := through_c s hs gc gm w0 B k kg (ko + i * 9) (ih k (by omega) (fine_kid hfine hmem) s hs gc gm w0 B kg (ko + i * 9) hkn) ig icap iv false G.es' hi2 G.ok
          refine .go ?_; repeat constructor
          refine EL.move rfl rfl rfl ?_
          refine EL.assign rfl rfl rfl ?_
          refine .go ?_; repeat constructor
          refine EL.move rfl rfl rfl ?_
          refine EL.move rfl rfl rfl ?_
          refine EL.move rfl rfl rfl ?_
          refine EL.nilCheck rfl rfl rfl ?_
          refine EL.fieldAddr rfl rfl rfl rfl rfl rfl rfl rfl ?_
          refine EL.loadOld rfl rfl rfl rfl rfl hrd rfl ?_
          refine EL.move rfl rfl rfl ?_
          refine EL.indexAddrL rfl rfl rfl rfl rfl rfl rfl (by omega) ?_
          (refine EL.callMw rfl rfl rfl ent62 rfl hthr (by repeat constructor) ?_; intro x)
          refine EL.assign rfl rfl rfl ?_
          refine .go ?_; repeat constructor
          refine EL.add1 rfl rfl rfl rfl (by omega) ?_
          refine EL.move rfl rfl rfl ?_
          refine .go ?_; repeat constructor
          refine PX.loop ⟨i + 1, x.g, x.cap, thrR capW s.length (rowW s k) iv false, G.trans x.G (by omega)⟩ ⟨hlt', fun q => thr_le _ _ _ _ _, ?_⟩ (by simp only; omega) ⟨rfl, rfl, rfl, rfl, rfl, rfl, trivial⟩ (.i (by repeat constructor))
          dsimp only
          rw [List.drop_eq_getElem_cons hlt', catR] at hi3
          rw [show r.kids[i] = k from (List.getElem?_eq_some_iff.1 hki).2] at hi3
          exact hi3
        · obtain rfl : i = r.kids.length := by omega
          rw [List.drop_length, catR] at hi3
          subst hi3
          refine .go ?_; repeat constructor
          exact PX.cutX ⟨ig, icap, G⟩ ⟨rfl, rfl, rfl, trivial⟩ (.i (by repeat constructor))
      · have hnew := memo_new hn x.G (by omega) hmg
        have hent : EntOk w0 B s ⟨⟨g, off, [(a : Int)]⟩, .slice (some ⟨x.g, 0, none⟩) (s.length + 1) x.cap, rowC (rowW s r a) s.length⟩ r a := ⟨hn, rfl, ha, ⟨_, _, rfl⟩, rfl⟩
        have hok2 : MemoOk w0 B s (x.G.es' ++ [⟨⟨g, off, [(a : Int)]⟩, .slice (some ⟨x.g, 0, none⟩) (s.length + 1) x.cap, rowC (rowW s r a) s.length⟩]) := fun m hm => by
          rcases List.mem_append.1 hm with hm | hm
          · exact x.G.ok m hm
          · rw [List.mem_singleton] at hm; subst hm; exact ⟨r, a, hent⟩
        let G2 : GrowV w0 B s es r.sz := ⟨x.G.es' ++ [⟨⟨g, off, [(a : Int)]⟩, .slice (some ⟨x.g, 0, none⟩) (s.length + 1) x.cap, rowC (rowW s r a) s.length⟩], x.G.new ++ [⟨⟨g, off, [(a : Int)]⟩, .slice (some ⟨x.g, 0, none⟩) (s.length + 1) x.cap, rowC (rowW s r a) s.length⟩], by rw [x.G.eq, List.append_assoc], hok2, fun m hm => by
          rcases List.mem_append.1 hm with hm | hm
          · obtain ⟨r', a', h1, h2⟩ := x.G.small m hm
            exact ⟨r', a', h1, by omega⟩
          · rw [List.mem_singleton] at hm; subst hm; exact ⟨r, a, hent, Nat.le_refl _⟩⟩
        refine .g0 ?_; repeat constructor
        refine ES.drawG (X := Unit) (fun _ => [(11, .slice (some ⟨x.g, 0, none⟩) (s.length + 1) x.cap)]) (fun _ => CB gc gm s :: MH gm G2.es' :: R) 6 (CB gc gm s :: HA.blk g7 (.cells #[Pv g off, Iv (a : Nat)] 153) :: R) mixed (by decide +kernel) (.i (by repeat constructor)) ?_ (fun _ => ?_)
        · refine EG.take 0 rfl (by decide +kernel) CutX.no_panic (by decide +kernel) rfl rfl rfl (RV.move rfl) ?_
          refine EG.take 1 rfl (by decide +kernel) CutX.no_panic (by decide +kernel) rfl rfl rfl (RV.nilCheck rfl) ?_
          refine EG.take 2 rfl (by decide +kernel) CutX.no_panic (by decide +kernel) rfl rfl rfl (RV.fieldAddr rfl rfl rfl rfl rfl rfl) ?_
          refine EG.take 3 rfl (by decide +kernel) CutX.no_panic (by decide +kernel) rfl rfl rfl (RV.loadB rfl rfl rfl (by repeat constructor) rfl) ?_
          refine EG.take 4 rfl (by decide +kernel) CutX.no_panic (by decide +kernel) rfl rfl rfl (RV.loadAggB rfl rfl rfl (by repeat constructor) rfl) ?_
          refine EG.take 5 rfl (by decide +kernel) CutX.no_panic (by decide +kernel) rfl rfl rfl (RV.move rfl) ?_
          refine EG.loud 6 rfl (by decide +kernel) ?_
          refine EL.mapSet (k := ⟨g, off, [(a : Int)]⟩) (n := 1) rfl rfl rfl rfl rfl rfl keyW rfl (memo_len x.G.ok) (fun w hs => ⟨PlainAt.of_node hn hs, memo_plain x.G.ok hs⟩) hnew (by repeat constructor) (rowC_len _ _).symm ?_
          refine EG.nextL (by decide +kernel) rfl (by decide +kernel) ?_
          refine EG.done (by decide +kernel) ?_
          exact PX.cutX () ⟨rfl, trivial⟩ (.i (by repeat constructor))
        refine .go ?_; repeat constructor
        refine EL.move rfl rfl rfl ?_
        refine EL.assign rfl rfl rfl ?_
        refine .go ?_; repeat constructor
        exact PX.ret rfl Try.results41 (.cons (.tmp rfl) .nil) (fun w hs => ⟨⟨G2, _, List.mem_append_right _ List.mem_cons_self, hent⟩, rfl, hs.ent (.i (by repeat constructor))⟩)
end Go.Proofs.Ytblpgpgbnlhjlaa
namespace Go.Proofs.Ytblpgpgbnlhjlaa
open Go Go.RowKit Sl
set_option maxRecDepth 100000
set_option maxHeartbeats 8000000
set_option linter.unusedVariables false
set_option linter.unusedSimpArgs false
attribute [local irreducible] ES EL PX wps
theorem row_c (r : RE) (hf : r.fine) (s : List UInt8) (hs : s.length ≤ 1024) (gc gm : Nat) (w0 : World) (B g off : Nat) (hn : NodeRd w0 B g off r) : RowCt s gc gm w0 B r g off := row_n r.sz r (Nat.le_refl _) hf s hs gc gm w0 B g off hn
theorem waysCount_c (t s : List UInt8) (ht : t.length ≤ 4611686018427387904) (hs : s.length ≤ 4611686018427387904) (a : Int) (w : World) (hG : GR w w.heap.size) :
    Pure Try.prog 16 #[Sv t, Sv s, Iv a] (fun _ : Unit => .tuple #[Iv ((waysM t s a).1 : Nat), Iv (waysM t s a).2]) (fun _ => []) w := by
  have hw : waysM t s a = if (parseM t).e ≠ 0 then (0, (parseM t).e) else if 1024 < s.length then (0, 15) else if a < 0 ∨ (s.length : Int) < a then (0, 1) else (countM s (parseM t).tree a.toNat, 0) := rfl
  have hpf := parse_fine t
  have hpc := fun w hG => parse_c t ht w hG
  generalize parseM t = p at hw hpf hpc
  obtain ⟨tree, pe, pat⟩ := p
  dsimp only at hw hpf hpc
  refine calls_of_ES TB Try.func16 rfl _ Try.ntmps16 rfl (Sat.start w) ?_
  refine .go ?_; repeat constructor
  refine EL.assign rfl rfl rfl ?_
  refine EL.assign rfl rfl rfl ?_
  refine .go ?_; repeat constructor
  refine EL.move rfl rfl rfl ?_
  (refine EL.callXw rfl rfl rfl ent40 rfl (fun w hs => hpc w (GR.sat hG hs)) ?_; intro px)
  refine EL.move rfl rfl rfl ?_
  refine EL.extract rfl rfl rfl rfl ?_
  refine EL.extract rfl rfl rfl rfl ?_
  (refine EL.alloc rfl rfl rfl ?_; intro g8)
  (refine EL.alloc rfl rfl rfl ?_; intro g9)
  (apply EL.storeAll; exact rfl; exact rfl; exact rfl; exact rfl; exact rfl; (case p => repeat constructor); exact rfl; (case h1 => exact (by first | rfl | exact all1 rfl | (intro u hu; simp only [List.mem_cons, List.not_mem_nil, or_false] at hu; rcases hu with rfl | rfl | rfl | rfl <;> rfl) | (intro u hu; simp at hu; rcases hu with rfl | rfl | rfl | rfl <;> rfl) | (intro u hu; simp at hu; rcases hu with rfl | rfl | rfl <;> rfl) | (intro u hu; simp at hu; rcases hu with rfl | rfl <;> rfl) | (intro u hu; simp at hu; obtain ⟨_, _, rfl⟩ := hu; rfl))))
  (apply EL.storeAll; exact rfl; exact rfl; exact rfl; exact rfl; exact rfl; (case p => repeat constructor); exact rfl; (case h1 => exact (by first | rfl | exact all1 rfl | (intro u hu; simp only [List.mem_cons, List.not_mem_nil, or_false] at hu; rcases hu with rfl | rfl | rfl | rfl <;> rfl) | (intro u hu; simp at hu; rcases hu with rfl | rfl | rfl | rfl <;> rfl) | (intro u hu; simp at hu; rcases hu with rfl | rfl | rfl <;> rfl) | (intro u hu; simp at hu; rcases hu with rfl | rfl <;> rfl) | (intro u hu; simp at hu; obtain ⟨_, _, rfl⟩ := hu; rfl))))
  refine .go ?_; repeat constructor
  refine .go ?_; repeat constructor
  refine EL.fieldAddr rfl rfl rfl rfl rfl rfl rfl rfl ?_
  (apply EL.loadB; exact rfl; exact rfl; exact rfl; exact rfl; exact rfl; (case hm => repeat constructor); exact rfl)
  refine EL.neqI rfl rfl rfl rfl ?_
  refine EL.assign rfl rfl rfl ?_
  refine .go ?_; repeat constructor
  refine ES.condN rfl (fun hne => ?_) (fun he => ?_)
  · rw [if_pos hne] at hw
    rw [hw]
    refine .g0 ?_; repeat constructor
    refine ES.draw (X := Unit) (fun _ => [(6, Iv 0), (7, Iv pe)]) (fun _ => []) (HA.blk g9 (.cells #[Iv pe, Iv (pat : Nat)] 67) :: []) mixed (.i (by repeat constructor)) ?_ (fun _ => ?_)
    · refine ED.take 0 rfl (by decide +kernel) CutX.no_panic (by decide +kernel) rfl rfl rfl (RV.fieldAddr rfl rfl rfl rfl rfl rfl) ?_
      refine ED.take 1 rfl (by decide +kernel) CutX.no_panic (by decide +kernel) rfl rfl rfl (RV.loadB rfl rfl rfl (by repeat constructor) rfl) ?_
      refine ED.take 2 rfl (by decide +kernel) CutX.no_panic (by decide +kernel) rfl rfl rfl (RV.assign rfl) ?_
      refine ED.take 3 rfl (by decide +kernel) CutX.no_panic (by decide +kernel) rfl rfl rfl (RV.assign rfl) ?_
      refine ED.done (by decide +kernel) ?_
      exact PX.cutX () ⟨rfl, rfl, trivial⟩ (.i (by repeat constructor))
    refine .go ?_; repeat constructor
    exact PX.ret rfl Try.results16 (.cons (.tmp rfl) (.cons (.tmp rfl) .nil)) (fun w hs => ⟨(), rfl, hs.ent (.i (by repeat constructor))⟩)
  rw [if_neg (fun h => h he)] at hw
  refine .go ?_; repeat constructor
  refine EL.move rfl rfl rfl ?_
  refine EL.lenS rfl rfl rfl rfl rfl ?_
  refine EL.gtr rfl rfl rfl rfl ?_
  refine EL.assign rfl rfl rfl ?_
  refine .go ?_; repeat constructor
  refine ES.condD rfl (fun hl => ?_) (fun hl => ?_)
  · rw [if_pos (by omega)] at hw
    rw [hw]
    refine .go ?_; repeat constructor
    refine EL.assign rfl rfl rfl ?_
    refine EL.assign rfl rfl rfl ?_
    refine .go ?_; repeat constructor
    exact PX.ret rfl Try.results16 (.cons (.tmp rfl) (.cons (.tmp rfl) .nil)) (fun w hs => ⟨(), rfl, hs.ent (.i (by repeat constructor))⟩)
  rw [if_neg (by omega)] at hw
  have hs2 : s.length ≤ 1024 := by omega
  refine .go ?_; repeat constructor
  refine EL.cutX (X := Unit) (fun _ => [(0, Sv t), (1, Sv s), (2, Iv a), (8, Pv g8 0), (29, .bool (decide (a < 0 ∨ (s.length : Int) < a)))]) (fun _ => [HA.blk g8 (.cells (reCells tree (.slice px.ad tree.kids.length px.cap)).toArray 82), HA.forest px.fp [tree] (reCells tree (.slice px.ad tree.kids.length px.cap))]) ?_ (fun _ => ?_)
  · refine .go ?_; repeat constructor
    refine EL.move rfl rfl rfl ?_
    refine EL.lss rfl rfl rfl rfl ?_
    refine EL.move rfl rfl rfl ?_
    first | refine EL.splitD (d := 32) rfl (fun hp32 => ?_) (fun hp32 => ?_) | refine EL.splitN (d := 32) rfl (fun hp32 => ?_) (fun hp32 => ?_) | refine EL.splitB (d := 32) rfl (fun hp32 => ?_) (fun hp32 => ?_)
    · refine EL.pass rfl rfl rfl ?_
      refine EL.pass rfl rfl rfl ?_
      refine EL.pass rfl rfl rfl ?_
      refine EL.pass rfl rfl rfl ?_
      refine EL.pickT rfl rfl rfl rfl ?_
      refine EL.assign rfl rfl rfl ?_
      exact EL.endX () ⟨rfl, rfl, rfl, rfl, getA rfl (congrArg Value.bool (by rw [Bool.eq_iff_iff]; simp only [decide_eq_true_eq, true_iff]; omega)), trivial⟩ (.i (by repeat constructor))
    · refine EL.move rfl rfl rfl ?_
      refine EL.move rfl rfl rfl ?_
      refine EL.lenS rfl rfl rfl rfl rfl ?_
      refine EL.gtr rfl rfl rfl rfl ?_
      refine EL.pickF rfl rfl rfl rfl ?_
      refine EL.assign rfl rfl rfl ?_
      exact EL.endX () ⟨rfl, rfl, rfl, rfl, getA rfl (congrArg Value.bool (by rw [Bool.eq_iff_iff]; simp only [decide_eq_true_eq, true_iff]; omega)), trivial⟩ (.i (by repeat constructor))
  refine ES.condD rfl (fun hr => ?_) (fun hr => ?_)
  · rw [if_pos hr] at hw
    rw [hw]
    refine .go ?_; repeat constructor
    refine EL.assign rfl rfl rfl ?_
    refine EL.assign rfl rfl rfl ?_
    refine .go ?_; repeat constructor
    exact PX.ret rfl Try.results16 (.cons (.tmp rfl) (.cons (.tmp rfl) .nil)) (fun w hs => ⟨(), rfl, hs.ent (.i (by repeat constructor))⟩)
  rw [if_neg hr] at hw
  rw [hw]
  obtain ⟨i, rfl⟩ : ∃ i : Nat, a = (i : Int) := ⟨a.toNat, by omega⟩
  have hi : i ≤ s.length := by omega
  rw [Int.toNat_natCast]
  refine .g0 ?_; repeat constructor
  refine ES.rebase (fun w1 hw1 => ?_)
  have hn := node_of hw1 (by repeat constructor) (by repeat constructor)
  refine .go ?_; repeat constructor
  refine EL.move rfl rfl rfl ?_
  (refine EL.makeMap 3 rfl rfl ?_; intro gm)
  (apply EL.build2; exact rfl; exact rfl; exact rfl; exact rfl; exact rfl; exact rfl; exact rfl; exact rfl; exact rfl; exact rfl)
  (refine EL.box rfl rfl rfl ?_; intro g41)
  refine EL.assign rfl rfl rfl ?_
  refine .go ?_; repeat constructor
  refine EL.assign rfl rfl rfl ?_
  refine .go ?_; repeat constructor
  refine EL.move rfl rfl rfl ?_
  refine EL.move rfl rfl rfl ?_
  have hrow := row_c tree hpf s hs2 g41 gm w1 w1.heap.size g8 0 hn i [] hi (fun m hm => by simp at hm)
  (refine EL.callMw rfl rfl rfl ent41 rfl hrow (by repeat constructor) ?_; intro x)
  obtain ⟨gb, rcap, hxv⟩ := x.ent.val
  refine EL.rew (d := 44) (v' := .slice (some ⟨gb, 0, none⟩) (s.length + 1) rcap) rfl hxv ?_
  refine EL.lenL rfl rfl rfl rfl rfl ?_
  refine EL.move rfl rfl rfl ?_
  refine .go ?_; repeat constructor
  have hle : ∀ q, rowW s tree i q ≤ 4097 := row_le s tree i
  have hsl : ∀ j, sumGo capW (rowW s tree i) j ≤ 4097 := fun j => by
    cases j with
    | zero => simp [sumGo]
    | succ j => rw [sumGo]; exact cap_le _
  refine ES.loop (σ := Nat) (fun j => j ≤ s.length + 1) (fun j => [(11, Iv (sumGo capW (rowW s tree i) j : Nat)), (44, .slice (some ⟨gb, 0, none⟩) (s.length + 1) rcap), (45, Iv ((s.length + 1 : Nat) : Int)), (46, Iv (j : Nat))]) (fun j => MH gm x.G.es' :: []) (fun j => s.length + 1 - j) 0 (Nat.zero_le _) ⟨rfl, rfl, rfl, rfl, trivial⟩ (.i (by repeat constructor)) ?_
  intro j hj
  refine .go ?_; repeat constructor
  refine EL.lss rfl rfl rfl rfl ?_
  refine .go ?_; repeat constructor
  refine ES.condD rfl (fun hlt => ?_) (fun hge => ?_)
  · have hjn : j ≤ s.length := by omega
    have h1 := hle j
    have h2 := hsl j
    refine .go ?_; repeat constructor
    refine EL.indexAddrL1 rfl rfl rfl rfl rfl rfl rfl rfl (by omega) ?_
    refine EL.ofRV (RV.loadMemo rfl rfl rfl (by repeat constructor) x.mem hxv (by rw [x.ent.cells]; exact rowC_get _ hjn)) rfl rfl rfl (by intro c h; cases h) ?_
    refine EL.assign rfl rfl rfl ?_
    refine .go ?_; repeat constructor
    refine EL.move rfl rfl rfl ?_
    refine EL.move rfl rfl rfl ?_
    refine EL.addN rfl rfl rfl rfl rfl (by omega) ?_
    refine EL.ofRV (RV.minI rfl rfl) rfl rfl rfl (by intro c h; cases h) ?_
    refine EL.assign rfl rfl rfl ?_
    refine .go ?_; repeat constructor
    refine EL.add1 rfl rfl rfl rfl (by omega) ?_
    refine EL.move rfl rfl rfl ?_
    refine .go ?_; repeat constructor
    exact PX.loop (j + 1) (by omega) (by omega) ⟨getA rfl (congrArg Iv (by rw [sumGo]; unfold capW; omega)), rfl, rfl, rfl, trivial⟩ (.i (by repeat constructor))
  · obtain rfl : j = s.length + 1 := by omega
    refine .go ?_; repeat constructor
    refine EL.move rfl rfl rfl ?_
    refine EL.assign rfl rfl rfl ?_
    refine EL.assign rfl rfl rfl ?_
    refine .go ?_; repeat constructor
    exact PX.ret rfl Try.results16 (.cons (.tmp rfl) (.cons (.tmp rfl) .nil)) (fun w hs => ⟨(), rfl, (hw1.join hs).ent (.nil _)⟩)
end Go.Proofs.Ytblpgpgbnlhjlaa
namespace Go.Proofs.Ytblpgpgbnlhjlaa
open Go Go.RowKit Sl
set_option maxRecDepth 100000
set_option maxHeartbeats 8000000
set_option linter.unusedVariables false
set_option linter.unusedSimpArgs false
attribute [local irreducible] ES EL PX wps
structure Tk where
  r : RE
  k : Nat
  i : Nat
  j : Nat
structure Br where
  ts : List Tk
  ends : List Nat
  spans : List Spn
def listB (s : List UInt8) : RE → Nat → Nat → Nat → List Nat
  | .cat ks, k, i, j => splL s ((ks.drop k).take 1) (ks.drop (k + 1)) i j 0
  | .rep lo hi x, k, i, j => splL s [x] [leftM lo hi x (k + 1)] i j 0
  | _, _, _, _ => []
def costB : RE → Nat → Bool
  | .cat ks, k => decide (costL ((ks.drop k).take 1) + 1 ≤ 131072) && decide (costL (ks.drop (k + 1)) + 1 ≤ 131072)
  | .rep lo hi x, k => decide (costL [x] + 1 ≤ 131072) && decide (costL [leftM lo hi x (k + 1)] + 1 ≤ 131072)
  | _, _ => true
def turnB (lo : Nat) (hi : Int) (x : RE) (k : Nat) : Nat := if hi < 0 then min k (leastM lo x) else k
def cutEB (l : List Nat) (i : Nat) (b : Bool) : List Nat := if b = true ∧ l.getLast? = some i then l.dropLast else l
def endsB (s : List UInt8) (t : Tk) (z : List Spn) : Option (List Nat × Bool) :=
  if t.i ≤ t.j ∧ t.j ≤ s.length then
    match t.r with
    | .back n =>
      match z[n]? with
      | none => none
      | some (a, b) => if a < 0 then some ([], false) else if a ≤ b ∧ b ≤ (s.length : Int) then some ([], decide ((s.take b.toNat).drop a.toNat = (s.take t.j).drop t.i)) else none
    | .group _ _ => some ([t.j], true)
    | .cat ks =>
      if t.k = ks.length then some ([], true)
      else if t.k + 1 = ks.length then some ([t.j], true)
      else if t.k < ks.length ∧ costB t.r t.k = true then some (listB s t.r t.k t.i t.j, true)
      else none
    | .rep lo hi x =>
      if t.i = t.j ∧ leastM lo x ≤ t.k then some ([], true)
      else if t.k ≤ 1000000 ∧ costB t.r (turnB lo hi x t.k) = true then some (cutEB (listB s t.r (turnB lo hi x t.k) t.i t.j) t.i (decide (leastM lo x ≤ t.k)), true)
      else none
    | _ => some ([], true)
  else none
def needsB (t : Tk) : Bool :=
  match t.r with
  | .cat ks => decide (t.k < ks.length)
  | .rep lo _ x => decide (t.i < t.j) || decide (t.k < leastM lo x)
  | .group _ _ => true
  | _ => false
def followB : List Tk → Nat → List Spn → Option (List Tk × List Spn)
  | [], _, _ => none
  | t :: rest, e, z =>
    match t.r with
    | .group n x => if n < z.length then some (⟨x, 0, t.i, t.j⟩ :: rest, z.set n ((t.i : Int), (t.j : Int))) else none
    | .cat ks => match ks[t.k]? with
      | some x => some (⟨x, 0, t.i, e⟩ :: ⟨t.r, t.k + 1, e, t.j⟩ :: rest, z)
      | none => none
    | .rep _ _ x => some (⟨x, 0, t.i, e⟩ :: ⟨t.r, t.k + 1, e, t.j⟩ :: rest, z)
    | _ => none
def popB : List Br → Option (Br × List Br)
  | [] => none
  | b :: st => if b.ends = [] then popB st else some (b, st)
def runB (s : List UInt8) : Nat → List Tk → List Br → List Spn → Option (Option (List Spn))
  | 0, _, _, _ => none
  | _ + 1, [], _, z => some (some z)
  | f + 1, t :: rest, st, z =>
    match endsB s t z with
    | none => none
    | some (es, ok) =>
      if ok = true ∧ es = [] ∧ needsB t = false then runB s f rest st z
      else if ok = true ∧ es ≠ [] then
        match followB (t :: rest) (es.headD 0) z with
        | none => none
        | some (now, z') => runB s f now (⟨t :: rest, es.tail, z⟩ :: st) z'
      else
        match popB st with
        | none => some none
        | some (b, st') =>
          match followB b.ts (b.ends.headD 0) b.spans with
          | none => none
          | some (now, z') => runB s f now (⟨b.ts, b.ends.tail, b.spans⟩ :: st') z'
def fromB (s : List UInt8) (F : Nat) (r : RE) (g i : Nat) (ends : List Bool) : Nat → Nat → Option (Option (List Spn) × Nat)
  | 0, q => some (none, q)
  | m + 1, q =>
    if ends.getD (i + m) false = true then
      if q < F then none
      else
        match runB s F [⟨r, 0, i, i + m⟩] [] (List.replicate (g + 1) (-1, -1)) with
        | none => none
        | some none => fromB s F r g i ends m (q - F)
        | some (some z) => if 0 < z.length then some (some (z.set 0 ((i : Int), ((i + m : Nat) : Int))), q - F) else none
    else fromB s F r g i ends m q
structure MB10 where
  spans : List Spn
  ok : Bool
  e : Int
def matchB (s : List UInt8) (F : Nat) (r : RE) (g : Nat) : Nat → Nat → Nat → Option MB10
  | 0, _, _ => some ⟨[], false, 0⟩
  | n + 1, i, q =>
    if 4096 < countM s r i then some ⟨[], false, 14⟩
    else if 0 < countM s r i then
      if q = 0 then none
      else
        match fromB s F r g i (endsM (makeM [r]) s i 0).marks (s.length + 1 - i) (q - 1) with
        | none => none
        | some (some z, _) => some ⟨z, true, 0⟩
        | some (none, q') => matchB s F r g n (i + 1) q'
    else matchB s F r g n (i + 1) q
def spendB : Nat := 16000
def backM (F : Nat) (t s : List UInt8) (a : Int) : Option MB10 :=
  if (parseM t).e ≠ 0 then some ⟨[], false, (parseM t).e⟩
  else if 1024 < s.length then some ⟨[], false, 15⟩
  else if a < 0 ∨ (s.length : Int) < a then some ⟨[], false, 1⟩
  else if (measM (parseM t).tree).grp < 0 ∨ 9 < (measM (parseM t).tree).grp ∨ 131072 < costL [(parseM t).tree] + 1 then none
  else matchB s F (parseM t).tree (measM (parseM t).tree).grp.toNat (s.length + 1 - a.toNat) a.toNat spendB
theorem back_awake : (backM 60 [92, 40, 97, 42, 92, 41, 98, 92, 49] [97, 97, 98, 97, 97] 0).map (fun m => (m.spans, m.ok, m.e)) = some ([(0, 5), (0, 2)], true, 0) := by decide +kernel
def FS.same (x y : FS) : Prop := x.marks = y.marks ∧ x.seen = y.seen ∧ x.todo = y.todo
theorem push_same {n : Nat} {x y : FS} (h : x.same y) (q a : Nat) : (pushM n x q a).same (pushM n y q a) := by
  obtain ⟨h1, h2, h3⟩ := h
  unfold pushM
  rw [h2]
  split
  · exact ⟨h1, h2, h3⟩
  · exact ⟨h1, rfl, by simp [h3]⟩
theorem edge_same {s : List UInt8} {fwd : Bool} {a : Nat} {x y : FS} (h : x.same y) (e : Ed) : (edgeM s fwd a x e).same (edgeM s fwd a y e) := by
  unfold edgeM
  cases placeM s fwd e a with
  | none => exact h
  | some b =>
    dsimp only
    exact push_same (n := s.length) (x := { x with steps := x.steps + cntM s.length fwd e a }) (y := { y with steps := y.steps + cntM s.length fwd e a }) h e.to b
theorem fold_same {s : List UInt8} {fwd : Bool} {a : Nat} : ∀ (l : List Ed) {x y : FS}, x.same y → (l.foldl (edgeM s fwd a) x).same (l.foldl (edgeM s fwd a) y)
  | [], _, _, h => h
  | e :: l, _, _, h => fold_same l (edge_same h e)
theorem flood_same (es : List (List Ed)) (s : List UInt8) (goal : Nat) (fwd : Bool) : ∀ (f : Nat) {x y : FS}, x.same y → (floodGo es s goal fwd f x).same (floodGo es s goal fwd f y)
  | 0, _, _, h => h
  | f + 1, x, y, h => by
    rw [floodGo, floodGo, ← h.2.2]
    cases x.todo.getLast? with
    | none => exact h
    | some p =>
      refine flood_same es s goal fwd f (fold_same _ ?_)
      obtain ⟨h1, h2, h3⟩ := h
      exact ⟨by simp [popM, h1], h2, by simp [popM, h3]⟩
theorem endsM_st (A : AM × Nat) (s : List UInt8) (i st : Nat) : (endsM A s i st).marks = (endsM A s i 0).marks := (flood_same _ _ _ _ _ (x := fs0 _ _ _ st) (y := fs0 _ _ _ 0) ⟨rfl, rfl, rfl⟩).1
theorem startsM_st (A : AM × Nat) (s : List UInt8) (j st : Nat) : (startsM A s j st).marks = (startsM A s j 0).marks := (flood_same _ _ _ _ _ (x := fs0 _ _ _ st) (y := fs0 _ _ _ 0) ⟨rfl, rfl, rfl⟩).1
theorem splL_st (s : List UInt8) (hd tl : List RE) (i j st : Nat) : splL s hd tl i j st = splL s hd tl i j 0 := by
  have h1 : (splE s hd i st).marks = (splE s hd i 0).marks := endsM_st _ _ _ _
  have h2 : (splS s hd tl i j st).marks = (splS s hd tl i j 0).marks := (startsM_st _ _ _ _).trans (startsM_st _ _ _ _).symm
  unfold splL
  rw [h1, h2]
end Go.Proofs.Ytblpgpgbnlhjlaa
namespace Go.Proofs.Ytblpgpgbnlhjlaa.Sl
open Go Go.RowKit
set_option linter.unusedVariables false
set_option linter.unusedSimpArgs false
section pools
variable {C : Cx} {all : Array Oper} {ops : List Oper} {cds : List Code} {Q : Qt} {E : Env} {H R : List HA} {d ty t g off e : Nat} {pos : String} {af : Array Edge} {gd : Option (Nat × Bool)} {x : Operand} {v : Value} {pool : List HA}
theorem pool_get {w0 w : World} {B : Nat} {A : HA} (hs : Sat w0 B H w) (hm : Mem H (HA.pack pool)) (hp : A ∈ pool) : A.holds w := hs.all _ hm.mem A hp
theorem RV.loadPool {ti : TI} {cs : Array Value} {fr : Nat × Nat} (hx : E.ev x = some (Pv g off)) (ht : C.T.f t = some ti) (hu : ti.agg = false) (hm : Mem H (HA.pack pool)) (hp : HA.blk g (.cells cs e fr) ∈ pool) (hc : cs[off]? = some v) : RunV C E H ⟨some d, .load t x, ty, pos, af, gd⟩ v :=
  RV.load hx ht hu (fun w hs => by
    have hb : w.heap[g]? = some (.cells cs e fr) := pool_get hs hm hp
    rw [blk_cell hb]; exact hc)
theorem EL.loadPool {ti : TI} {cs : Array Value} {fr : Nat × Nat} (hg : guardOk all E gd = some true) (hx : E.ev x = some (Pv g off)) (ht : C.T.f t = some ti) (hu : ti.agg = false) (hd : Nat.blt d C.n = true) (hm : Mem H (HA.pack pool)) (hp : HA.blk g (.cells cs e fr) ∈ pool) (hc : cs[off]? = some v)
    (k : EL C all ops Q ((d, v) :: E) H) : EL C all (⟨some d, .load t x, ty, pos, af, gd⟩ :: ops) Q E H := EL.ofRV (RV.loadPool hx ht hu hm hp hc) hg rfl hd (by intro c h; cases h) k
theorem Sat.poolIn {w0 w : World} {B : Nat} {A : HA} (h : Sat w0 B (A :: HA.pack pool :: R) w) : Sat w0 B (HA.pack (A :: pool) :: R) w := by
  have h1 : Sat w0 B (HA.pack pool :: A :: R) w := h.perm (.swap ..)
  exact Sat.pack (Hs := A :: pool) (h1.unpack.perm List.perm_middle)
theorem ES.poolIn {A : HA} (tk : Takes H [A, HA.pack pool] R) (k : ES C cds Q E (HA.pack (A :: pool) :: R)) : ES C cds Q E H := fun a w h => k a w ⟨h.1, Sat.poolIn (h.2.perm tk.perm)⟩
theorem EL.poolIn {A : HA} (tk : Takes H [A, HA.pack pool] R) (k : EL C all ops Q E (HA.pack (A :: pool) :: R)) : EL C all ops Q E H := fun a w h => k a w ⟨h.1, Sat.poolIn (h.2.perm tk.perm)⟩
theorem pool_rd {w0 w : World} {B n cap sz : Nat} {ad : Option Addr} {cs : List Value} (hs : Sat w0 B H w) (hm : Mem H (HA.pack pool)) (hp : HA.row (.slice ad n cap) e sz n cs ∈ pool) : Rd w w.heap.size ad cs := by
  intro hne
  have hA : w.ownsRow 0 e sz (.slice ad n cap) n cs := pool_get hs hm hp
  have hf := row_form hA
  have hpos : 0 < n := by
    rcases Nat.eq_zero_or_pos n with h0 | h0
    · have h1 := hf.2.2.2.1
      rw [h0, Nat.zero_mul] at h1
      exact absurd (List.eq_nil_of_length_eq_zero h1) hne
    · exact h0
  obtain ⟨g, rfl⟩ := hf.2.2.2.2 hpos
  have hlt := (hs.lo g (List.mem_flatMap.2 ⟨_, hm.mem, List.mem_flatMap.2 ⟨_, hp, by simp [HA.row, Value.ownBlock]⟩⟩)).2
  exact ⟨g, 0, rfl, hlt, fun j v hj => by rw [Nat.zero_add]; exact row_cell hA j v hj⟩
theorem pool_rdB {w0 w : World} {B : Nat} {cs : List Value} (hs : Sat w0 B H w) (hm : Mem H (HA.pack pool)) (hp : HA.blk g (.cells cs.toArray e) ∈ pool) : Rd w w.heap.size (some ⟨g, 0, none⟩) cs := fun _ => by
  have hb : w.heap[g]? = some (.cells cs.toArray e (0, 0)) := pool_get hs hm hp
  exact ⟨g, 0, rfl, (Array.getElem?_eq_some_iff.1 hb).1, fun j v hj => by rw [blk_cell hb, Nat.zero_add]; simpa using hj⟩
theorem RV.sliceLoG' {ti te : TI} {el lo n cap : Nat} {ad ad' : Option Addr} {kd : IntKind} {y : Operand} (he : (if cap = lo then ad else ad.map (·.add (lo * te.size))) = ad') (hx : E.ev x = some (.slice ad n cap)) (hy : E.ev y = some (.int kd (lo : Nat))) (ht : C.T.f t = some ti) (hu : ti.u = .slice el) (hte : C.T.f el = some te) (hlo : lo ≤ n) (hn : n ≤ cap) :
    RunV C E H ⟨some d, .slice t x (some y) none none, ty, pos, af, gd⟩ (.slice ad' (n - lo) (cap - lo)) := he ▸ RV.sliceLoG hx hy ht hu hte hlo hn
theorem Sat.pack0 {w0 w : World} {B : Nat} (h : Sat w0 B R w) : Sat w0 B (HA.pack [] :: R) w := Sat.pack (Hs := []) h
theorem ES.pack0 (k : ES C cds Q E (HA.pack [] :: H)) : ES C cds Q E H := fun a w h => k a w ⟨h.1, h.2.pack0⟩
theorem EL.copyNil {ti te : TI} {el : TypeId} {ad2 : Option Addr} {m c : Nat} {news : List Value} {x y : Operand} (hg : guardOk all E gd = some true) (hx : E.ev x = some (.slice none 0 0)) (hy : E.ev y = some (.slice ad2 m c)) (ht : C.T.f t = some ti) (hu : ti.u = .slice el) (hte : C.T.f el = some te)
    (hz1 : te.zero.cells.size = te.size) (hpos : Nat.blt 0 te.size = true) (hd : Nat.blt d C.n = true) (hrd : ∀ w, Sat C.w0 C.B H w → Rd w w.heap.size ad2 news) (hl : news.length = m * te.size) (h1 : ∀ u ∈ news, u.oneCell' = true)
    (h63 : m ≤ maxLen) (hbytes : m * te.bytes ≤ 140737488355328)
    (k : ∀ ad' cap', EL C all ops Q ((d, .slice ad' m cap') :: E) (HA.row (.slice ad' m cap') el te.size m news :: H)) :
    EL C all (⟨some d, .call { callee := .builtin .append, args := #[x, y], argTypes := #[t, t] }, ty, pos, af, gd⟩ :: ops) Q E H :=
  EL.nilRow el te.size (EL.appendW hg hx hy ht hu hte hz1 hpos hd (Pick.here _ _) (fun w hs => hrd w hs.tail) hl h1 (by rw [Nat.zero_add]; exact h63) (by rw [Nat.zero_add]; exact hbytes) (fun a c => by
    rw [Nat.zero_add, List.nil_append]; exact k a c))
end pools
end Go.Proofs.Ytblpgpgbnlhjlaa.Sl
namespace Go.Proofs.Ytblpgpgbnlhjlaa
open Go Go.RowKit Sl
set_option maxRecDepth 100000
set_option maxHeartbeats 8000000
set_option linter.unusedVariables false
set_option linter.unusedSimpArgs false
attribute [local irreducible] ES EL PX wps
abbrev tkC (gr off k i j : Nat) (nx : Option Addr) : List Value := [Pv gr off, Iv (k : Nat), Iv (i : Nat), Iv (j : Nat), .pointer nx]
abbrev TkB (g gr off k i j : Nat) (nx : Option Addr) : HA := HA.blk g (.cells (tkC gr off k i j nx).toArray 199)
def ChainAt (w0 : World) (B : Nat) (pool : List HA) : Option Addr → List Tk → Prop
  | p, [] => p = none
  | p, t :: ts => ∃ g gr off nx, p = some ⟨g, 0, none⟩ ∧ TkB g gr off t.k t.i t.j nx ∈ pool ∧ NodeRd w0 B gr off t.r ∧ t.r.fine ∧ ChainAt w0 B pool nx ts
theorem ChainAt.mono {w0 : World} {B : Nat} {pool pool' : List HA} (h : ∀ A ∈ pool, A ∈ pool') : ∀ {ts : List Tk} {p : Option Addr}, ChainAt w0 B pool p ts → ChainAt w0 B pool' p ts
  | [], _, hc => hc
  | _ :: _, _, ⟨g, gr, off, nx, h1, h2, h3, h4, h5⟩ => ⟨g, gr, off, nx, h1, h _ h2, h3, h4, h5.mono h⟩
def EndsAt (es : List ME) (pool : List HA) (ad : Option Addr) (l : List Nat) : Prop :=
  l ≠ [] → ∃ g off, ad = some ⟨g, off, none⟩ ∧ ∀ w : World, (∀ m ∈ es, w.ownsRow 0 3 1 m.val m.cells.length m.cells) → (∀ A ∈ pool, A.holds w) → ∀ q e, l[q]? = some e → w.cell? ⟨g, off + q, none⟩ = some (Iv (e : Nat))
theorem EndsAt.mono {es es' : List ME} {pool pool' : List HA} {ad : Option Addr} {l : List Nat} (h : EndsAt es pool ad l) (he : ∀ m ∈ es, m ∈ es') (hp : ∀ A ∈ pool, A ∈ pool') : EndsAt es' pool' ad l := fun hne => by
  obtain ⟨g, off, h1, h2⟩ := h hne
  exact ⟨g, off, h1, fun w a b => h2 w (fun m hm => a m (he m hm)) (fun A hA => b A (hp A hA))⟩
theorem EndsAt.nil (es : List ME) (pool : List HA) (ad : Option Addr) : EndsAt es pool ad [] := fun h => absurd rfl h
theorem EndsAt.tail {es : List ME} {pool : List HA} {g off e : Nat} {l : List Nat} (h : EndsAt es pool (some ⟨g, off, none⟩) (e :: l)) : EndsAt es pool (some ⟨g, off + 1, none⟩) l := fun hne => by
  obtain ⟨g', off', h1, h2⟩ := h (by simp)
  simp only [Option.some.injEq, Addr.mk.injEq, and_true] at h1
  obtain ⟨rfl, rfl⟩ := h1
  refine ⟨g, off + 1, rfl, fun w a b q x hx => ?_⟩
  have := h2 w a b (q + 1) x (by simpa using hx)
  rw [show off + 1 + q = off + (q + 1) by omega]
  exact this
theorem EndsAt.pre {es : List ME} {pool : List HA} {ad : Option Addr} {l l' : List Nat} (h : EndsAt es pool ad l) (hp : ∀ q e : Nat, l'[q]? = some e → l[q]? = some e) : EndsAt es pool ad l' := fun hne => by
  obtain ⟨e, hl⟩ : ∃ e, l'[0]? = some e := by
    cases l' with
    | nil => exact absurd rfl hne
    | cons x l' => exact ⟨x, rfl⟩
  obtain ⟨g, off, h1, h2⟩ := h (fun e0 => by have := hp 0 e hl; rw [e0] at this; cases this)
  exact ⟨g, off, h1, fun w a b q x hx => h2 w a b q x (hp q x hx)⟩
structure EntB (w0 : World) (B : Nat) (s : List UInt8) (m : ME) (r : RE) (k i j : Nat) : Prop where
  node : NodeRd w0 B m.key.g m.key.off r
  is : m.key.is = [(k : Int), (i : Int), (j : Int)]
  cells : m.cells = (listB s r k i j).map fun z : Nat => Iv (z : Nat)
  val : ∃ ad cap, m.val = .slice ad (listB s r k i j).length cap
def MemB (w0 : World) (B : Nat) (s : List UInt8) (es : List ME) : Prop := ∀ m ∈ es, ∃ r k i j, EntB w0 B s m r k i j
theorem keyB : KeyTy Try.prog TB 220 3 := ⟨_, _, _, _, _, _, rfl, rfl, sth220, rfl, rfl, rfl, by decide, rfl, rfl, ⟨⟨_, rfl, rfl⟩, rfl, rfl, ⟨_, rfl, rfl⟩, rfl, rfl, ⟨_, rfl, rfl⟩, rfl, rfl, trivial⟩, rfl⟩
theorem memB_plain {w0 w : World} {B : Nat} {H : List HA} {s : List UInt8} {es : List ME} (hok : MemB w0 B s es) (hs : Sat w0 B H w) : ∀ m ∈ es, PlainAt w m.key.g := fun m hm => by
  obtain ⟨r, k, i, j, h⟩ := hok m hm
  exact PlainAt.of_node h.node hs
theorem memB_len {w0 : World} {B : Nat} {s : List UInt8} {es : List ME} (hok : MemB w0 B s es) : ∀ m ∈ es, m.key.is.length = 3 := fun m hm => by
  obtain ⟨r, k, i, j, h⟩ := hok m hm
  rw [h.is]; rfl
theorem memB_hit {w0 : World} {B : Nat} {s : List UInt8} {es : List ME} (hok : MemB w0 B s es) {g off k i j : Nat} {r : RE} (hn : NodeRd w0 B g off r) {m : ME} (h : memoGet ⟨g, off, [(k : Int), (i : Int), (j : Int)]⟩ es = some m) : m ∈ es ∧ EntB w0 B s m r k i j := by
  have h1 := List.mem_of_find?_eq_some h
  have h2 := List.find?_some h
  have h3 : (⟨g, off, [(k : Int), (i : Int), (j : Int)]⟩ : MK) = m.key := of_decide_eq_true h2
  obtain ⟨r', k', i', j', he⟩ := hok m h1
  have hi := he.is
  rw [← h3] at hi
  simp only [List.cons.injEq, and_true] at hi
  obtain ⟨e1, e2, e3⟩ := hi
  obtain rfl : k = k' := by omega
  obtain rfl : i = i' := by omega
  obtain rfl : j = j' := by omega
  have hnd := he.node
  rw [← h3] at hnd
  obtain rfl := hn.inj hnd
  exact ⟨h1, he⟩
theorem ent_ends {w0 w : World} {B gm : Nat} {H : List HA} {s : List UInt8} {es : List ME} {m : ME} {r : RE} {k i j : Nat} {ad : Option Addr} {cap : Nat} (hs : Sat w0 B H w) (hm : HA.memo gm 3 es ∈ H) (hme : m ∈ es) (he : EntB w0 B s m r k i j) (hv : m.val = .slice ad (listB s r k i j).length cap) (pool : List HA) :
    EndsAt es pool ad (listB s r k i j) ∧ (listB s r k i j).length ≤ cap := by
  have h1 : mapAt w gm (pairsOf es) ∧ ∀ m ∈ es, w.ownsRow 0 3 1 m.val m.cells.length m.cells := hs.all _ hm
  have h2 := h1.2 m hme
  have hlen : m.cells.length = (listB s r k i j).length := by rw [he.cells, List.length_map]
  rw [hv] at h2
  have hf := row_form h2
  refine ⟨fun hne => ?_, by omega⟩
  obtain ⟨g, rfl⟩ := hf.2.2.2.2 (by rw [hlen]; exact List.length_pos_iff.2 hne)
  refine ⟨g, 0, rfl, fun w' a _ q e hq => ?_⟩
  have h3 := a m hme
  rw [hv] at h3
  rw [Nat.zero_add]
  exact row_cell h3 q _ (by rw [he.cells, List.getElem?_map, hq]; rfl)
theorem needs_c (r : RE) (k i j : Nat) (hf : r.fine) (gt gr off : Nat) (nx : Option Addr) (w : World) (hrd : Rd w w.heap.size (some ⟨gt, 0, none⟩) (tkC gr off k i j nx)) (hn : NodeRd w w.heap.size gr off r) : Pure Try.prog 95 #[Pv gt 0] (fun _ : Unit => .bool (needsB ⟨r, k, i, j⟩)) (fun _ => []) w := by
  obtain ⟨ad, kcap, hnd, hkids, hkc⟩ := hn.kids2
  have hnd := hnd.rd
  refine calls_of_ES TB Try.func95 rfl _ Try.ntmps95 rfl (Sat.start w) ?_
  refine .go ?_; repeat constructor
  refine EL.assign rfl rfl rfl ?_
  refine .go ?_; repeat constructor
  refine EL.move rfl rfl rfl ?_
  refine EL.nilCheck rfl rfl rfl ?_
  refine EL.fieldAddr rfl rfl rfl rfl rfl rfl rfl rfl ?_
  refine EL.loadOld rfl rfl rfl rfl rfl hrd rfl ?_
  refine EL.nilCheck rfl rfl rfl ?_
  refine EL.fieldAddr rfl rfl rfl rfl rfl rfl rfl rfl ?_
  refine EL.loadOld rfl rfl rfl rfl rfl hnd rfl ?_
  refine .go ?_; repeat constructor
  refine .go ?_; repeat constructor
  refine EL.eqlI rfl rfl rfl rfl ?_
  refine EL.assign rfl rfl rfl ?_
  refine .go ?_; repeat constructor
  refine ES.condD rfl (fun h0 => ?_) (fun h0 => ?_)
  · obtain ⟨ks, rfl⟩ := kind_0 (show r.kind = 0 by omega)
    refine .g0 ?_; repeat constructor
    refine ES.draw (X := Unit) (fun _ => [(2, .bool (decide (k < ks.length)))]) (fun _ => []) [] mixed (.i (by repeat constructor)) ?_ (fun _ => ?_)
    · refine ED.take 0 rfl (by decide +kernel) CutX.no_panic (by decide +kernel) rfl rfl rfl (RV.move rfl) ?_
      refine ED.take 1 rfl (by decide +kernel) CutX.no_panic (by decide +kernel) rfl rfl rfl (RV.nilCheck rfl) ?_
      refine ED.take 2 rfl (by decide +kernel) CutX.no_panic (by decide +kernel) rfl rfl rfl (RV.fieldAddr rfl rfl rfl rfl rfl rfl) ?_
      refine ED.take 3 rfl (by decide +kernel) CutX.no_panic (by decide +kernel) rfl rfl rfl (RV.loadOld rfl rfl rfl hrd rfl) ?_
      refine ED.take 4 rfl (by decide +kernel) CutX.no_panic (by decide +kernel) rfl rfl rfl (RV.move rfl) ?_
      refine ED.take 5 rfl (by decide +kernel) CutX.no_panic (by decide +kernel) rfl rfl rfl (RV.nilCheck rfl) ?_
      refine ED.take 6 rfl (by decide +kernel) CutX.no_panic (by decide +kernel) rfl rfl rfl (RV.fieldAddr rfl rfl rfl rfl rfl rfl) ?_
      refine ED.take 7 rfl (by decide +kernel) CutX.no_panic (by decide +kernel) rfl rfl rfl (RV.loadOld rfl rfl rfl hrd rfl) ?_
      refine ED.take 8 rfl (by decide +kernel) CutX.no_panic (by decide +kernel) rfl rfl rfl (RV.nilCheck rfl) ?_
      refine ED.take 9 rfl (by decide +kernel) CutX.no_panic (by decide +kernel) rfl rfl rfl (RV.fieldAddr rfl rfl rfl rfl rfl rfl) ?_
      refine ED.take 10 rfl (by decide +kernel) CutX.no_panic (by decide +kernel) rfl rfl rfl (RV.loadOld rfl rfl rfl hnd rfl) ?_
      refine ED.take 11 rfl (by decide +kernel) CutX.no_panic (by decide +kernel) rfl rfl rfl (RV.lenL rfl rfl rfl) ?_
      refine ED.take 12 rfl (by decide +kernel) CutX.no_panic (by decide +kernel) rfl rfl rfl (RV.lss rfl rfl) ?_
      refine ED.take 13 rfl (by decide +kernel) CutX.no_panic (by decide +kernel) rfl rfl rfl (RV.assign rfl) ?_
      refine ED.done (by decide +kernel) ?_
      exact PX.cutX () ⟨getA rfl (congrArg Value.bool (decide_eq_decide.2 (show ((k : Nat) : Int) < ((ks.length : Nat) : Int) ↔ k < ks.length by omega))), trivial⟩ (.i (by repeat constructor))
    refine .go ?_; repeat constructor
    exact PX.ret rfl Try.results95 (.cons (.tmp rfl) .nil) (fun w hs => ⟨(), rfl, hs.ent (.i (by repeat constructor))⟩)
  refine .go ?_; repeat constructor
  refine EL.eqlI rfl rfl rfl rfl ?_
  refine EL.assign rfl rfl rfl ?_
  refine .go ?_; repeat constructor
  refine ES.condD rfl (fun h5 => ?_) (fun h5 => ?_)
  · obtain ⟨lo, hi, x, rfl⟩ := kind_5 (show r.kind = 5 by omega)
    have hle := least_le lo x
    refine .g0 ?_; repeat constructor
    refine ES.draw (X := Unit) (fun _ => [(2, .bool (decide (i < j) || decide (k < leastM lo x)))]) (fun _ => []) [] mixed (.i (by repeat constructor)) ?_ (fun _ => ?_)
    · refine ED.take 0 rfl (by decide +kernel) CutX.no_panic (by decide +kernel) rfl rfl rfl (RV.move rfl) ?_
      refine ED.take 1 rfl (by decide +kernel) CutX.no_panic (by decide +kernel) rfl rfl rfl (RV.nilCheck rfl) ?_
      refine ED.take 2 rfl (by decide +kernel) CutX.no_panic (by decide +kernel) rfl rfl rfl (RV.fieldAddr rfl rfl rfl rfl rfl rfl) ?_
      refine ED.take 3 rfl (by decide +kernel) CutX.no_panic (by decide +kernel) rfl rfl rfl (RV.loadOld rfl rfl rfl hrd rfl) ?_
      refine ED.take 4 rfl (by decide +kernel) CutX.no_panic (by decide +kernel) rfl rfl rfl (RV.move rfl) ?_
      refine ED.take 5 rfl (by decide +kernel) CutX.no_panic (by decide +kernel) rfl rfl rfl (RV.nilCheck rfl) ?_
      refine ED.take 6 rfl (by decide +kernel) CutX.no_panic (by decide +kernel) rfl rfl rfl (RV.fieldAddr rfl rfl rfl rfl rfl rfl) ?_
      refine ED.take 7 rfl (by decide +kernel) CutX.no_panic (by decide +kernel) rfl rfl rfl (RV.loadOld rfl rfl rfl hrd rfl) ?_
      refine ED.take 8 rfl (by decide +kernel) CutX.no_panic (by decide +kernel) rfl rfl rfl (RV.lss rfl rfl) ?_
      refine ED.take 9 rfl (by decide +kernel) CutX.no_panic (by decide +kernel) rfl rfl rfl (RV.move rfl) ?_
      first | refine ED.part (d := 36) rfl (fun hp36 => ?_) (fun hp36 => ?_) | refine ED.partN (d := 36) rfl (fun hp36 => ?_) (fun hp36 => ?_) | refine ED.partB (d := 36) rfl (fun hp36 => ?_) (fun hp36 => ?_)
      · refine ED.pass 10 rfl (by decide +kernel) CutX.no_panic (by decide +kernel) rfl rfl rfl ?_
        refine ED.pass 11 rfl (by decide +kernel) CutX.no_panic (by decide +kernel) rfl rfl rfl ?_
        refine ED.pass 12 rfl (by decide +kernel) CutX.no_panic (by decide +kernel) rfl rfl rfl ?_
        refine ED.pass 13 rfl (by decide +kernel) CutX.no_panic (by decide +kernel) rfl rfl rfl ?_
        refine ED.pass 14 rfl (by decide +kernel) CutX.no_panic (by decide +kernel) rfl rfl rfl ?_
        refine ED.pass 15 rfl (by decide +kernel) CutX.no_panic (by decide +kernel) rfl rfl rfl ?_
        refine ED.pass 16 rfl (by decide +kernel) CutX.no_panic (by decide +kernel) rfl rfl rfl ?_
        refine ED.pass 17 rfl (by decide +kernel) CutX.no_panic (by decide +kernel) rfl rfl rfl ?_
        refine ED.pass 18 rfl (by decide +kernel) CutX.no_panic (by decide +kernel) rfl rfl rfl ?_
        refine ED.pass 19 rfl (by decide +kernel) CutX.no_panic (by decide +kernel) rfl rfl rfl ?_
        refine ED.take 20 rfl (by decide +kernel) CutX.no_panic (by decide +kernel) rfl rfl rfl (RV.pickT rfl rfl) ?_
        refine ED.take 21 rfl (by decide +kernel) CutX.no_panic (by decide +kernel) rfl rfl rfl (RV.assign rfl) ?_
        refine ED.done (by decide +kernel) ?_
        exact PX.cutX () ⟨getA rfl (congrArg Value.bool (by rw [Bool.eq_iff_iff]; simp only [Bool.or_eq_true, decide_eq_true_eq, true_iff, Bool.false_eq_true, false_iff]; omega)), trivial⟩ (.i (by repeat constructor))
      · refine ED.take 10 rfl (by decide +kernel) CutX.no_panic (by decide +kernel) rfl rfl rfl (RV.move rfl) ?_
        refine ED.take 11 rfl (by decide +kernel) CutX.no_panic (by decide +kernel) rfl rfl rfl (RV.nilCheck rfl) ?_
        refine ED.take 12 rfl (by decide +kernel) CutX.no_panic (by decide +kernel) rfl rfl rfl (RV.fieldAddr rfl rfl rfl rfl rfl rfl) ?_
        refine ED.take 13 rfl (by decide +kernel) CutX.no_panic (by decide +kernel) rfl rfl rfl (RV.loadOld rfl rfl rfl hrd rfl) ?_
        refine ED.take 14 rfl (by decide +kernel) CutX.no_panic (by decide +kernel) rfl rfl rfl (RV.move rfl) ?_
        refine ED.take 15 rfl (by decide +kernel) CutX.no_panic (by decide +kernel) rfl rfl rfl (RV.nilCheck rfl) ?_
        refine ED.take 16 rfl (by decide +kernel) CutX.no_panic (by decide +kernel) rfl rfl rfl (RV.fieldAddr rfl rfl rfl rfl rfl rfl) ?_
        refine ED.take 17 rfl (by decide +kernel) CutX.no_panic (by decide +kernel) rfl rfl rfl (RV.loadOld rfl rfl rfl hrd rfl) ?_
        refine ED.loud 18 rfl (by decide +kernel) ?_
        refine EL.callPw rfl rfl rfl ent82 rfl (fun w hs => least_c lo hi x hf gr off w (NodeRd.sat hn hs)) ?_
        refine ED.next (.i (by repeat constructor)) ?_
        refine ED.take 19 rfl (by decide +kernel) CutX.no_panic (by decide +kernel) rfl rfl rfl (RV.lss rfl rfl) ?_
        refine ED.take 20 rfl (by decide +kernel) CutX.no_panic (by decide +kernel) rfl rfl rfl (RV.pickF rfl rfl) ?_
        refine ED.take 21 rfl (by decide +kernel) CutX.no_panic (by decide +kernel) rfl rfl rfl (RV.assign rfl) ?_
        refine ED.done (by decide +kernel) ?_
        exact PX.cutX () ⟨getA rfl (congrArg Value.bool (by rw [Bool.eq_iff_iff]; simp only [Bool.or_eq_true, decide_eq_true_eq, true_iff, Bool.false_eq_true, false_iff]; omega)), trivial⟩ (.i (by repeat constructor))
    refine .go ?_; repeat constructor
    exact PX.ret rfl Try.results95 (.cons (.tmp rfl) .nil) (fun w hs => ⟨(), rfl, hs.ent (.i (by repeat constructor))⟩)
  refine .go ?_; repeat constructor
  refine EL.eqlI rfl rfl rfl rfl ?_
  refine EL.assign rfl rfl rfl ?_
  refine .go ?_; repeat constructor
  refine ES.condD rfl (fun h4 => ?_) (fun h4 => ?_)
  · obtain ⟨n, x, rfl⟩ := kind_4 (show r.kind = 4 by omega)
    refine .go ?_; repeat constructor
    refine EL.assign rfl rfl rfl ?_
    refine .go ?_; repeat constructor
    exact PX.ret rfl Try.results95 (.cons (.tmp rfl) .nil) (fun w hs => ⟨(), rfl, hs.ent (.i (by repeat constructor))⟩)
  · have hno : needsB ⟨r, k, i, j⟩ = false := by
      cases r <;> first | rfl | (simp [RE.kind] at h0 h5 h4; done)
    rw [hno]
    refine .go ?_; repeat constructor
    refine EL.assign rfl rfl rfl ?_
    refine .go ?_; repeat constructor
    exact PX.ret rfl Try.results95 (.cons (.tmp rfl) .nil) (fun w hs => ⟨(), rfl, hs.ent (.i (by repeat constructor))⟩)
structure SplX (w0 : World) (B : Nat) (s : List UInt8) (es : List ME) (r : RE) (k i j st : Nat) where
  es' : List ME
  st' : Nat
  ad : Option Addr
  cap : Nat
  m : ME
  sub : ∀ m ∈ es, m ∈ es'
  ok : MemB w0 B s es'
  le : st' ≤ st + 2 * floodC
  mem : m ∈ es'
  ent : EntB w0 B s m r k i j
  val : m.val = .slice ad (listB s r k i j).length cap
abbrev SB10 (gs : Nat) (s : List UInt8) (st : Nat) (sp : Option Addr) (n cap gm : Nat) : HA := WB gs s st [.slice sp n cap, .map (some gm)] 109
theorem splitsB_c (gs gm : Nat) (s : List UInt8) (hs : s.length ≤ 1024) (st : Nat) (hst : st ≤ 576460752303423488) (sp : Option Addr) (n cap : Nat) (es : List ME) (r : RE) (k i j : Nat) (hij : i ≤ j) (hj : j ≤ s.length) (w0 : World) (B g off : Nat) (hn : NodeRd w0 B g off r) (hok : MemB w0 B s es)
    (hd tl : List RE) (hl : splL s hd tl i j 0 = listB s r k i j) (hdf : ∀ k ∈ hd, k.fine) (tlf : ∀ k ∈ tl, k.fine) (hdl : hd.length ≤ 1024) (tll : tl.length ≤ 1024) (hdc : costL hd + 1 ≤ 131072) (tlc : costL tl + 1 ≤ 131072)
    (n1 n2 : Nat) (hn1 : n1 = hd.length) (hn2 : n2 = tl.length) (had tad : Option Addr) (hcap tcap : Nat) (T : HA) (hh : RowRd w0 B T had hd) (ht : RowRd w0 B T tad tl) :
    MutAt Try.prog 105 #[Pv gs 0, (MK.mk g off [(k : Int), (i : Int), (j : Int)]).val, .slice had n1 hcap, .slice tad n2 tcap] [SB10 gs s st sp n cap gm, HA.memo gm 3 es, T] (fun x : SplX w0 B s es r k i j st => .slice x.ad (listB s r k i j).length x.cap)
      (fun x => [SB10 gs s x.st' sp n cap gm, HA.memo gm 3 x.es', T]) w0 B := by
  subst hn1 hn2
  intro R w h
  replace h : Sat w0 B (SB10 gs s st sp n cap gm :: HA.memo gm 3 es :: T :: R) w := h
  refine calls_of_ES TB Try.func105 rfl _ Try.ntmps105 rfl h ?_
  refine .go ?_; repeat constructor
  (refine EL.box rfl rfl rfl ?_; intro g5)
  refine EL.assign rfl rfl rfl ?_
  repeat (first | apply EL.nil | apply ES.seq | apply ES.skip)
  cases hmg : memoGet ⟨g, off, [(k : Int), (i : Int), (j : Int)]⟩ es with
  | some m =>
    obtain ⟨hmem, hent⟩ := memB_hit hok hn hmg
    obtain ⟨mad, mcap, hv⟩ := hent.val
    refine ES.draw (X := Unit) (fun _ => [(9, m.val), (10, .bool true)]) (fun _ => SB10 gs s st sp n cap gm :: HA.memo gm 3 es :: T :: R) (SB10 gs s st sp n cap gm :: HA.memo gm 3 es :: HA.blk g5 (.cells (MK.mk g off [(k : Int), (i : Int), (j : Int)]).cells 220) :: R) mixed (.i (by repeat constructor)) ?_ (fun _ => ?_)
    · refine ED.take 0 rfl (by decide +kernel) CutX.no_panic (by decide +kernel) rfl rfl rfl (RV.move rfl) ?_
      refine ED.take 1 rfl (by decide +kernel) CutX.no_panic (by decide +kernel) rfl rfl rfl (RV.nilCheck rfl) ?_
      refine ED.take 2 rfl (by decide +kernel) CutX.no_panic (by decide +kernel) rfl rfl rfl (RV.fieldAddr rfl rfl rfl rfl rfl rfl) ?_
      refine ED.take 3 rfl (by decide +kernel) CutX.no_panic (by decide +kernel) rfl rfl rfl (RV.loadB rfl rfl rfl (by repeat constructor) rfl) ?_
      refine ED.take 4 rfl (by decide +kernel) CutX.no_panic (by decide +kernel) rfl rfl rfl (RV.loadAggB rfl rfl rfl (by repeat constructor) rfl) ?_
      refine ED.take 5 rfl (by decide +kernel) CutX.no_panic (by decide +kernel) rfl rfl rfl (RV.lookupHit (k := ⟨g, off, [(k : Int), (i : Int), (j : Int)]⟩) (n := 3) rfl rfl rfl rfl rfl rfl keyB (by repeat constructor) rfl (memB_len hok) (fun w hs => ⟨PlainAt.of_node hn hs, memB_plain hok hs⟩) hmg) ?_
      refine ED.take 6 rfl (by decide +kernel) CutX.no_panic (by decide +kernel) rfl rfl rfl (RV.move rfl) ?_
      refine ED.take 7 rfl (by decide +kernel) CutX.no_panic (by decide +kernel) rfl rfl rfl (RV.extract rfl rfl) ?_
      refine ED.take 8 rfl (by decide +kernel) CutX.no_panic (by decide +kernel) rfl rfl rfl (RV.extract rfl rfl) ?_
      refine ED.take 9 rfl (by decide +kernel) CutX.no_panic (by decide +kernel) rfl rfl rfl (RV.assign rfl) ?_
      refine ED.take 10 rfl (by decide +kernel) CutX.no_panic (by decide +kernel) rfl rfl rfl (RV.assign rfl) ?_
      refine ED.done (by decide +kernel) ?_
      exact PX.cutX () ⟨rfl, rfl, trivial⟩ (.i (by repeat constructor))
    refine .go ?_; repeat constructor
    refine EL.move rfl rfl rfl ?_
    refine .go ?_; repeat constructor
    refine ES.condT rfl ?_
    refine .go ?_; repeat constructor
    refine EL.move rfl rfl rfl ?_
    refine EL.assign rfl rfl rfl ?_
    refine .go ?_; repeat constructor
    exact PX.ret rfl Try.results105 (.cons (.tmp rfl) .nil) (fun w hs => ⟨⟨es, st, mad, mcap, m, fun _ h => h, hok, by omega, hmem, hent, hv⟩, congrArg Ending.returned hv, hs.ent (.i (by repeat constructor))⟩)
  | none =>
    refine ES.draw (X := Unit) (fun _ => [(0, Pv gs 0), (2, .slice had hd.length hcap), (3, .slice tad tl.length tcap), (5, Pv g5 0), (10, .bool false)]) (fun _ => SB10 gs s st sp n cap gm :: HA.memo gm 3 es :: HA.blk g5 (.cells (MK.mk g off [(k : Int), (i : Int), (j : Int)]).cells 220) :: T :: R) (SB10 gs s st sp n cap gm :: HA.memo gm 3 es :: HA.blk g5 (.cells (MK.mk g off [(k : Int), (i : Int), (j : Int)]).cells 220) :: T :: R) mixed (.i (by repeat constructor)) ?_ (fun _ => ?_)
    · refine ED.take 0 rfl (by decide +kernel) CutX.no_panic (by decide +kernel) rfl rfl rfl (RV.move rfl) ?_
      refine ED.take 1 rfl (by decide +kernel) CutX.no_panic (by decide +kernel) rfl rfl rfl (RV.nilCheck rfl) ?_
      refine ED.take 2 rfl (by decide +kernel) CutX.no_panic (by decide +kernel) rfl rfl rfl (RV.fieldAddr rfl rfl rfl rfl rfl rfl) ?_
      refine ED.take 3 rfl (by decide +kernel) CutX.no_panic (by decide +kernel) rfl rfl rfl (RV.loadB rfl rfl rfl (by repeat constructor) rfl) ?_
      refine ED.take 4 rfl (by decide +kernel) CutX.no_panic (by decide +kernel) rfl rfl rfl (RV.loadAggB rfl rfl rfl (by repeat constructor) rfl) ?_
      refine ED.take 5 rfl (by decide +kernel) CutX.no_panic (by decide +kernel) rfl rfl rfl (RV.lookupMiss (k := ⟨g, off, [(k : Int), (i : Int), (j : Int)]⟩) (n := 3) rfl rfl rfl rfl rfl rfl keyB (by repeat constructor) rfl (memB_len hok) (fun w hs => ⟨PlainAt.of_node hn hs, memB_plain hok hs⟩) hmg) ?_
      refine ED.take 6 rfl (by decide +kernel) CutX.no_panic (by decide +kernel) rfl rfl rfl (RV.move rfl) ?_
      refine ED.take 7 rfl (by decide +kernel) CutX.no_panic (by decide +kernel) rfl rfl rfl (RV.extract rfl rfl) ?_
      refine ED.take 8 rfl (by decide +kernel) CutX.no_panic (by decide +kernel) rfl rfl rfl (RV.extract rfl rfl) ?_
      refine ED.take 9 rfl (by decide +kernel) CutX.no_panic (by decide +kernel) rfl rfl rfl (RV.assign rfl) ?_
      refine ED.take 10 rfl (by decide +kernel) CutX.no_panic (by decide +kernel) rfl rfl rfl (RV.assign rfl) ?_
      refine ED.done (by decide +kernel) ?_
      exact PX.cutX () ⟨rfl, rfl, rfl, rfl, rfl, trivial⟩ (.i (by repeat constructor))
    refine .go ?_; repeat constructor
    refine EL.move rfl rfl rfl ?_
    refine .go ?_; repeat constructor
    refine ES.condF rfl ?_
    have hsp := splits_c gs s hs st hst [.slice sp n cap, .map (some gm)] 109 hd tl hdf tlf hdl tll hdc tlc had tad hcap tcap i j hij hj w0 B T hh ht
    have hle : (splS s hd tl i j st).steps ≤ st + 2 * floodC := by
      have h1 : (splE s hd i st).steps ≤ st + 17609365913600 := endsM_le (make_room hd hdc).1 hs i st
      have h2 : (splS s hd tl i j st).steps ≤ (splE s hd i st).steps + 17609365913600 := startsM_steps (make_room tl tlc).1 hs j _
      unfold floodC; omega
    rw [splL_st, hl] at hsp
    generalize (splS s hd tl i j st).steps = st1 at hsp hle
    refine .g0 ?_; repeat constructor
    refine ES.draw (X := Option Addr × Nat) (fun x => [(0, Pv gs 0), (5, Pv g5 0), (11, .slice x.1 (listB s r k i j).length x.2)]) (fun x => SB10 gs s st1 sp n cap gm :: IR x.1 x.2 (listB s r k i j) :: HA.memo gm 3 es :: HA.blk g5 (.cells (MK.mk g off [(k : Int), (i : Int), (j : Int)]).cells 220) :: T :: R)
      (HA.blk g5 (.cells (MK.mk g off [(k : Int), (i : Int), (j : Int)]).cells 220) :: []) mixed (.i (by repeat constructor)) ?_ (fun x => ?_)
    · refine ED.take 0 rfl (by decide +kernel) CutX.no_panic (by decide +kernel) rfl rfl rfl (RV.move rfl) ?_
      refine ED.take 1 rfl (by decide +kernel) CutX.no_panic (by decide +kernel) rfl rfl rfl (RV.nilCheck rfl) ?_
      refine ED.take 2 rfl (by decide +kernel) CutX.no_panic (by decide +kernel) rfl rfl rfl (RV.fieldAddr rfl rfl rfl rfl rfl rfl) ?_
      refine ED.take 3 rfl (by decide +kernel) CutX.no_panic (by decide +kernel) rfl rfl rfl (RV.move rfl) ?_
      refine ED.take 4 rfl (by decide +kernel) CutX.no_panic (by decide +kernel) rfl rfl rfl (RV.move rfl) ?_
      refine ED.take 5 rfl (by decide +kernel) CutX.no_panic (by decide +kernel) rfl rfl rfl (RV.fieldAddr rfl rfl rfl rfl rfl rfl) ?_
      refine ED.take 6 rfl (by decide +kernel) CutX.no_panic (by decide +kernel) rfl rfl rfl (RV.loadB rfl rfl rfl (by repeat constructor) rfl) ?_
      refine ED.take 7 rfl (by decide +kernel) CutX.no_panic (by decide +kernel) rfl rfl rfl (RV.fieldAddr rfl rfl rfl rfl rfl rfl) ?_
      refine ED.take 8 rfl (by decide +kernel) CutX.no_panic (by decide +kernel) rfl rfl rfl (RV.loadB rfl rfl rfl (by repeat constructor) rfl) ?_
      refine ED.loud 9 rfl (by decide +kernel) ?_
      (refine EL.callMw rfl rfl rfl ent92 rfl hsp (by repeat constructor) ?_; rintro ⟨xa, xc⟩)
      refine ED.next (.i (by repeat constructor)) ?_
      refine ED.take 10 rfl (by decide +kernel) CutX.no_panic (by decide +kernel) rfl rfl rfl (RV.assign rfl) ?_
      refine ED.done (by decide +kernel) ?_
      exact PX.cutX (xa, xc) ⟨rfl, rfl, rfl, trivial⟩ (.i (by repeat constructor))
    obtain ⟨xa, xc⟩ := x
    dsimp only
    have hent : EntB w0 B s ⟨⟨g, off, [(k : Int), (i : Int), (j : Int)]⟩, .slice xa (listB s r k i j).length xc, (listB s r k i j).map fun z : Nat => Iv (z : Nat)⟩ r k i j := ⟨hn, rfl, rfl, _, _, rfl⟩
    have hok2 : MemB w0 B s (es ++ [⟨⟨g, off, [(k : Int), (i : Int), (j : Int)]⟩, .slice xa (listB s r k i j).length xc, (listB s r k i j).map fun z : Nat => Iv (z : Nat)⟩]) := fun m hm => by
      rcases List.mem_append.1 hm with hm | hm
      · exact hok m hm
      · rw [List.mem_singleton] at hm; subst hm; exact ⟨r, k, i, j, hent⟩
    refine .g0 ?_; repeat constructor
    refine ES.drawG (X := Unit) (fun _ => [(11, .slice xa (listB s r k i j).length xc)]) (fun _ => SB10 gs s st1 sp n cap gm :: HA.memo gm 3 (es ++ [⟨⟨g, off, [(k : Int), (i : Int), (j : Int)]⟩, .slice xa (listB s r k i j).length xc, (listB s r k i j).map fun z : Nat => Iv (z : Nat)⟩]) :: T :: R) 6
      (SB10 gs s st1 sp n cap gm :: HA.blk g5 (.cells (MK.mk g off [(k : Int), (i : Int), (j : Int)]).cells 220) :: []) mixed (by decide +kernel) (.i (by repeat constructor)) ?_ (fun _ => ?_)
    · refine EG.take 0 rfl (by decide +kernel) CutX.no_panic (by decide +kernel) rfl rfl rfl (RV.move rfl) ?_
      refine EG.take 1 rfl (by decide +kernel) CutX.no_panic (by decide +kernel) rfl rfl rfl (RV.nilCheck rfl) ?_
      refine EG.take 2 rfl (by decide +kernel) CutX.no_panic (by decide +kernel) rfl rfl rfl (RV.fieldAddr rfl rfl rfl rfl rfl rfl) ?_
      refine EG.take 3 rfl (by decide +kernel) CutX.no_panic (by decide +kernel) rfl rfl rfl (RV.loadB rfl rfl rfl (by repeat constructor) rfl) ?_
      refine EG.take 4 rfl (by decide +kernel) CutX.no_panic (by decide +kernel) rfl rfl rfl (RV.loadAggB rfl rfl rfl (by repeat constructor) rfl) ?_
      refine EG.take 5 rfl (by decide +kernel) CutX.no_panic (by decide +kernel) rfl rfl rfl (RV.move rfl) ?_
      refine EG.loud 6 rfl (by decide +kernel) ?_
      refine EL.mapSet (k := ⟨g, off, [(k : Int), (i : Int), (j : Int)]⟩) (n := 3) rfl rfl rfl rfl rfl rfl keyB rfl (memB_len hok) (fun w hs => ⟨PlainAt.of_node hn hs, memB_plain hok hs⟩) hmg (by repeat constructor) (by rw [List.length_map]) ?_
      refine EG.nextL (by decide +kernel) rfl (by decide +kernel) ?_
      refine EG.done (by decide +kernel) ?_
      exact PX.cutX () ⟨rfl, trivial⟩ (.i (by repeat constructor))
    refine .go ?_; repeat constructor
    refine EL.move rfl rfl rfl ?_
    refine EL.assign rfl rfl rfl ?_
    refine .go ?_; repeat constructor
    exact PX.ret rfl Try.results105 (.cons (.tmp rfl) .nil) (fun w hs => ⟨⟨_, st1, xa, xc, _, fun m hm => List.mem_append_left _ hm, hok2, hle, List.mem_append_right _ List.mem_cons_self, hent, rfl⟩, rfl, hs.ent (.i (by repeat constructor))⟩)
end Go.Proofs.Ytblpgpgbnlhjlaa
namespace Go.Proofs.Ytblpgpgbnlhjlaa
open Go Go.RowKit Sl
set_option maxRecDepth 100000
set_option maxHeartbeats 8000000
set_option linter.unusedVariables false
set_option linter.unusedSimpArgs false
attribute [local irreducible] ES EL PX wps
theorem spsC_cut : ∀ (z : List Spn) (n : Nat) (p : Spn), z[n]? = some p → ((spsC z).drop (0 + n * 2)).take (spC p).length = spC p
  | [], n, p, h => by simp at h
  | q :: z, 0, p, h => by
    simp only [List.getElem?_cons_zero, Option.some.injEq] at h
    subst h; rfl
  | q :: z, n + 1, p, h => by
    simp only [List.getElem?_cons_succ] at h
    have ih := spsC_cut z n p h
    have e : (spsC (q :: z)).drop (0 + (n + 1) * 2) = (spsC z).drop (0 + n * 2) := by
      rw [show 0 + (n + 1) * 2 = (0 + n * 2) + 2 by omega, show spsC (q :: z) = Iv q.1 :: Iv q.2 :: spsC z from rfl]
      rfl
    rw [e]; exact ih
section
variable {C : Cx} {E : Env} {H : List HA} {d ty t : Nat} {pos : String} {af : Array Edge} {gd : Option (Nat × Bool)} {x : Operand}
theorem RV.loadEnds {ti : TI} {gm g off q e : Nat} {es : List ME} {pool : List HA} {l : List Nat} (hx : E.ev x = some (Pv g (off + q * 1))) (ht : C.T.f t = some ti) (hu : ti.agg = false) (hm : Mem H (HA.memo gm 3 es)) (hp : Mem H (HA.pack pool))
    (hE : ∀ w : World, (∀ m ∈ es, w.ownsRow 0 3 1 m.val m.cells.length m.cells) → (∀ A ∈ pool, A.holds w) → ∀ q e, l[q]? = some e → w.cell? ⟨g, off + q, none⟩ = some (Iv (e : Nat))) (hq : l[q]? = some e) : RunV C E H ⟨some d, .load t x, ty, pos, af, gd⟩ (Iv (e : Nat)) :=
  RV.load hx ht hu (fun w hs => by
    have h1 : mapAt w gm (pairsOf es) ∧ ∀ m ∈ es, w.ownsRow 0 3 1 m.val m.cells.length m.cells := hs.all _ hm.mem
    have h2 : ∀ A ∈ pool, A.holds w := hs.all _ hp.mem
    rw [Nat.mul_one]
    exact hE w h1.2 h2 q e hq)
end
theorem ends_one (es : List ME) (pool : List HA) (b j : Nat) : EndsAt es (HA.row (.slice (some ⟨b, 0, none⟩) 1 1) 3 1 1 [Iv (j : Nat)] :: pool) (some ⟨b, 0, none⟩) [j] := fun _ => ⟨b, 0, rfl, fun w _ hp q e hq => by
  have h1 : w.ownsRow 0 3 1 (.slice (some ⟨b, 0, none⟩) 1 1) 1 [Iv (j : Nat)] := hp _ List.mem_cons_self
  rcases q with _ | q
  · simp only [List.getElem?_cons_zero, Option.some.injEq] at hq
    subst hq
    exact row_cell h1 0 _ rfl
  · simp at hq⟩
structure EnX (w0 : World) (B : Nat) (s : List UInt8) (es : List ME) (pool : List HA) (l : List Nat) (st : Nat) where
  es' : List ME
  st' : Nat
  pool' : List HA
  ad : Option Addr
  cap : Nat
  sub : ∀ m ∈ es, m ∈ es'
  psub : ∀ A ∈ pool, A ∈ pool'
  ok : MemB w0 B s es'
  le : st' ≤ st + 2 * floodC
  ends : EndsAt es' pool' ad l
  lcap : l.length ≤ cap
def EnX.none {w0 : World} {B : Nat} {s : List UInt8} {es : List ME} {pool : List HA} {st : Nat} (h : MemB w0 B s es) : EnX w0 B s es pool [] st := ⟨es, st, pool, Option.none, 0, fun _ h => h, fun _ h => h, h, by omega, EndsAt.nil _ _ _, Nat.le_refl _⟩
def EnX.one {w0 : World} {B : Nat} {s : List UInt8} {es : List ME} {pool : List HA} {st : Nat} (h : MemB w0 B s es) (b j : Nat) : EnX w0 B s es pool [j] st := ⟨es, st, HA.row (.slice (some ⟨b, 0, Option.none⟩) 1 1) 3 1 1 [Iv (j : Nat)] :: pool, some ⟨b, 0, Option.none⟩, 1, fun _ h => h, fun _ h => List.mem_cons_of_mem _ h, h, by omega, ends_one _ _ _ _, Nat.le_refl _⟩
theorem drop_last_get {l : List Nat} {q e : Nat} (h : l.dropLast[q]? = some e) : l[q]? = some e := by
  rw [List.dropLast_eq_take, List.getElem?_take] at h
  split at h
  · exact h
  · cases h
theorem dnL_len (i : Nat) : ∀ n, (dnL i n).length = n
  | 0 => rfl
  | n + 1 => by rw [dnL, List.length_cons, dnL_len i n]
theorem spl_len (s : List UInt8) (hd tl : List RE) (i j st : Nat) : (splL s hd tl i j st).length ≤ j + 1 - i := by
  unfold splL
  refine Nat.le_trans (List.length_filter_le _ _) ?_
  rw [dnL_len]
  omega
theorem ends10_c (gs gm : Nat) (s : List UInt8) (hs : s.length ≤ 1024) (st : Nat) (hst : st ≤ 576460752303423488) (sp : Option Addr) (cap : Nat) (z : List Spn) (es : List ME) (pool : List HA) (r : RE) (k i j : Nat) (w0 : World) (B gt gr off : Nat) (nx : Option Addr) (ht : TkB gt gr off k i j nx ∈ pool) (hn : NodeRd w0 B gr off r) (hf : r.fine) (hok : MemB w0 B s es)
    (l : List Nat) (ok : Bool) (he : endsB s ⟨r, k, i, j⟩ z = some (l, ok)) :
    MutAt Try.prog 94 #[Pv gs 0, Pv gt 0] [SB10 gs s st sp z.length cap gm, HA.memo gm 3 es, PRow sp cap z, HA.pack pool] (fun x : EnX w0 B s es pool l st => .tuple #[.slice x.ad l.length x.cap, .bool ok])
      (fun x => [SB10 gs s x.st' sp z.length cap gm, HA.memo gm 3 x.es', PRow sp cap z, HA.pack x.pool']) w0 B := by
  intro R w h
  replace h : Sat w0 B (SB10 gs s st sp z.length cap gm :: HA.memo gm 3 es :: PRow sp cap z :: HA.pack pool :: R) w := h
  have hr : i ≤ j ∧ j ≤ s.length := by
    by_cases hr : i ≤ j ∧ j ≤ s.length
    · exact hr
    · rw [endsB, if_neg hr] at he; cases he
  rw [endsB, if_pos hr] at he
  obtain ⟨hij, hj⟩ := hr
  have hn' := hn
  obtain ⟨ad, kcap, cs0, q1, q2, q3, q4⟩ := hn'
  have hrd := q1.rd
  have hkids : KidsRd w0 B r.kids ad := fun a b hab => by
    have hlt := (List.getElem?_eq_some_iff.1 hab).1
    obtain ⟨g', o', rfl, _⟩ := q3 (fun e => by have := q2.len; rw [e] at this; simp at this; omega)
    exact ⟨g', o', rfl, Node.of_row q2 q3 hab⟩
  have hkl := fine_len hf
  refine calls_of_ES TB Try.func94 rfl _ Try.ntmps94 rfl h ?_
  refine .go ?_; repeat constructor
  refine EL.assign rfl rfl rfl ?_
  refine EL.assign rfl rfl rfl ?_
  refine .go ?_; repeat constructor
  refine EL.move rfl rfl rfl ?_
  refine EL.nilCheck rfl rfl rfl ?_
  refine EL.fieldAddr rfl rfl rfl rfl rfl rfl rfl rfl ?_
  refine EL.loadPool rfl rfl rfl rfl rfl (by repeat constructor) ht rfl ?_
  refine EL.nilCheck rfl rfl rfl ?_
  refine EL.fieldAddr rfl rfl rfl rfl rfl rfl rfl rfl ?_
  refine EL.loadOld rfl rfl rfl rfl rfl hrd rfl ?_
  refine .go ?_; repeat constructor
  refine EL.eqlI rfl rfl rfl rfl ?_
  refine EL.assign rfl rfl rfl ?_
  refine .go ?_; repeat constructor
  refine ES.condD rfl (fun h6 => ?_) (fun h6 => ?_)
  · obtain ⟨n, rfl⟩ := kind_6 (show r.kind = 6 by omega)
    dsimp only at he
    cases hz : z[n]? with
    | none => rw [hz] at he; cases he
    | some p =>
    obtain ⟨a, b⟩ := p
    rw [hz] at he
    dsimp only at he
    have hnl : n < z.length := (List.getElem?_eq_some_iff.1 hz).1
    have hcut := spsC_cut z n (a, b) hz
    refine ES.know (P := ∃ g, sp = some ⟨g, 0, none⟩) (fun w hs => (row_form (hs.all (PRow sp cap z) (by simp))).2.2.2.2 (by omega)) ?_
    rintro ⟨spg, rfl⟩
    refine .g0 ?_; repeat constructor
    refine ES.draw (X := Nat) (fun g6 => [(0, Pv gs 0), (1, Pv gt 0), (6, Pv g6 0)]) (fun g6 => HA.blk g6 (.cells #[Iv a, Iv b] 33) :: SB10 gs s st (some ⟨spg, 0, none⟩) z.length cap gm :: HA.memo gm 3 es :: PRow (some ⟨spg, 0, none⟩) cap z :: HA.pack pool :: R)
      (SB10 gs s st (some ⟨spg, 0, none⟩) z.length cap gm :: PRow (some ⟨spg, 0, none⟩) cap z :: HA.pack pool :: []) mixed (.i (by repeat constructor)) ?_ (fun g6 => ?_)
    · refine ED.take 0 rfl (by decide +kernel) CutX.no_panic (by decide +kernel) rfl rfl rfl (RV.move rfl) ?_
      refine ED.take 1 rfl (by decide +kernel) CutX.no_panic (by decide +kernel) rfl rfl rfl (RV.nilCheck rfl) ?_
      refine ED.take 2 rfl (by decide +kernel) CutX.no_panic (by decide +kernel) rfl rfl rfl (RV.fieldAddr rfl rfl rfl rfl rfl rfl) ?_
      refine ED.take 3 rfl (by decide +kernel) CutX.no_panic (by decide +kernel) rfl rfl rfl (RV.loadB rfl rfl rfl (by repeat constructor) rfl) ?_
      refine ED.take 4 rfl (by decide +kernel) CutX.no_panic (by decide +kernel) rfl rfl rfl (RV.move rfl) ?_
      refine ED.take 5 rfl (by decide +kernel) CutX.no_panic (by decide +kernel) rfl rfl rfl (RV.nilCheck rfl) ?_
      refine ED.take 6 rfl (by decide +kernel) CutX.no_panic (by decide +kernel) rfl rfl rfl (RV.fieldAddr rfl rfl rfl rfl rfl rfl) ?_
      refine ED.take 7 rfl (by decide +kernel) CutX.no_panic (by decide +kernel) rfl rfl rfl (RV.loadPool rfl rfl rfl (by repeat constructor) ht rfl) ?_
      refine ED.take 8 rfl (by decide +kernel) CutX.no_panic (by decide +kernel) rfl rfl rfl (RV.nilCheck rfl) ?_
      refine ED.take 9 rfl (by decide +kernel) CutX.no_panic (by decide +kernel) rfl rfl rfl (RV.fieldAddr rfl rfl rfl rfl rfl rfl) ?_
      refine ED.take 10 rfl (by decide +kernel) CutX.no_panic (by decide +kernel) rfl rfl rfl (RV.loadOld rfl rfl rfl hrd rfl) ?_
      refine ED.take 11 rfl (by decide +kernel) CutX.no_panic (by decide +kernel) rfl rfl rfl (RV.indexAddrL (i := n) rfl rfl rfl rfl rfl hnl) ?_
      refine ED.take 12 rfl (by decide +kernel) CutX.no_panic (by decide +kernel) rfl rfl rfl (RV.loadRA (spC (a, b)) rfl rfl rfl rfl (by repeat constructor) hcut) ?_
      refine ED.loud 13 rfl (by decide +kernel) ?_
      (refine EL.alloc rfl rfl rfl ?_; intro g6)
      refine ED.next (.i (by repeat constructor)) ?_
      refine ED.last 14 rfl (by decide +kernel) (by decide +kernel) (by decide +kernel) ?_
      (apply EL.storeAll; exact rfl; exact rfl; exact rfl; exact rfl; exact rfl; (case p => repeat constructor); exact rfl; (case h1 => exact (by first | rfl | exact all1 rfl | (intro u hu; simp only [List.mem_cons, List.not_mem_nil, or_false] at hu; rcases hu with rfl | rfl | rfl | rfl <;> rfl) | (intro u hu; simp at hu; rcases hu with rfl | rfl | rfl | rfl <;> rfl) | (intro u hu; simp at hu; rcases hu with rfl | rfl | rfl <;> rfl) | (intro u hu; simp at hu; rcases hu with rfl | rfl <;> rfl) | (intro u hu; simp at hu; obtain ⟨_, _, rfl⟩ := hu; rfl))))
      refine EL.endQ ?_
      exact PX.cutX g6 ⟨rfl, rfl, rfl, trivial⟩ (.i (by repeat constructor))
    by_cases ha : a < 0
    · rw [if_pos ha] at he
      cases he
      refine .g0 ?_; repeat constructor
      refine ES.draw (X := Unit) (fun _ => [(4, .slice none 0 0), (5, .bool false)]) (fun _ => SB10 gs s st (some ⟨spg, 0, none⟩) z.length cap gm :: HA.memo gm 3 es :: PRow (some ⟨spg, 0, none⟩) cap z :: HA.pack pool :: R) (HA.blk g6 (.cells #[Iv a, Iv b] 33) :: []) mixed (.i (by repeat constructor)) ?_ (fun _ => ?_)
      · refine ED.take 0 rfl (by decide +kernel) CutX.no_panic (by decide +kernel) rfl rfl rfl (RV.fieldAddr rfl rfl rfl rfl rfl rfl) ?_
        refine ED.take 1 rfl (by decide +kernel) CutX.no_panic (by decide +kernel) rfl rfl rfl (RV.loadB rfl rfl rfl (by repeat constructor) rfl) ?_
        refine ED.take 2 rfl (by decide +kernel) CutX.no_panic (by decide +kernel) rfl rfl rfl (RV.geq rfl rfl) ?_
        refine ED.take 3 rfl (by decide +kernel) CutX.no_panic (by decide +kernel) rfl rfl rfl (RV.move rfl) ?_
        refine ED.rew (d := 34) (v' := .bool false) rfl ((by simpa using ha)) ?_
        refine ED.pass 4 rfl (by decide +kernel) CutX.no_panic (by decide +kernel) rfl rfl rfl ?_
        refine ED.pass 5 rfl (by decide +kernel) CutX.no_panic (by decide +kernel) rfl rfl rfl ?_
        refine ED.pass 6 rfl (by decide +kernel) CutX.no_panic (by decide +kernel) rfl rfl rfl ?_
        refine ED.pass 7 rfl (by decide +kernel) CutX.no_panic (by decide +kernel) rfl rfl rfl ?_
        refine ED.pass 8 rfl (by decide +kernel) CutX.no_panic (by decide +kernel) rfl rfl rfl ?_
        refine ED.pass 9 rfl (by decide +kernel) CutX.no_panic (by decide +kernel) rfl rfl rfl ?_
        refine ED.pass 10 rfl (by decide +kernel) CutX.no_panic (by decide +kernel) rfl rfl rfl ?_
        refine ED.pass 11 rfl (by decide +kernel) CutX.no_panic (by decide +kernel) rfl rfl rfl ?_
        refine ED.pass 12 rfl (by decide +kernel) CutX.no_panic (by decide +kernel) rfl rfl rfl ?_
        refine ED.pass 13 rfl (by decide +kernel) CutX.no_panic (by decide +kernel) rfl rfl rfl ?_
        refine ED.pass 14 rfl (by decide +kernel) CutX.no_panic (by decide +kernel) rfl rfl rfl ?_
        refine ED.pass 15 rfl (by decide +kernel) CutX.no_panic (by decide +kernel) rfl rfl rfl ?_
        refine ED.pass 16 rfl (by decide +kernel) CutX.no_panic (by decide +kernel) rfl rfl rfl ?_
        refine ED.pass 17 rfl (by decide +kernel) CutX.no_panic (by decide +kernel) rfl rfl rfl ?_
        refine ED.pass 18 rfl (by decide +kernel) CutX.no_panic (by decide +kernel) rfl rfl rfl ?_
        refine ED.pass 19 rfl (by decide +kernel) CutX.no_panic (by decide +kernel) rfl rfl rfl ?_
        refine ED.pass 20 rfl (by decide +kernel) CutX.no_panic (by decide +kernel) rfl rfl rfl ?_
        refine ED.pass 21 rfl (by decide +kernel) CutX.no_panic (by decide +kernel) rfl rfl rfl ?_
        refine ED.pass 22 rfl (by decide +kernel) CutX.no_panic (by decide +kernel) rfl rfl rfl ?_
        refine ED.pass 23 rfl (by decide +kernel) CutX.no_panic (by decide +kernel) rfl rfl rfl ?_
        refine ED.pass 24 rfl (by decide +kernel) CutX.no_panic (by decide +kernel) rfl rfl rfl ?_
        refine ED.pass 25 rfl (by decide +kernel) CutX.no_panic (by decide +kernel) rfl rfl rfl ?_
        refine ED.pass 26 rfl (by decide +kernel) CutX.no_panic (by decide +kernel) rfl rfl rfl ?_
        refine ED.pass 27 rfl (by decide +kernel) CutX.no_panic (by decide +kernel) rfl rfl rfl ?_
        refine ED.pass 28 rfl (by decide +kernel) CutX.no_panic (by decide +kernel) rfl rfl rfl ?_
        refine ED.take 29 rfl (by decide +kernel) CutX.no_panic (by decide +kernel) rfl rfl rfl (RV.pickF rfl rfl) ?_
        refine ED.take 30 rfl (by decide +kernel) CutX.no_panic (by decide +kernel) rfl rfl rfl (RV.assign rfl) ?_
        refine ED.take 31 rfl (by decide +kernel) CutX.no_panic (by decide +kernel) rfl rfl rfl (RV.assign rfl) ?_
        refine ED.done (by decide +kernel) ?_
        exact PX.cutX () ⟨rfl, rfl, trivial⟩ (.i (by repeat constructor))
      refine .go ?_; repeat constructor
      exact PX.ret rfl Try.results94 (.cons (.tmp rfl) (.cons (.tmp rfl) .nil)) (fun w hs => ⟨EnX.none hok, rfl, hs.ent (.i (by repeat constructor))⟩)
    · rw [if_neg ha] at he
      split at he
      rotate_left
      · cases he
      rename_i hab
      obtain ⟨a, rfl⟩ : ∃ a' : Nat, a = (a' : Int) := ⟨a.toNat, by omega⟩
      obtain ⟨b, rfl⟩ : ∃ b' : Nat, b = (b' : Int) := ⟨b.toNat, by omega⟩
      rw [Int.toNat_natCast, Int.toNat_natCast] at he
      cases he
      have hcmp : ((s.drop a).take (b - a) = (s.drop i).take (j - i)) ↔ ((s.take b).drop a = (s.take j).drop i) := by rw [List.drop_take, List.drop_take]
      refine .g0 ?_; repeat constructor
      refine ES.draw (X := Unit) (fun _ => [(4, .slice none 0 0), (5, .bool (decide ((s.take b).drop a = (s.take j).drop i)))]) (fun _ => SB10 gs s st (some ⟨spg, 0, none⟩) z.length cap gm :: HA.memo gm 3 es :: PRow (some ⟨spg, 0, none⟩) cap z :: HA.pack pool :: R) (HA.blk g6 (.cells #[Iv (a : Nat), Iv (b : Nat)] 33) :: SB10 gs s st (some ⟨spg, 0, none⟩) z.length cap gm :: HA.pack pool :: []) mixed (.i (by repeat constructor)) ?_ (fun _ => ?_)
      · refine ED.take 0 rfl (by decide +kernel) CutX.no_panic (by decide +kernel) rfl rfl rfl (RV.fieldAddr rfl rfl rfl rfl rfl rfl) ?_
        refine ED.take 1 rfl (by decide +kernel) CutX.no_panic (by decide +kernel) rfl rfl rfl (RV.loadB rfl rfl rfl (by repeat constructor) rfl) ?_
        refine ED.take 2 rfl (by decide +kernel) CutX.no_panic (by decide +kernel) rfl rfl rfl (RV.geq rfl rfl) ?_
        refine ED.take 3 rfl (by decide +kernel) CutX.no_panic (by decide +kernel) rfl rfl rfl (RV.move rfl) ?_
        refine ED.rew (d := 34) (v' := .bool true) rfl ((by simp)) ?_
        refine ED.take 4 rfl (by decide +kernel) CutX.no_panic (by decide +kernel) rfl rfl rfl (RV.move rfl) ?_
        refine ED.take 5 rfl (by decide +kernel) CutX.no_panic (by decide +kernel) rfl rfl rfl (RV.nilCheck rfl) ?_
        refine ED.take 6 rfl (by decide +kernel) CutX.no_panic (by decide +kernel) rfl rfl rfl (RV.fieldAddr rfl rfl rfl rfl rfl rfl) ?_
        refine ED.take 7 rfl (by decide +kernel) CutX.no_panic (by decide +kernel) rfl rfl rfl (RV.fieldAddr rfl rfl rfl rfl rfl rfl) ?_
        refine ED.take 8 rfl (by decide +kernel) CutX.no_panic (by decide +kernel) rfl rfl rfl (RV.loadB rfl rfl rfl (by repeat constructor) rfl) ?_
        refine ED.take 9 rfl (by decide +kernel) CutX.no_panic (by decide +kernel) rfl rfl rfl (RV.fieldAddr rfl rfl rfl rfl rfl rfl) ?_
        refine ED.take 10 rfl (by decide +kernel) CutX.no_panic (by decide +kernel) rfl rfl rfl (RV.loadB rfl rfl rfl (by repeat constructor) rfl) ?_
        refine ED.take 11 rfl (by decide +kernel) CutX.no_panic (by decide +kernel) rfl rfl rfl (RV.fieldAddr rfl rfl rfl rfl rfl rfl) ?_
        refine ED.take 12 rfl (by decide +kernel) CutX.no_panic (by decide +kernel) rfl rfl rfl (RV.loadB rfl rfl rfl (by repeat constructor) rfl) ?_
        refine ED.take 13 rfl (by decide +kernel) CutX.no_panic (by decide +kernel) rfl rfl rfl (RV.sliceS (m := a) (n := b) rfl rfl rfl ⟨_, rfl⟩ ⟨_, rfl⟩ (by omega) (by omega)) ?_
        refine ED.take 14 rfl (by decide +kernel) CutX.no_panic (by decide +kernel) rfl rfl rfl (RV.move rfl) ?_
        refine ED.take 15 rfl (by decide +kernel) CutX.no_panic (by decide +kernel) rfl rfl rfl (RV.nilCheck rfl) ?_
        refine ED.take 16 rfl (by decide +kernel) CutX.no_panic (by decide +kernel) rfl rfl rfl (RV.fieldAddr rfl rfl rfl rfl rfl rfl) ?_
        refine ED.take 17 rfl (by decide +kernel) CutX.no_panic (by decide +kernel) rfl rfl rfl (RV.fieldAddr rfl rfl rfl rfl rfl rfl) ?_
        refine ED.take 18 rfl (by decide +kernel) CutX.no_panic (by decide +kernel) rfl rfl rfl (RV.loadB rfl rfl rfl (by repeat constructor) rfl) ?_
        refine ED.take 19 rfl (by decide +kernel) CutX.no_panic (by decide +kernel) rfl rfl rfl (RV.move rfl) ?_
        refine ED.take 20 rfl (by decide +kernel) CutX.no_panic (by decide +kernel) rfl rfl rfl (RV.nilCheck rfl) ?_
        refine ED.take 21 rfl (by decide +kernel) CutX.no_panic (by decide +kernel) rfl rfl rfl (RV.fieldAddr rfl rfl rfl rfl rfl rfl) ?_
        refine ED.take 22 rfl (by decide +kernel) CutX.no_panic (by decide +kernel) rfl rfl rfl (RV.loadPool rfl rfl rfl (by repeat constructor) ht rfl) ?_
        refine ED.take 23 rfl (by decide +kernel) CutX.no_panic (by decide +kernel) rfl rfl rfl (RV.move rfl) ?_
        refine ED.take 24 rfl (by decide +kernel) CutX.no_panic (by decide +kernel) rfl rfl rfl (RV.nilCheck rfl) ?_
        refine ED.take 25 rfl (by decide +kernel) CutX.no_panic (by decide +kernel) rfl rfl rfl (RV.fieldAddr rfl rfl rfl rfl rfl rfl) ?_
        refine ED.take 26 rfl (by decide +kernel) CutX.no_panic (by decide +kernel) rfl rfl rfl (RV.loadPool rfl rfl rfl (by repeat constructor) ht rfl) ?_
        refine ED.take 27 rfl (by decide +kernel) CutX.no_panic (by decide +kernel) rfl rfl rfl (RV.sliceS (m := i) (n := j) rfl rfl rfl ⟨_, rfl⟩ ⟨_, rfl⟩ (by omega) (by omega)) ?_
        refine ED.take 28 rfl (by decide +kernel) CutX.no_panic (by decide +kernel) rfl rfl rfl (RV.eqlS rfl rfl) ?_
        refine ED.take 29 rfl (by decide +kernel) CutX.no_panic (by decide +kernel) rfl rfl rfl (RV.pickT rfl rfl) ?_
        refine ED.take 30 rfl (by decide +kernel) CutX.no_panic (by decide +kernel) rfl rfl rfl (RV.assign rfl) ?_
        refine ED.take 31 rfl (by decide +kernel) CutX.no_panic (by decide +kernel) rfl rfl rfl (RV.assign rfl) ?_
        refine ED.done (by decide +kernel) ?_
        exact PX.cutX () ⟨rfl, getA rfl (congrArg Value.bool (decide_eq_decide.2 hcmp)), trivial⟩ (.i (by repeat constructor))
      refine .go ?_; repeat constructor
      exact PX.ret rfl Try.results94 (.cons (.tmp rfl) (.cons (.tmp rfl) .nil)) (fun w hs => ⟨EnX.none hok, rfl, hs.ent (.i (by repeat constructor))⟩)
  refine .go ?_; repeat constructor
  refine EL.eqlI rfl rfl rfl rfl ?_
  refine EL.assign rfl rfl rfl ?_
  refine .go ?_; repeat constructor
  refine ES.condD rfl (fun h4 => ?_) (fun h4 => ?_)
  · obtain ⟨n, x, rfl⟩ := kind_4 (show r.kind = 4 by omega)
    cases he
    refine .go ?_; repeat constructor
    refine EL.move rfl rfl rfl ?_
    refine EL.nilCheck rfl rfl rfl ?_
    refine EL.fieldAddr rfl rfl rfl rfl rfl rfl rfl rfl ?_
    refine EL.loadPool rfl rfl rfl rfl rfl (by repeat constructor) ht rfl ?_
    (refine EL.buildSlice1 rfl rfl rfl rfl rfl rfl rfl rfl rfl rfl ?_; intro b67)
    (refine EL.poolIn (A := HA.row (.slice (some ⟨b67, 0, none⟩) 1 1) 3 1 1 [Iv (j : Nat)]) (by repeat constructor) ?_; refine EL.assign rfl rfl rfl ?_)
    refine EL.assign rfl rfl rfl ?_
    refine .go ?_; repeat constructor
    exact PX.ret rfl Try.results94 (.cons (.tmp rfl) (.cons (.tmp rfl) .nil)) (fun w hs => ⟨EnX.one hok b67 j, rfl, hs.ent (.i (by repeat constructor))⟩)
  refine .go ?_; repeat constructor
  refine EL.eqlI rfl rfl rfl rfl ?_
  refine EL.assign rfl rfl rfl ?_
  refine .go ?_; repeat constructor
  refine ES.condD rfl (fun h0 => ?_) (fun h0 => ?_)
  · obtain ⟨ks, rfl⟩ := kind_0 (show r.kind = 0 by omega)
    dsimp only at he
    refine .g0 ?_; repeat constructor
    refine ES.draw (X := Unit) (fun _ => [(0, Pv gs 0), (1, Pv gt 0), (82, .bool (decide (k = ks.length)))]) (fun _ => SB10 gs s st sp z.length cap gm :: HA.memo gm 3 es :: PRow sp cap z :: HA.pack pool :: R) (HA.pack pool :: []) mixed (.i (by repeat constructor)) ?_ (fun _ => ?_)
    · refine ED.take 0 rfl (by decide +kernel) CutX.no_panic (by decide +kernel) rfl rfl rfl (RV.move rfl) ?_
      refine ED.take 1 rfl (by decide +kernel) CutX.no_panic (by decide +kernel) rfl rfl rfl (RV.nilCheck rfl) ?_
      refine ED.take 2 rfl (by decide +kernel) CutX.no_panic (by decide +kernel) rfl rfl rfl (RV.fieldAddr rfl rfl rfl rfl rfl rfl) ?_
      refine ED.take 3 rfl (by decide +kernel) CutX.no_panic (by decide +kernel) rfl rfl rfl (RV.loadPool rfl rfl rfl (by repeat constructor) ht rfl) ?_
      refine ED.take 4 rfl (by decide +kernel) CutX.no_panic (by decide +kernel) rfl rfl rfl (RV.move rfl) ?_
      refine ED.take 5 rfl (by decide +kernel) CutX.no_panic (by decide +kernel) rfl rfl rfl (RV.nilCheck rfl) ?_
      refine ED.take 6 rfl (by decide +kernel) CutX.no_panic (by decide +kernel) rfl rfl rfl (RV.fieldAddr rfl rfl rfl rfl rfl rfl) ?_
      refine ED.take 7 rfl (by decide +kernel) CutX.no_panic (by decide +kernel) rfl rfl rfl (RV.loadPool rfl rfl rfl (by repeat constructor) ht rfl) ?_
      refine ED.take 8 rfl (by decide +kernel) CutX.no_panic (by decide +kernel) rfl rfl rfl (RV.nilCheck rfl) ?_
      refine ED.take 9 rfl (by decide +kernel) CutX.no_panic (by decide +kernel) rfl rfl rfl (RV.fieldAddr rfl rfl rfl rfl rfl rfl) ?_
      refine ED.take 10 rfl (by decide +kernel) CutX.no_panic (by decide +kernel) rfl rfl rfl (RV.loadOld rfl rfl rfl hrd rfl) ?_
      refine ED.take 11 rfl (by decide +kernel) CutX.no_panic (by decide +kernel) rfl rfl rfl (RV.lenL rfl rfl rfl) ?_
      refine ED.take 12 rfl (by decide +kernel) CutX.no_panic (by decide +kernel) rfl rfl rfl (RV.eqlI rfl rfl) ?_
      refine ED.done (by decide +kernel) ?_
      exact PX.cutX () ⟨rfl, rfl, getA rfl (congrArg Value.bool (decide_eq_decide.2 (show ((k : Nat) : Int) = ((ks.length : Nat) : Int) ↔ k = ks.length by omega))), trivial⟩ (.i (by repeat constructor))
    refine ES.condD rfl (fun hk => ?_) (fun hk => ?_)
    · rw [if_pos hk] at he
      cases he
      refine .go ?_; repeat constructor
      refine EL.assign rfl rfl rfl ?_
      refine EL.assign rfl rfl rfl ?_
      refine .go ?_; repeat constructor
      exact PX.ret rfl Try.results94 (.cons (.tmp rfl) (.cons (.tmp rfl) .nil)) (fun w hs => ⟨EnX.none hok, rfl, hs.ent (.i (by repeat constructor))⟩)
    rw [if_neg hk] at he
    refine .g0 ?_; repeat constructor
    have hkb : k ≤ 1073741824 := by
      split at he
      · have := hf.1; omega
      · split at he
        · rename_i h1; have := hf.1; omega
        · cases he
    refine ES.draw (X := Unit) (fun _ => [(0, Pv gs 0), (1, Pv gt 0), (96, .bool (decide (k + 1 = ks.length)))]) (fun _ => SB10 gs s st sp z.length cap gm :: HA.memo gm 3 es :: PRow sp cap z :: HA.pack pool :: R) (HA.pack pool :: []) mixed (.i (by repeat constructor)) ?_ (fun _ => ?_)
    · refine ED.take 0 rfl (by decide +kernel) CutX.no_panic (by decide +kernel) rfl rfl rfl (RV.move rfl) ?_
      refine ED.take 1 rfl (by decide +kernel) CutX.no_panic (by decide +kernel) rfl rfl rfl (RV.nilCheck rfl) ?_
      refine ED.take 2 rfl (by decide +kernel) CutX.no_panic (by decide +kernel) rfl rfl rfl (RV.fieldAddr rfl rfl rfl rfl rfl rfl) ?_
      refine ED.take 3 rfl (by decide +kernel) CutX.no_panic (by decide +kernel) rfl rfl rfl (RV.loadPool rfl rfl rfl (by repeat constructor) ht rfl) ?_
      refine ED.take 4 rfl (by decide +kernel) CutX.no_panic (by decide +kernel) rfl rfl rfl (RV.add1 rfl rfl (by omega)) ?_
      refine ED.take 5 rfl (by decide +kernel) CutX.no_panic (by decide +kernel) rfl rfl rfl (RV.move rfl) ?_
      refine ED.take 6 rfl (by decide +kernel) CutX.no_panic (by decide +kernel) rfl rfl rfl (RV.nilCheck rfl) ?_
      refine ED.take 7 rfl (by decide +kernel) CutX.no_panic (by decide +kernel) rfl rfl rfl (RV.fieldAddr rfl rfl rfl rfl rfl rfl) ?_
      refine ED.take 8 rfl (by decide +kernel) CutX.no_panic (by decide +kernel) rfl rfl rfl (RV.loadPool rfl rfl rfl (by repeat constructor) ht rfl) ?_
      refine ED.take 9 rfl (by decide +kernel) CutX.no_panic (by decide +kernel) rfl rfl rfl (RV.nilCheck rfl) ?_
      refine ED.take 10 rfl (by decide +kernel) CutX.no_panic (by decide +kernel) rfl rfl rfl (RV.fieldAddr rfl rfl rfl rfl rfl rfl) ?_
      refine ED.take 11 rfl (by decide +kernel) CutX.no_panic (by decide +kernel) rfl rfl rfl (RV.loadOld rfl rfl rfl hrd rfl) ?_
      refine ED.take 12 rfl (by decide +kernel) CutX.no_panic (by decide +kernel) rfl rfl rfl (RV.lenL rfl rfl rfl) ?_
      refine ED.take 13 rfl (by decide +kernel) CutX.no_panic (by decide +kernel) rfl rfl rfl (RV.eqlI rfl rfl) ?_
      refine ED.done (by decide +kernel) ?_
      exact PX.cutX () ⟨rfl, rfl, getA rfl (congrArg Value.bool (decide_eq_decide.2 (show ((k + 1 : Nat) : Int) = ((ks.length : Nat) : Int) ↔ k + 1 = ks.length by omega))), trivial⟩ (.i (by repeat constructor))
    refine ES.condD rfl (fun hk1 => ?_) (fun hk1 => ?_)
    · rw [if_pos hk1] at he
      cases he
      refine .go ?_; repeat constructor
      refine EL.move rfl rfl rfl ?_
      refine EL.nilCheck rfl rfl rfl ?_
      refine EL.fieldAddr rfl rfl rfl rfl rfl rfl rfl rfl ?_
      refine EL.loadPool rfl rfl rfl rfl rfl (by repeat constructor) ht rfl ?_
      (refine EL.buildSlice1 rfl rfl rfl rfl rfl rfl rfl rfl rfl rfl ?_; intro b101)
      (refine EL.poolIn (A := HA.row (.slice (some ⟨b101, 0, none⟩) 1 1) 3 1 1 [Iv (j : Nat)]) (by repeat constructor) ?_; refine EL.assign rfl rfl rfl ?_)
      refine EL.assign rfl rfl rfl ?_
      refine .go ?_; repeat constructor
      exact PX.ret rfl Try.results94 (.cons (.tmp rfl) (.cons (.tmp rfl) .nil)) (fun w hs => ⟨EnX.one hok b101 j, rfl, hs.ent (.i (by repeat constructor))⟩)
    rw [if_neg hk1] at he
    split at he
    rotate_left
    · cases he
    rename_i hkc
    obtain ⟨hk2, hcost⟩ := hkc
    cases he
    have hcost' : costL ((ks.drop k).take 1) + 1 ≤ 131072 ∧ costL (ks.drop (k + 1)) + 1 ≤ 131072 := by simpa [costB] using hcost
    obtain ⟨kg, ko, rfl, _⟩ := hkids k ks[k] (List.getElem?_eq_getElem hk2)
    have hkl' : ks.length ≤ 1024 := hf.1
    have hkc4 : ks.length ≤ kcap := q4
    have hkk : (RE.cat ks).kids.length = ks.length := rfl
    have hfk : ∀ a ∈ ks, a.fine := (fineL_iff _).1 hf.2
    have hsp := splitsB_c gs gm s hs st hst sp z.length cap es (.cat ks) k i j hij hj w0 B gr off hn hok ((ks.drop k).take 1) (ks.drop (k + 1)) rfl (fun a ha => hfk a (List.mem_of_mem_drop (List.mem_of_mem_take ha))) (fun a ha => hfk a (List.mem_of_mem_drop ha)) (by simp; omega) (by simp; omega) hcost'.1 hcost'.2
      (k + 1 - k) (ks.length - (k + 1)) (by simp; omega) (by simp) (some ⟨kg, ko + k * 9, none⟩) (some ⟨kg, ko + (k + 1) * 9, none⟩) (kcap - k) (kcap - (k + 1)) HA.emp
      (kids_drop hkids k _ (fun a b hab => by
        rw [List.getElem?_take] at hab
        split at hab
        · rw [List.getElem?_drop] at hab; exact hab
        · cases hab) HA.emp)
      (kids_drop hkids (k + 1) _ (fun a b hab => by rw [List.getElem?_drop] at hab; exact hab) HA.emp)
    refine .g0 ?_; repeat constructor
    refine ES.imp (H' := HA.emp :: SB10 gs s st sp z.length cap gm :: HA.memo gm 3 es :: PRow sp cap z :: HA.pack pool :: R) (fun w hs => hs.emp) ?_
    refine ES.draw (X := SplX w0 B s es (.cat ks) k i j st) (fun x => [(4, .slice x.ad (listB s (.cat ks) k i j).length x.cap), (5, .bool true)]) (fun x => SB10 gs s x.st' sp z.length cap gm :: HA.memo gm 3 x.es' :: PRow sp cap z :: HA.pack pool :: R) (HA.pack pool :: []) mixed (.i (by repeat constructor)) ?_ (fun x => ?_)
    · refine ED.take 0 rfl (by decide +kernel) CutX.no_panic (by decide +kernel) rfl rfl rfl (RV.move rfl) ?_
      refine ED.take 1 rfl (by decide +kernel) CutX.no_panic (by decide +kernel) rfl rfl rfl (RV.move rfl) ?_
      refine ED.take 2 rfl (by decide +kernel) CutX.no_panic (by decide +kernel) rfl rfl rfl (RV.nilCheck rfl) ?_
      refine ED.take 3 rfl (by decide +kernel) CutX.no_panic (by decide +kernel) rfl rfl rfl (RV.fieldAddr rfl rfl rfl rfl rfl rfl) ?_
      refine ED.take 4 rfl (by decide +kernel) CutX.no_panic (by decide +kernel) rfl rfl rfl (RV.loadPool rfl rfl rfl (by repeat constructor) ht rfl) ?_
      refine ED.take 5 rfl (by decide +kernel) CutX.no_panic (by decide +kernel) rfl rfl rfl (RV.move rfl) ?_
      refine ED.take 6 rfl (by decide +kernel) CutX.no_panic (by decide +kernel) rfl rfl rfl (RV.nilCheck rfl) ?_
      refine ED.take 7 rfl (by decide +kernel) CutX.no_panic (by decide +kernel) rfl rfl rfl (RV.fieldAddr rfl rfl rfl rfl rfl rfl) ?_
      refine ED.take 8 rfl (by decide +kernel) CutX.no_panic (by decide +kernel) rfl rfl rfl (RV.loadPool rfl rfl rfl (by repeat constructor) ht rfl) ?_
      refine ED.take 9 rfl (by decide +kernel) CutX.no_panic (by decide +kernel) rfl rfl rfl (RV.move rfl) ?_
      refine ED.take 10 rfl (by decide +kernel) CutX.no_panic (by decide +kernel) rfl rfl rfl (RV.nilCheck rfl) ?_
      refine ED.take 11 rfl (by decide +kernel) CutX.no_panic (by decide +kernel) rfl rfl rfl (RV.fieldAddr rfl rfl rfl rfl rfl rfl) ?_
      refine ED.take 12 rfl (by decide +kernel) CutX.no_panic (by decide +kernel) rfl rfl rfl (RV.loadPool rfl rfl rfl (by repeat constructor) ht rfl) ?_
      refine ED.take 13 rfl (by decide +kernel) CutX.no_panic (by decide +kernel) rfl rfl rfl (RV.move rfl) ?_
      refine ED.take 14 rfl (by decide +kernel) CutX.no_panic (by decide +kernel) rfl rfl rfl (RV.nilCheck rfl) ?_
      refine ED.take 15 rfl (by decide +kernel) CutX.no_panic (by decide +kernel) rfl rfl rfl (RV.fieldAddr rfl rfl rfl rfl rfl rfl) ?_
      refine ED.take 16 rfl (by decide +kernel) CutX.no_panic (by decide +kernel) rfl rfl rfl (RV.loadPool rfl rfl rfl (by repeat constructor) ht rfl) ?_
      refine ED.take 17 rfl (by decide +kernel) CutX.no_panic (by decide +kernel) rfl rfl rfl (RV.buildS #[Pv gr off, Iv (k : Nat), Iv (i : Nat), Iv (j : Nat)] rfl rfl rfl rfl (by kernel_rfl)) ?_
      refine ED.take 18 rfl (by decide +kernel) CutX.no_panic (by decide +kernel) rfl rfl rfl (RV.move rfl) ?_
      refine ED.take 19 rfl (by decide +kernel) CutX.no_panic (by decide +kernel) rfl rfl rfl (RV.nilCheck rfl) ?_
      refine ED.take 20 rfl (by decide +kernel) CutX.no_panic (by decide +kernel) rfl rfl rfl (RV.fieldAddr rfl rfl rfl rfl rfl rfl) ?_
      refine ED.take 21 rfl (by decide +kernel) CutX.no_panic (by decide +kernel) rfl rfl rfl (RV.loadPool rfl rfl rfl (by repeat constructor) ht rfl) ?_
      refine ED.take 22 rfl (by decide +kernel) CutX.no_panic (by decide +kernel) rfl rfl rfl (RV.nilCheck rfl) ?_
      refine ED.take 23 rfl (by decide +kernel) CutX.no_panic (by decide +kernel) rfl rfl rfl (RV.fieldAddr rfl rfl rfl rfl rfl rfl) ?_
      refine ED.take 24 rfl (by decide +kernel) CutX.no_panic (by decide +kernel) rfl rfl rfl (RV.loadOld rfl rfl rfl hrd rfl) ?_
      refine ED.take 25 rfl (by decide +kernel) CutX.no_panic (by decide +kernel) rfl rfl rfl (RV.move rfl) ?_
      refine ED.take 26 rfl (by decide +kernel) CutX.no_panic (by decide +kernel) rfl rfl rfl (RV.nilCheck rfl) ?_
      refine ED.take 27 rfl (by decide +kernel) CutX.no_panic (by decide +kernel) rfl rfl rfl (RV.fieldAddr rfl rfl rfl rfl rfl rfl) ?_
      refine ED.take 28 rfl (by decide +kernel) CutX.no_panic (by decide +kernel) rfl rfl rfl (RV.loadPool rfl rfl rfl (by repeat constructor) ht rfl) ?_
      refine ED.take 29 rfl (by decide +kernel) CutX.no_panic (by decide +kernel) rfl rfl rfl (RV.move rfl) ?_
      refine ED.take 30 rfl (by decide +kernel) CutX.no_panic (by decide +kernel) rfl rfl rfl (RV.nilCheck rfl) ?_
      refine ED.take 31 rfl (by decide +kernel) CutX.no_panic (by decide +kernel) rfl rfl rfl (RV.fieldAddr rfl rfl rfl rfl rfl rfl) ?_
      refine ED.take 32 rfl (by decide +kernel) CutX.no_panic (by decide +kernel) rfl rfl rfl (RV.loadPool rfl rfl rfl (by repeat constructor) ht rfl) ?_
      refine ED.take 33 rfl (by decide +kernel) CutX.no_panic (by decide +kernel) rfl rfl rfl (RV.add1 rfl rfl (by omega)) ?_
      refine ED.take 34 rfl (by decide +kernel) CutX.no_panic (by decide +kernel) rfl rfl rfl (RV.sliceLHk (lo := k) (hi := k + 1) rfl rfl rfl rfl rfl rfl (by omega) (by omega) (by omega)) ?_
      refine ED.take 35 rfl (by decide +kernel) CutX.no_panic (by decide +kernel) rfl rfl rfl (RV.move rfl) ?_
      refine ED.take 36 rfl (by decide +kernel) CutX.no_panic (by decide +kernel) rfl rfl rfl (RV.nilCheck rfl) ?_
      refine ED.take 37 rfl (by decide +kernel) CutX.no_panic (by decide +kernel) rfl rfl rfl (RV.fieldAddr rfl rfl rfl rfl rfl rfl) ?_
      refine ED.take 38 rfl (by decide +kernel) CutX.no_panic (by decide +kernel) rfl rfl rfl (RV.loadPool rfl rfl rfl (by repeat constructor) ht rfl) ?_
      refine ED.take 39 rfl (by decide +kernel) CutX.no_panic (by decide +kernel) rfl rfl rfl (RV.nilCheck rfl) ?_
      refine ED.take 40 rfl (by decide +kernel) CutX.no_panic (by decide +kernel) rfl rfl rfl (RV.fieldAddr rfl rfl rfl rfl rfl rfl) ?_
      refine ED.take 41 rfl (by decide +kernel) CutX.no_panic (by decide +kernel) rfl rfl rfl (RV.loadOld rfl rfl rfl hrd rfl) ?_
      refine ED.take 42 rfl (by decide +kernel) CutX.no_panic (by decide +kernel) rfl rfl rfl (RV.move rfl) ?_
      refine ED.take 43 rfl (by decide +kernel) CutX.no_panic (by decide +kernel) rfl rfl rfl (RV.nilCheck rfl) ?_
      refine ED.take 44 rfl (by decide +kernel) CutX.no_panic (by decide +kernel) rfl rfl rfl (RV.fieldAddr rfl rfl rfl rfl rfl rfl) ?_
      refine ED.take 45 rfl (by decide +kernel) CutX.no_panic (by decide +kernel) rfl rfl rfl (RV.loadPool rfl rfl rfl (by repeat constructor) ht rfl) ?_
      refine ED.take 46 rfl (by decide +kernel) CutX.no_panic (by decide +kernel) rfl rfl rfl (RV.add1 rfl rfl (by omega)) ?_
      refine ED.take 47 rfl (by decide +kernel) CutX.no_panic (by decide +kernel) rfl rfl rfl (RV.sliceLk (lo := k + 1) rfl rfl rfl rfl rfl (by omega) (by omega) (by omega)) ?_
      refine ED.loud 48 rfl (by decide +kernel) ?_
      (refine EL.callMw rfl rfl rfl ent105 rfl hsp (by repeat constructor) ?_; intro x)
      refine ED.next (.i (by repeat constructor)) ?_
      refine ED.take 49 rfl (by decide +kernel) CutX.no_panic (by decide +kernel) rfl rfl rfl (RV.assign rfl) ?_
      refine ED.take 50 rfl (by decide +kernel) CutX.no_panic (by decide +kernel) rfl rfl rfl (RV.assign rfl) ?_
      refine ED.done (by decide +kernel) ?_
      exact PX.cutX x ⟨rfl, rfl, trivial⟩ (.i (by repeat constructor))
    refine .go ?_; repeat constructor
    exact PX.ret rfl Try.results94 (.cons (.tmp rfl) (.cons (.tmp rfl) .nil)) (fun w hs => ⟨⟨x.es', x.st', pool, x.ad, x.cap, x.sub, fun _ h => h, x.ok, x.le, (ent_ends hs (Mem.mem (by repeat constructor)) x.mem x.ent x.val pool).1, (ent_ends hs (Mem.mem (by repeat constructor)) x.mem x.ent x.val pool).2⟩, rfl, hs.ent (.i (by repeat constructor))⟩)
  refine .go ?_; repeat constructor
  refine EL.eqlI rfl rfl rfl rfl ?_
  refine EL.assign rfl rfl rfl ?_
  refine .go ?_; repeat constructor
  refine ES.condD rfl (fun h5 => ?_) (fun h5 => ?_)
  · obtain ⟨lo, hi, x, rfl⟩ := kind_5 (show r.kind = 5 by omega)
    have hkf := hf.2.2.2.2
    have hlo := hf.1
    have hle := least_le lo x
    have hkk : (RE.rep lo hi x).kids.length = 1 := rfl
    obtain ⟨g', o', rfl, _⟩ := hkids 0 x rfl
    dsimp only at he
    refine .go ?_; repeat constructor
    refine EL.move rfl rfl rfl ?_
    refine EL.nilCheck rfl rfl rfl ?_
    refine EL.fieldAddr rfl rfl rfl rfl rfl rfl rfl rfl ?_
    refine EL.loadPool rfl rfl rfl rfl rfl (by repeat constructor) ht rfl ?_
    refine EL.callPw rfl rfl rfl ent82 rfl (fun w hs => least_c lo hi x hf gr off w (NodeRd.sat hn hs)) ?_
    refine EL.assign rfl rfl rfl ?_
    refine .go ?_; repeat constructor
    refine ES.draw (X := Unit) (fun _ => [(0, Pv gs 0), (1, Pv gt 0), (7, Iv (leastM lo x : Nat)), (174, .bool (decide (i = j ∧ leastM lo x ≤ k)))]) (fun _ => SB10 gs s st sp z.length cap gm :: HA.memo gm 3 es :: PRow sp cap z :: HA.pack pool :: R) (HA.pack pool :: []) mixed (.i (by repeat constructor)) ?_ (fun _ => ?_)
    · refine ED.take 0 rfl (by decide +kernel) CutX.no_panic (by decide +kernel) rfl rfl rfl (RV.move rfl) ?_
      refine ED.take 1 rfl (by decide +kernel) CutX.no_panic (by decide +kernel) rfl rfl rfl (RV.nilCheck rfl) ?_
      refine ED.take 2 rfl (by decide +kernel) CutX.no_panic (by decide +kernel) rfl rfl rfl (RV.fieldAddr rfl rfl rfl rfl rfl rfl) ?_
      refine ED.take 3 rfl (by decide +kernel) CutX.no_panic (by decide +kernel) rfl rfl rfl (RV.loadPool rfl rfl rfl (by repeat constructor) ht rfl) ?_
      refine ED.take 4 rfl (by decide +kernel) CutX.no_panic (by decide +kernel) rfl rfl rfl (RV.move rfl) ?_
      refine ED.take 5 rfl (by decide +kernel) CutX.no_panic (by decide +kernel) rfl rfl rfl (RV.nilCheck rfl) ?_
      refine ED.take 6 rfl (by decide +kernel) CutX.no_panic (by decide +kernel) rfl rfl rfl (RV.fieldAddr rfl rfl rfl rfl rfl rfl) ?_
      refine ED.take 7 rfl (by decide +kernel) CutX.no_panic (by decide +kernel) rfl rfl rfl (RV.loadPool rfl rfl rfl (by repeat constructor) ht rfl) ?_
      refine ED.take 8 rfl (by decide +kernel) CutX.no_panic (by decide +kernel) rfl rfl rfl (RV.eqlI rfl rfl) ?_
      refine ED.take 9 rfl (by decide +kernel) CutX.no_panic (by decide +kernel) rfl rfl rfl (RV.move rfl) ?_
      first | refine ED.part (d := 167) rfl (fun hp167 => ?_) (fun hp167 => ?_) | refine ED.partN (d := 167) rfl (fun hp167 => ?_) (fun hp167 => ?_) | refine ED.partB (d := 167) rfl (fun hp167 => ?_) (fun hp167 => ?_)
      · refine ED.take 10 rfl (by decide +kernel) CutX.no_panic (by decide +kernel) rfl rfl rfl (RV.move rfl) ?_
        refine ED.take 11 rfl (by decide +kernel) CutX.no_panic (by decide +kernel) rfl rfl rfl (RV.nilCheck rfl) ?_
        refine ED.take 12 rfl (by decide +kernel) CutX.no_panic (by decide +kernel) rfl rfl rfl (RV.fieldAddr rfl rfl rfl rfl rfl rfl) ?_
        refine ED.take 13 rfl (by decide +kernel) CutX.no_panic (by decide +kernel) rfl rfl rfl (RV.loadPool rfl rfl rfl (by repeat constructor) ht rfl) ?_
        refine ED.take 14 rfl (by decide +kernel) CutX.no_panic (by decide +kernel) rfl rfl rfl (RV.move rfl) ?_
        refine ED.take 15 rfl (by decide +kernel) CutX.no_panic (by decide +kernel) rfl rfl rfl (RV.geq rfl rfl) ?_
        refine ED.take 16 rfl (by decide +kernel) CutX.no_panic (by decide +kernel) rfl rfl rfl (RV.pickT rfl rfl) ?_
        refine ED.done (by decide +kernel) ?_
        exact PX.cutX () ⟨rfl, rfl, rfl, getA rfl (congrArg Value.bool (by rw [Bool.eq_iff_iff]; simp only [decide_eq_true_eq, Bool.false_eq_true, false_iff]; omega)), trivial⟩ (.i (by repeat constructor))
      · refine ED.pass 10 rfl (by decide +kernel) CutX.no_panic (by decide +kernel) rfl rfl rfl ?_
        refine ED.pass 11 rfl (by decide +kernel) CutX.no_panic (by decide +kernel) rfl rfl rfl ?_
        refine ED.pass 12 rfl (by decide +kernel) CutX.no_panic (by decide +kernel) rfl rfl rfl ?_
        refine ED.pass 13 rfl (by decide +kernel) CutX.no_panic (by decide +kernel) rfl rfl rfl ?_
        refine ED.pass 14 rfl (by decide +kernel) CutX.no_panic (by decide +kernel) rfl rfl rfl ?_
        refine ED.pass 15 rfl (by decide +kernel) CutX.no_panic (by decide +kernel) rfl rfl rfl ?_
        refine ED.take 16 rfl (by decide +kernel) CutX.no_panic (by decide +kernel) rfl rfl rfl (RV.pickF rfl rfl) ?_
        refine ED.done (by decide +kernel) ?_
        exact PX.cutX () ⟨rfl, rfl, rfl, getA rfl (congrArg Value.bool (by rw [Bool.eq_iff_iff]; simp only [decide_eq_true_eq, Bool.false_eq_true, false_iff]; omega)), trivial⟩ (.i (by repeat constructor))
    refine ES.condD rfl (fun hk => ?_) (fun hk => ?_)
    · rw [if_pos hk] at he
      cases he
      refine .go ?_; repeat constructor
      refine EL.assign rfl rfl rfl ?_
      refine EL.assign rfl rfl rfl ?_
      refine .go ?_; repeat constructor
      exact PX.ret rfl Try.results94 (.cons (.tmp rfl) (.cons (.tmp rfl) .nil)) (fun w hs => ⟨EnX.none hok, rfl, hs.ent (.i (by repeat constructor))⟩)
    rw [if_neg hk] at he
    split at he
    rotate_left
    · cases he
    rename_i hkc
    obtain ⟨hk2, hcost⟩ := hkc
    have hcost' : costL [x] + 1 ≤ 131072 ∧ costL [leftM lo hi x (turnB lo hi x k + 1)] + 1 ≤ 131072 := by simpa [costB] using hcost
    have htu : turnB lo hi x k ≤ k := by unfold turnB; split <;> omega
    refine .go ?_; repeat constructor
    refine EL.move rfl rfl rfl ?_
    refine EL.nilCheck rfl rfl rfl ?_
    refine EL.fieldAddr rfl rfl rfl rfl rfl rfl rfl rfl ?_
    refine EL.loadPool rfl rfl rfl rfl rfl (by repeat constructor) ht rfl ?_
    refine EL.assign rfl rfl rfl ?_
    refine .go ?_; repeat constructor
    refine EL.move rfl rfl rfl ?_
    refine EL.nilCheck rfl rfl rfl ?_
    refine EL.fieldAddr rfl rfl rfl rfl rfl rfl rfl rfl ?_
    refine EL.loadPool rfl rfl rfl rfl rfl (by repeat constructor) ht rfl ?_
    refine EL.nilCheck rfl rfl rfl ?_
    refine EL.fieldAddr rfl rfl rfl rfl rfl rfl rfl rfl ?_
    refine EL.loadOld rfl rfl rfl rfl rfl hrd rfl ?_
    refine EL.lss rfl rfl rfl rfl ?_
    refine .go ?_; repeat constructor
    refine ES.cutC (X := Unit) (fun _ => [(0, Pv gs 0), (1, Pv gt 0), (7, Iv (leastM lo x : Nat)), (8, Iv (turnB lo hi x k : Nat))]) (fun _ => SB10 gs s st sp z.length cap gm :: HA.memo gm 3 es :: PRow sp cap z :: HA.pack pool :: R) ?_ (fun _ => ?_)
    · refine ES.condD rfl (fun hneg => ?_) (fun hneg => ?_)
      · have ht1 : min (k : Int) ((leastM lo x : Nat) : Int) = ((turnB lo hi x k : Nat) : Int) := by
          have : turnB lo hi x k = min k (leastM lo x) := if_pos hneg
          omega
        refine .go ?_; repeat constructor
        refine EL.move rfl rfl rfl ?_
        refine EL.move rfl rfl rfl ?_
        refine EL.ofRV (RV.minI rfl rfl) rfl rfl rfl (by intro c h; cases h) ?_
        refine EL.assign rfl rfl rfl ?_
        refine .go ?_; repeat constructor
        exact PX.cutX () ⟨rfl, rfl, rfl, getA rfl (congrArg Iv ht1), trivial⟩ (.i (by repeat constructor))
      · have ht1 : (k : Int) = ((turnB lo hi x k : Nat) : Int) := by
          have : turnB lo hi x k = k := if_neg hneg
          omega
        refine .go ?_; repeat constructor
        exact PX.cutX () ⟨rfl, rfl, rfl, getA rfl (congrArg Iv ht1), trivial⟩ (.i (by repeat constructor))
    obtain ⟨tb, htb⟩ : ∃ tb, tb = turnB lo hi x k := ⟨_, rfl⟩
    rw [← htb] at he hcost' htu ⊢
    obtain ⟨L, hL⟩ : ∃ L, L = listB s (.rep lo hi x) tb i j := ⟨_, rfl⟩
    have hLl : L.length ≤ j + 1 - i := by rw [hL]; exact spl_len _ _ _ _ _ _
    rw [← hL] at he
    have hsp := fun b => splitsB_c gs gm s hs st hst sp z.length cap es (.rep lo hi x) tb i j hij hj w0 B gr off hn hok [x] [leftM lo hi x (tb + 1)] rfl (fun a ha => by rw [List.mem_singleton] at ha; subst ha; exact hkf) (fun a ha => by rw [List.mem_singleton] at ha; subst ha; exact left_fine hf _) (by simp) (by simp) hcost'.1 hcost'.2
      1 1 rfl rfl (some ⟨g', o', none⟩) (some ⟨b, 0, none⟩) kcap 1 (HA.row (.slice (some ⟨b, 0, none⟩) 1 1) 82 9 1 (reCells (leftM lo hi x (tb + 1)) (.slice (some ⟨g', o', none⟩) 1 kcap)))
      (fun w' H' hs' a b hab => by
        obtain ⟨q, o, e1, e2⟩ := hkids a b hab
        exact ⟨q, o, e1, NodeRd.sat e2 hs'⟩)
      (rowRd_left q2 q3 q4)
    rw [← hL] at hsp
    refine .g0 ?_; repeat constructor
    refine ES.draw (X := SplX w0 B s es (.rep lo hi x) tb i j st) (fun y => [(1, Pv gt 0), (4, .slice y.ad L.length y.cap), (7, Iv (leastM lo x : Nat))]) (fun y => SB10 gs s y.st' sp z.length cap gm :: HA.memo gm 3 y.es' :: PRow sp cap z :: HA.pack pool :: R) (HA.pack pool :: []) mixed (.i (by repeat constructor)) ?_ (fun y => ?_)
    · refine ED.take 0 rfl (by decide +kernel) CutX.no_panic (by decide +kernel) rfl rfl rfl (RV.move rfl) ?_
      refine ED.take 1 rfl (by decide +kernel) CutX.no_panic (by decide +kernel) rfl rfl rfl (RV.move rfl) ?_
      refine ED.take 2 rfl (by decide +kernel) CutX.no_panic (by decide +kernel) rfl rfl rfl (RV.nilCheck rfl) ?_
      refine ED.take 3 rfl (by decide +kernel) CutX.no_panic (by decide +kernel) rfl rfl rfl (RV.fieldAddr rfl rfl rfl rfl rfl rfl) ?_
      refine ED.take 4 rfl (by decide +kernel) CutX.no_panic (by decide +kernel) rfl rfl rfl (RV.loadPool rfl rfl rfl (by repeat constructor) ht rfl) ?_
      refine ED.take 5 rfl (by decide +kernel) CutX.no_panic (by decide +kernel) rfl rfl rfl (RV.move rfl) ?_
      refine ED.take 6 rfl (by decide +kernel) CutX.no_panic (by decide +kernel) rfl rfl rfl (RV.move rfl) ?_
      refine ED.take 7 rfl (by decide +kernel) CutX.no_panic (by decide +kernel) rfl rfl rfl (RV.nilCheck rfl) ?_
      refine ED.take 8 rfl (by decide +kernel) CutX.no_panic (by decide +kernel) rfl rfl rfl (RV.fieldAddr rfl rfl rfl rfl rfl rfl) ?_
      refine ED.take 9 rfl (by decide +kernel) CutX.no_panic (by decide +kernel) rfl rfl rfl (RV.loadPool rfl rfl rfl (by repeat constructor) ht rfl) ?_
      refine ED.take 10 rfl (by decide +kernel) CutX.no_panic (by decide +kernel) rfl rfl rfl (RV.move rfl) ?_
      refine ED.take 11 rfl (by decide +kernel) CutX.no_panic (by decide +kernel) rfl rfl rfl (RV.nilCheck rfl) ?_
      refine ED.take 12 rfl (by decide +kernel) CutX.no_panic (by decide +kernel) rfl rfl rfl (RV.fieldAddr rfl rfl rfl rfl rfl rfl) ?_
      refine ED.take 13 rfl (by decide +kernel) CutX.no_panic (by decide +kernel) rfl rfl rfl (RV.loadPool rfl rfl rfl (by repeat constructor) ht rfl) ?_
      refine ED.take 14 rfl (by decide +kernel) CutX.no_panic (by decide +kernel) rfl rfl rfl (RV.buildS #[Pv gr off, Iv (tb : Nat), Iv (i : Nat), Iv (j : Nat)] rfl rfl rfl rfl (by kernel_rfl)) ?_
      refine ED.take 15 rfl (by decide +kernel) CutX.no_panic (by decide +kernel) rfl rfl rfl (RV.move rfl) ?_
      refine ED.take 16 rfl (by decide +kernel) CutX.no_panic (by decide +kernel) rfl rfl rfl (RV.nilCheck rfl) ?_
      refine ED.take 17 rfl (by decide +kernel) CutX.no_panic (by decide +kernel) rfl rfl rfl (RV.fieldAddr rfl rfl rfl rfl rfl rfl) ?_
      refine ED.take 18 rfl (by decide +kernel) CutX.no_panic (by decide +kernel) rfl rfl rfl (RV.loadPool rfl rfl rfl (by repeat constructor) ht rfl) ?_
      refine ED.take 19 rfl (by decide +kernel) CutX.no_panic (by decide +kernel) rfl rfl rfl (RV.nilCheck rfl) ?_
      refine ED.take 20 rfl (by decide +kernel) CutX.no_panic (by decide +kernel) rfl rfl rfl (RV.fieldAddr rfl rfl rfl rfl rfl rfl) ?_
      refine ED.take 21 rfl (by decide +kernel) CutX.no_panic (by decide +kernel) rfl rfl rfl (RV.loadOld rfl rfl rfl hrd rfl) ?_
      refine ED.take 22 rfl (by decide +kernel) CutX.no_panic (by decide +kernel) rfl rfl rfl (RV.move rfl) ?_
      refine ED.take 23 rfl (by decide +kernel) CutX.no_panic (by decide +kernel) rfl rfl rfl (RV.nilCheck rfl) ?_
      refine ED.take 24 rfl (by decide +kernel) CutX.no_panic (by decide +kernel) rfl rfl rfl (RV.fieldAddr rfl rfl rfl rfl rfl rfl) ?_
      refine ED.take 25 rfl (by decide +kernel) CutX.no_panic (by decide +kernel) rfl rfl rfl (RV.loadPool rfl rfl rfl (by repeat constructor) ht rfl) ?_
      refine ED.take 26 rfl (by decide +kernel) CutX.no_panic (by decide +kernel) rfl rfl rfl (RV.move rfl) ?_
      refine ED.take 27 rfl (by decide +kernel) CutX.no_panic (by decide +kernel) rfl rfl rfl (RV.add1 rfl rfl (by omega)) ?_
      refine ED.loud 28 rfl (by decide +kernel) ?_
      (refine EL.callPw rfl rfl rfl ent93 rfl (fun w hs => left_c lo hi x hf (tb + 1) (by omega) gr off (some ⟨g', o', none⟩) kcap w (NodeRd.sat hn hs) (Rd.sat hrd hs)) ?_)
      refine ED.next (.i (by repeat constructor)) ?_
      refine ED.loud 29 rfl (by decide +kernel) ?_
      (refine EL.buildSlice1 rfl rfl rfl rfl rfl rfl rfl rfl rfl rfl ?_; intro b219)
      refine ED.next (.i (by repeat constructor)) ?_
      refine ED.loud 30 rfl (by decide +kernel) ?_
      (refine EL.callMw rfl rfl rfl ent105 rfl (hsp b219) (by repeat constructor) ?_; intro y)
      refine ED.next (.i (by repeat constructor)) ?_
      refine ED.take 31 rfl (by decide +kernel) CutX.no_panic (by decide +kernel) rfl rfl rfl (RV.assign rfl) ?_
      refine ED.done (by decide +kernel) ?_
      exact PX.cutX y ⟨rfl, rfl, rfl, trivial⟩ (.i (by repeat constructor))
    obtain ⟨es', st', xad, xcap, m, x1, x2, x3, x4, x5, x6⟩ := y
    rw [← hL] at x6
    dsimp only
    refine ES.know (P := EndsAt es' pool xad L ∧ L.length ≤ xcap) (fun w hs => by
      have := ent_ends hs (Mem.mem (by repeat constructor)) x4 x5 (hL ▸ x6) pool
      rw [← hL] at this
      exact this) ?_
    rintro ⟨hE, hcap⟩
    by_cases hnil : L = []
    · subst hnil
      have hcut : cutEB ([] : List Nat) i (decide (leastM lo x ≤ k)) = [] := by unfold cutEB; split <;> rfl
      rw [hcut] at he
      cases he
      refine .g0 ?_; repeat constructor
      refine ES.draw (X := Unit) (fun _ => [(4, .slice xad 0 xcap), (244, .bool false)]) (fun _ => SB10 gs s st' sp z.length cap gm :: HA.memo gm 3 es' :: PRow sp cap z :: HA.pack pool :: R) (HA.pack pool :: []) mixed (.i (by repeat constructor)) ?_ (fun _ => ?_)
      · refine ED.take 0 rfl (by decide +kernel) CutX.no_panic (by decide +kernel) rfl rfl rfl (RV.move rfl) ?_
        refine ED.take 1 rfl (by decide +kernel) CutX.no_panic (by decide +kernel) rfl rfl rfl (RV.nilCheck rfl) ?_
        refine ED.take 2 rfl (by decide +kernel) CutX.no_panic (by decide +kernel) rfl rfl rfl (RV.fieldAddr rfl rfl rfl rfl rfl rfl) ?_
        refine ED.take 3 rfl (by decide +kernel) CutX.no_panic (by decide +kernel) rfl rfl rfl (RV.loadPool rfl rfl rfl (by repeat constructor) ht rfl) ?_
        refine ED.take 4 rfl (by decide +kernel) CutX.no_panic (by decide +kernel) rfl rfl rfl (RV.move rfl) ?_
        refine ED.take 5 rfl (by decide +kernel) CutX.no_panic (by decide +kernel) rfl rfl rfl (RV.geq rfl rfl) ?_
        refine ED.take 6 rfl (by decide +kernel) CutX.no_panic (by decide +kernel) rfl rfl rfl (RV.move rfl) ?_
        first | refine ED.part (d := 227) rfl (fun hp227 => ?_) (fun hp227 => ?_) | refine ED.partN (d := 227) rfl (fun hp227 => ?_) (fun hp227 => ?_) | refine ED.partB (d := 227) rfl (fun hp227 => ?_) (fun hp227 => ?_)
        · refine ED.take 7 rfl (by decide +kernel) CutX.no_panic (by decide +kernel) rfl rfl rfl (RV.move rfl) ?_
          refine ED.take 8 rfl (by decide +kernel) CutX.no_panic (by decide +kernel) rfl rfl rfl (RV.lenL rfl rfl rfl) ?_
          refine ED.take 9 rfl (by decide +kernel) CutX.no_panic (by decide +kernel) rfl rfl rfl (RV.gtr rfl rfl) ?_
          refine ED.take 10 rfl (by decide +kernel) CutX.no_panic (by decide +kernel) rfl rfl rfl (RV.pickT rfl rfl) ?_
          refine ED.take 11 rfl (by decide +kernel) CutX.no_panic (by decide +kernel) rfl rfl rfl (RV.move rfl) ?_
          refine ED.rew (d := 232) (v' := .bool false) rfl (by first | rfl | (decide) | (simp)) ?_
          refine ED.pass 12 rfl (by decide +kernel) CutX.no_panic (by decide +kernel) rfl rfl rfl ?_
          refine ED.pass 13 rfl (by decide +kernel) CutX.no_panic (by decide +kernel) rfl rfl rfl ?_
          refine ED.pass 14 rfl (by decide +kernel) CutX.no_panic (by decide +kernel) rfl rfl rfl ?_
          refine ED.pass 15 rfl (by decide +kernel) CutX.no_panic (by decide +kernel) rfl rfl rfl ?_
          refine ED.pass 16 rfl (by decide +kernel) CutX.no_panic (by decide +kernel) rfl rfl rfl ?_
          refine ED.pass 17 rfl (by decide +kernel) CutX.no_panic (by decide +kernel) rfl rfl rfl ?_
          refine ED.pass 18 rfl (by decide +kernel) CutX.no_panic (by decide +kernel) rfl rfl rfl ?_
          refine ED.pass 19 rfl (by decide +kernel) CutX.no_panic (by decide +kernel) rfl rfl rfl ?_
          refine ED.pass 20 rfl (by decide +kernel) CutX.no_panic (by decide +kernel) rfl rfl rfl ?_
          refine ED.pass 21 rfl (by decide +kernel) CutX.no_panic (by decide +kernel) rfl rfl rfl ?_
          refine ED.pass 22 rfl (by decide +kernel) CutX.no_panic (by decide +kernel) rfl rfl rfl ?_
          refine ED.take 23 rfl (by decide +kernel) CutX.no_panic (by decide +kernel) rfl rfl rfl (RV.pickF rfl rfl) ?_
          refine ED.done (by decide +kernel) ?_
          exact PX.cutX () ⟨rfl, rfl, trivial⟩ (.i (by repeat constructor))
        · refine ED.pass 7 rfl (by decide +kernel) CutX.no_panic (by decide +kernel) rfl rfl rfl ?_
          refine ED.pass 8 rfl (by decide +kernel) CutX.no_panic (by decide +kernel) rfl rfl rfl ?_
          refine ED.pass 9 rfl (by decide +kernel) CutX.no_panic (by decide +kernel) rfl rfl rfl ?_
          refine ED.take 10 rfl (by decide +kernel) CutX.no_panic (by decide +kernel) rfl rfl rfl (RV.pickF rfl rfl) ?_
          refine ED.take 11 rfl (by decide +kernel) CutX.no_panic (by decide +kernel) rfl rfl rfl (RV.move rfl) ?_
          refine ED.pass 12 rfl (by decide +kernel) CutX.no_panic (by decide +kernel) rfl rfl rfl ?_
          refine ED.pass 13 rfl (by decide +kernel) CutX.no_panic (by decide +kernel) rfl rfl rfl ?_
          refine ED.pass 14 rfl (by decide +kernel) CutX.no_panic (by decide +kernel) rfl rfl rfl ?_
          refine ED.pass 15 rfl (by decide +kernel) CutX.no_panic (by decide +kernel) rfl rfl rfl ?_
          refine ED.pass 16 rfl (by decide +kernel) CutX.no_panic (by decide +kernel) rfl rfl rfl ?_
          refine ED.pass 17 rfl (by decide +kernel) CutX.no_panic (by decide +kernel) rfl rfl rfl ?_
          refine ED.pass 18 rfl (by decide +kernel) CutX.no_panic (by decide +kernel) rfl rfl rfl ?_
          refine ED.pass 19 rfl (by decide +kernel) CutX.no_panic (by decide +kernel) rfl rfl rfl ?_
          refine ED.pass 20 rfl (by decide +kernel) CutX.no_panic (by decide +kernel) rfl rfl rfl ?_
          refine ED.pass 21 rfl (by decide +kernel) CutX.no_panic (by decide +kernel) rfl rfl rfl ?_
          refine ED.pass 22 rfl (by decide +kernel) CutX.no_panic (by decide +kernel) rfl rfl rfl ?_
          refine ED.take 23 rfl (by decide +kernel) CutX.no_panic (by decide +kernel) rfl rfl rfl (RV.pickF rfl rfl) ?_
          refine ED.done (by decide +kernel) ?_
          exact PX.cutX () ⟨rfl, rfl, trivial⟩ (.i (by repeat constructor))
      refine ES.condF rfl ?_
      refine .go ?_; repeat constructor
      refine EL.move rfl rfl rfl ?_
      refine EL.assign rfl rfl rfl ?_
      refine EL.assign rfl rfl rfl ?_
      refine .go ?_; repeat constructor
      exact PX.ret rfl Try.results94 (.cons (.tmp rfl) (.cons (.tmp rfl) .nil)) (fun w hs => ⟨⟨es', st', pool, xad, xcap, x1, fun _ h => h, x2, x3, hE, hcap⟩, rfl, hs.ent (.i (by repeat constructor))⟩)
    obtain ⟨lg, lo2, rfl, hE2⟩ := hE hnil
    have hpos : 0 < L.length := List.length_pos_iff.2 hnil
    obtain ⟨e, hlast⟩ : ∃ e, L[L.length - 1]? = some e := ⟨_, List.getElem?_eq_getElem (by omega)⟩
    have hgl : L.getLast? = some e := by rw [List.getLast?_eq_getElem?]; exact hlast
    unfold cutEB at he
    rw [hgl] at he
    refine .g0 ?_; repeat constructor
    refine ES.draw (X := Unit) (fun _ => [(4, .slice (some ⟨lg, lo2, none⟩) L.length xcap), (244, .bool (decide (leastM lo x ≤ k ∧ e = i)))]) (fun _ => SB10 gs s st' sp z.length cap gm :: HA.memo gm 3 es' :: PRow sp cap z :: HA.pack pool :: R) (HA.memo gm 3 es' :: HA.pack pool :: []) mixed (.i (by repeat constructor)) ?_ (fun _ => ?_)
    · refine ED.take 0 rfl (by decide +kernel) CutX.no_panic (by decide +kernel) rfl rfl rfl (RV.move rfl) ?_
      refine ED.take 1 rfl (by decide +kernel) CutX.no_panic (by decide +kernel) rfl rfl rfl (RV.nilCheck rfl) ?_
      refine ED.take 2 rfl (by decide +kernel) CutX.no_panic (by decide +kernel) rfl rfl rfl (RV.fieldAddr rfl rfl rfl rfl rfl rfl) ?_
      refine ED.take 3 rfl (by decide +kernel) CutX.no_panic (by decide +kernel) rfl rfl rfl (RV.loadPool rfl rfl rfl (by repeat constructor) ht rfl) ?_
      refine ED.take 4 rfl (by decide +kernel) CutX.no_panic (by decide +kernel) rfl rfl rfl (RV.move rfl) ?_
      refine ED.take 5 rfl (by decide +kernel) CutX.no_panic (by decide +kernel) rfl rfl rfl (RV.geq rfl rfl) ?_
      refine ED.take 6 rfl (by decide +kernel) CutX.no_panic (by decide +kernel) rfl rfl rfl (RV.move rfl) ?_
      first | refine ED.part (d := 227) rfl (fun hp227 => ?_) (fun hp227 => ?_) | refine ED.partN (d := 227) rfl (fun hp227 => ?_) (fun hp227 => ?_) | refine ED.partB (d := 227) rfl (fun hp227 => ?_) (fun hp227 => ?_)
      · refine ED.take 7 rfl (by decide +kernel) CutX.no_panic (by decide +kernel) rfl rfl rfl (RV.move rfl) ?_
        refine ED.take 8 rfl (by decide +kernel) CutX.no_panic (by decide +kernel) rfl rfl rfl (RV.lenL rfl rfl rfl) ?_
        refine ED.take 9 rfl (by decide +kernel) CutX.no_panic (by decide +kernel) rfl rfl rfl (RV.gtr rfl rfl) ?_
        refine ED.take 10 rfl (by decide +kernel) CutX.no_panic (by decide +kernel) rfl rfl rfl (RV.pickT rfl rfl) ?_
        refine ED.take 11 rfl (by decide +kernel) CutX.no_panic (by decide +kernel) rfl rfl rfl (RV.move rfl) ?_
        refine ED.rew (d := 232) (v' := .bool true) rfl ((by simp; omega)) ?_
        refine ED.take 12 rfl (by decide +kernel) CutX.no_panic (by decide +kernel) rfl rfl rfl (RV.move rfl) ?_
        refine ED.take 13 rfl (by decide +kernel) CutX.no_panic (by decide +kernel) rfl rfl rfl (RV.move rfl) ?_
        refine ED.take 14 rfl (by decide +kernel) CutX.no_panic (by decide +kernel) rfl rfl rfl (RV.lenL rfl rfl rfl) ?_
        refine ED.take 15 rfl (by decide +kernel) CutX.no_panic (by decide +kernel) rfl rfl rfl (RV.sub1 rfl rfl (by omega) (by omega)) ?_
        refine ED.take 16 rfl (by decide +kernel) CutX.no_panic (by decide +kernel) rfl rfl rfl (RV.indexAddrL (i := L.length - 1) rfl rfl rfl rfl rfl (by omega)) ?_
        refine ED.take 17 rfl (by decide +kernel) CutX.no_panic (by decide +kernel) rfl rfl rfl (RV.loadEnds rfl rfl rfl (by repeat constructor) (by repeat constructor) hE2 hlast) ?_
        refine ED.take 18 rfl (by decide +kernel) CutX.no_panic (by decide +kernel) rfl rfl rfl (RV.move rfl) ?_
        refine ED.take 19 rfl (by decide +kernel) CutX.no_panic (by decide +kernel) rfl rfl rfl (RV.nilCheck rfl) ?_
        refine ED.take 20 rfl (by decide +kernel) CutX.no_panic (by decide +kernel) rfl rfl rfl (RV.fieldAddr rfl rfl rfl rfl rfl rfl) ?_
        refine ED.take 21 rfl (by decide +kernel) CutX.no_panic (by decide +kernel) rfl rfl rfl (RV.loadPool rfl rfl rfl (by repeat constructor) ht rfl) ?_
        refine ED.take 22 rfl (by decide +kernel) CutX.no_panic (by decide +kernel) rfl rfl rfl (RV.eqlI rfl rfl) ?_
        refine ED.take 23 rfl (by decide +kernel) CutX.no_panic (by decide +kernel) rfl rfl rfl (RV.pickT rfl rfl) ?_
        refine ED.done (by decide +kernel) ?_
        exact PX.cutX () ⟨rfl, getA rfl (congrArg Value.bool (by rw [Bool.eq_iff_iff]; simp only [decide_eq_true_eq, Bool.false_eq_true, false_iff]; omega)), trivial⟩ (.i (by repeat constructor))
      · refine ED.pass 7 rfl (by decide +kernel) CutX.no_panic (by decide +kernel) rfl rfl rfl ?_
        refine ED.pass 8 rfl (by decide +kernel) CutX.no_panic (by decide +kernel) rfl rfl rfl ?_
        refine ED.pass 9 rfl (by decide +kernel) CutX.no_panic (by decide +kernel) rfl rfl rfl ?_
        refine ED.take 10 rfl (by decide +kernel) CutX.no_panic (by decide +kernel) rfl rfl rfl (RV.pickF rfl rfl) ?_
        refine ED.take 11 rfl (by decide +kernel) CutX.no_panic (by decide +kernel) rfl rfl rfl (RV.move rfl) ?_
        refine ED.pass 12 rfl (by decide +kernel) CutX.no_panic (by decide +kernel) rfl rfl rfl ?_
        refine ED.pass 13 rfl (by decide +kernel) CutX.no_panic (by decide +kernel) rfl rfl rfl ?_
        refine ED.pass 14 rfl (by decide +kernel) CutX.no_panic (by decide +kernel) rfl rfl rfl ?_
        refine ED.pass 15 rfl (by decide +kernel) CutX.no_panic (by decide +kernel) rfl rfl rfl ?_
        refine ED.pass 16 rfl (by decide +kernel) CutX.no_panic (by decide +kernel) rfl rfl rfl ?_
        refine ED.pass 17 rfl (by decide +kernel) CutX.no_panic (by decide +kernel) rfl rfl rfl ?_
        refine ED.pass 18 rfl (by decide +kernel) CutX.no_panic (by decide +kernel) rfl rfl rfl ?_
        refine ED.pass 19 rfl (by decide +kernel) CutX.no_panic (by decide +kernel) rfl rfl rfl ?_
        refine ED.pass 20 rfl (by decide +kernel) CutX.no_panic (by decide +kernel) rfl rfl rfl ?_
        refine ED.pass 21 rfl (by decide +kernel) CutX.no_panic (by decide +kernel) rfl rfl rfl ?_
        refine ED.pass 22 rfl (by decide +kernel) CutX.no_panic (by decide +kernel) rfl rfl rfl ?_
        refine ED.take 23 rfl (by decide +kernel) CutX.no_panic (by decide +kernel) rfl rfl rfl (RV.pickF rfl rfl) ?_
        refine ED.done (by decide +kernel) ?_
        exact PX.cutX () ⟨rfl, getA rfl (congrArg Value.bool (by rw [Bool.eq_iff_iff]; simp only [decide_eq_true_eq, Bool.false_eq_true, false_iff]; omega)), trivial⟩ (.i (by repeat constructor))
    refine ES.condD rfl (fun hc => ?_) (fun hc => ?_)
    · rw [if_pos ⟨decide_eq_true hc.1, congrArg some hc.2⟩] at he
      cases he
      have hdl : L.dropLast.length = L.length - 1 := List.length_dropLast
      refine .go ?_; repeat constructor
      refine EL.move rfl rfl rfl ?_
      refine EL.move rfl rfl rfl ?_
      refine EL.lenL rfl rfl rfl rfl rfl ?_
      refine EL.sub1 rfl rfl rfl rfl (by omega) (by omega) ?_
      refine EL.ofRV (RV.sliceHi (hi := L.length - 1) rfl rfl rfl rfl rfl (by omega)) rfl rfl rfl (by intro c h; cases h) ?_
      refine EL.assign rfl rfl rfl ?_
      refine .go ?_; repeat constructor
      refine EL.move rfl rfl rfl ?_
      refine EL.assign rfl rfl rfl ?_
      refine EL.assign rfl rfl rfl ?_
      refine .go ?_; repeat constructor
      exact PX.ret rfl Try.results94 (.cons (.tmp rfl) (.cons (.tmp rfl) .nil)) (fun w hs => ⟨⟨es', st', pool, some ⟨lg, lo2, none⟩, xcap, x1, fun _ h => h, x2, x3, hE.pre (fun q e h => drop_last_get h), by omega⟩, congrArg (fun n => Ending.returned (.tuple #[.slice (some ⟨lg, lo2, none⟩) n xcap, .bool true])) hdl.symm, hs.ent (.i (by repeat constructor))⟩)
    · rw [if_neg (fun hh => hc ⟨of_decide_eq_true hh.1, Option.some.inj hh.2⟩)] at he
      cases he
      refine .go ?_; repeat constructor
      refine .go ?_; repeat constructor
      refine EL.move rfl rfl rfl ?_
      refine EL.assign rfl rfl rfl ?_
      refine EL.assign rfl rfl rfl ?_
      refine .go ?_; repeat constructor
      exact PX.ret rfl Try.results94 (.cons (.tmp rfl) (.cons (.tmp rfl) .nil)) (fun w hs => ⟨⟨es', st', pool, some ⟨lg, lo2, none⟩, xcap, x1, fun _ h => h, x2, x3, hE, hcap⟩, rfl, hs.ent (.i (by repeat constructor))⟩)
  have hz2 : l = [] ∧ ok = true := by
    cases r <;> first | (simp [RE.kind] at h6 h4 h0 h5; done) | (simp only [Option.some.injEq, Prod.mk.injEq] at he; exact ⟨he.1.symm, he.2.symm⟩)
  obtain ⟨rfl, rfl⟩ := hz2
  refine .go ?_; repeat constructor
  refine EL.assign rfl rfl rfl ?_
  refine EL.assign rfl rfl rfl ?_
  refine .go ?_; repeat constructor
  exact PX.ret rfl Try.results94 (.cons (.tmp rfl) (.cons (.tmp rfl) .nil)) (fun w hs => ⟨EnX.none hok, rfl, hs.ent (.i (by repeat constructor))⟩)
end Go.Proofs.Ytblpgpgbnlhjlaa
namespace Go.Proofs.Ytblpgpgbnlhjlaa
open Go Go.RowKit Sl
set_option maxRecDepth 100000
set_option maxHeartbeats 8000000
set_option linter.unusedVariables false
set_option linter.unusedSimpArgs false
attribute [local irreducible] ES EL PX wps
structure FoX (w0 : World) (B : Nat) (pool : List HA) (now : List Tk) where
  pool' : List HA
  p : Option Addr
  psub : ∀ A ∈ pool, A ∈ pool'
  chain : ChainAt w0 B pool' p now
theorem follow_c (gs gm : Nat) (s : List UInt8) (st : Nat) (sp : Option Addr) (cap : Nat) (z z' : List Spn) (pool : List HA) (r : RE) (k i j e : Nat) (hk : r.kind ≠ 4 → k ≤ 1073741824) (ts now : List Tk) (w0 : World) (B gt gr off : Nat) (nx : Option Addr) (ht : TkB gt gr off k i j nx ∈ pool) (hn : NodeRd w0 B gr off r) (hf : r.fine) (hch : ChainAt w0 B pool nx ts)
    (he : followB (⟨r, k, i, j⟩ :: ts) e z = some (now, z')) :
    MutAt Try.prog 96 #[Pv gs 0, Pv gt 0, Iv (e : Nat)] [SB10 gs s st sp z.length cap gm, PRow sp cap z, HA.pack pool] (fun x : FoX w0 B pool now => .pointer x.p)
      (fun x => [SB10 gs s st sp z'.length cap gm, PRow sp cap z', HA.pack x.pool']) w0 B := by
  intro R w h
  replace h : Sat w0 B (SB10 gs s st sp z.length cap gm :: PRow sp cap z :: HA.pack pool :: R) w := h
  have hn' := hn
  obtain ⟨ad, kcap, cs0, q1, q2, q3, q4⟩ := hn'
  have hrd := q1.rd
  have hkids : KidsRd w0 B r.kids ad := fun a b hab => by
    have hlt := (List.getElem?_eq_some_iff.1 hab).1
    obtain ⟨g', o', rfl, _⟩ := q3 (fun e => by have := q2.len; rw [e] at this; simp at this; omega)
    exact ⟨g', o', rfl, Node.of_row q2 q3 hab⟩
  have hkl := fine_len hf
  refine calls_of_ES TB Try.func96 rfl _ Try.ntmps96 rfl h ?_
  refine .go ?_; repeat constructor
  refine EL.assign rfl rfl rfl ?_
  refine .go ?_; repeat constructor
  refine EL.move rfl rfl rfl ?_
  refine EL.nilCheck rfl rfl rfl ?_
  refine EL.fieldAddr rfl rfl rfl rfl rfl rfl rfl rfl ?_
  refine EL.loadPool rfl rfl rfl rfl rfl (by repeat constructor) ht rfl ?_
  refine EL.nilCheck rfl rfl rfl ?_
  refine EL.fieldAddr rfl rfl rfl rfl rfl rfl rfl rfl ?_
  refine EL.loadOld rfl rfl rfl rfl rfl hrd rfl ?_
  refine .go ?_; repeat constructor
  refine EL.eqlI rfl rfl rfl rfl ?_
  refine EL.assign rfl rfl rfl ?_
  refine .go ?_; repeat constructor
  refine ES.condD rfl (fun h4 => ?_) (fun h4 => ?_)
  · obtain ⟨gn, x, rfl⟩ := kind_4 (show r.kind = 4 by omega)
    rw [followB] at he
    dsimp only at he
    split at he
    rotate_left
    · cases he
    rename_i hlt
    cases he
    obtain ⟨g', o', rfl, hxn⟩ := hkids 0 x rfl
    have hsl := spsC_len z
    refine ES.know (P := ∃ g, sp = some ⟨g, 0, none⟩) (fun w hs => (row_form (hs.all (PRow sp cap z) (by simp))).2.2.2.2 (by omega)) ?_
    rintro ⟨spg, rfl⟩
    refine .g0 ?_; repeat constructor
    refine ES.draw (X := Unit) (fun _ => [(1, Pv gt 0)]) (fun _ => SB10 gs s st (some ⟨spg, 0, none⟩) z.length cap gm :: HA.row (.slice (some ⟨spg, 0, none⟩) z.length cap) 33 2 z.length (spsC (z.set gn ((i : Int), (j : Int)))) :: HA.pack pool :: R)
      (SB10 gs s st (some ⟨spg, 0, none⟩) z.length cap gm :: HA.pack pool :: []) mixed (.i (by repeat constructor)) ?_ (fun _ => ?_)
    · refine ED.take 0 rfl (by decide +kernel) CutX.no_panic (by decide +kernel) rfl rfl rfl (RV.move rfl) ?_
      refine ED.take 1 rfl (by decide +kernel) CutX.no_panic (by decide +kernel) rfl rfl rfl (RV.nilCheck rfl) ?_
      refine ED.take 2 rfl (by decide +kernel) CutX.no_panic (by decide +kernel) rfl rfl rfl (RV.fieldAddr rfl rfl rfl rfl rfl rfl) ?_
      refine ED.take 3 rfl (by decide +kernel) CutX.no_panic (by decide +kernel) rfl rfl rfl (RV.loadB rfl rfl rfl (by repeat constructor) rfl) ?_
      refine ED.take 4 rfl (by decide +kernel) CutX.no_panic (by decide +kernel) rfl rfl rfl (RV.move rfl) ?_
      refine ED.take 5 rfl (by decide +kernel) CutX.no_panic (by decide +kernel) rfl rfl rfl (RV.nilCheck rfl) ?_
      refine ED.take 6 rfl (by decide +kernel) CutX.no_panic (by decide +kernel) rfl rfl rfl (RV.fieldAddr rfl rfl rfl rfl rfl rfl) ?_
      refine ED.take 7 rfl (by decide +kernel) CutX.no_panic (by decide +kernel) rfl rfl rfl (RV.loadPool rfl rfl rfl (by repeat constructor) ht rfl) ?_
      refine ED.take 8 rfl (by decide +kernel) CutX.no_panic (by decide +kernel) rfl rfl rfl (RV.nilCheck rfl) ?_
      refine ED.take 9 rfl (by decide +kernel) CutX.no_panic (by decide +kernel) rfl rfl rfl (RV.fieldAddr rfl rfl rfl rfl rfl rfl) ?_
      refine ED.take 10 rfl (by decide +kernel) CutX.no_panic (by decide +kernel) rfl rfl rfl (RV.loadOld rfl rfl rfl hrd rfl) ?_
      refine ED.take 11 rfl (by decide +kernel) CutX.no_panic (by decide +kernel) rfl rfl rfl (RV.move rfl) ?_
      refine ED.take 12 rfl (by decide +kernel) CutX.no_panic (by decide +kernel) rfl rfl rfl (RV.nilCheck rfl) ?_
      refine ED.take 13 rfl (by decide +kernel) CutX.no_panic (by decide +kernel) rfl rfl rfl (RV.fieldAddr rfl rfl rfl rfl rfl rfl) ?_
      refine ED.take 14 rfl (by decide +kernel) CutX.no_panic (by decide +kernel) rfl rfl rfl (RV.loadPool rfl rfl rfl (by repeat constructor) ht rfl) ?_
      refine ED.take 15 rfl (by decide +kernel) CutX.no_panic (by decide +kernel) rfl rfl rfl (RV.move rfl) ?_
      refine ED.take 16 rfl (by decide +kernel) CutX.no_panic (by decide +kernel) rfl rfl rfl (RV.nilCheck rfl) ?_
      refine ED.take 17 rfl (by decide +kernel) CutX.no_panic (by decide +kernel) rfl rfl rfl (RV.fieldAddr rfl rfl rfl rfl rfl rfl) ?_
      refine ED.take 18 rfl (by decide +kernel) CutX.no_panic (by decide +kernel) rfl rfl rfl (RV.loadPool rfl rfl rfl (by repeat constructor) ht rfl) ?_
      refine ED.take 19 rfl (by decide +kernel) CutX.no_panic (by decide +kernel) rfl rfl rfl (RV.buildS #[Iv (i : Nat), Iv (j : Nat)] rfl rfl rfl rfl (by kernel_rfl)) ?_
      refine ED.take 20 rfl (by decide +kernel) CutX.no_panic (by decide +kernel) rfl rfl rfl (RV.indexAddrL (i := gn) rfl rfl rfl rfl rfl hlt) ?_
      refine ED.last 21 rfl (by decide +kernel) (by decide +kernel) (by decide +kernel) ?_
      (refine EL.storeRA (vs := spC ((i : Int), (j : Int))) rfl rfl rfl rfl rfl (by repeat constructor) (by rw [hsl]; show 0 + gn * 2 + 2 ≤ _; omega) (all1 rfl) ?_; refine EL.rowEq (v := .slice (some ⟨spg, 0, none⟩) z.length cap) (by repeat constructor) (spsC_set z gn hlt ((i : Int), (j : Int))) ?_)
      refine EL.endQ ?_
      exact PX.cutX () ⟨rfl, trivial⟩ (.i (by repeat constructor))
    refine ES.imp (H' := SB10 gs s st (some ⟨spg, 0, none⟩) (z.set gn ((i : Int), (j : Int))).length cap gm :: PRow (some ⟨spg, 0, none⟩) cap (z.set gn ((i : Int), (j : Int))) :: HA.pack pool :: R) (fun w hs => by
      unfold PRow SB10
      rw [List.length_set]
      exact hs.ent (.i (by repeat constructor))) ?_
    refine .g0 ?_; repeat constructor
    refine ES.draw (X := Nat) (fun g => [(6, Pv g 0)]) (fun g => TkB g g' (o' + 0 * 9) 0 i j nx :: SB10 gs s st (some ⟨spg, 0, none⟩) (z.set gn ((i : Int), (j : Int))).length cap gm :: PRow (some ⟨spg, 0, none⟩) cap (z.set gn ((i : Int), (j : Int))) :: HA.pack pool :: R)
      (HA.pack pool :: []) mixed (.i (by repeat constructor)) ?_ (fun g => ?_)
    · refine ED.take 0 rfl (by decide +kernel) CutX.no_panic (by decide +kernel) rfl rfl rfl (RV.move rfl) ?_
      refine ED.take 1 rfl (by decide +kernel) CutX.no_panic (by decide +kernel) rfl rfl rfl (RV.nilCheck rfl) ?_
      refine ED.take 2 rfl (by decide +kernel) CutX.no_panic (by decide +kernel) rfl rfl rfl (RV.fieldAddr rfl rfl rfl rfl rfl rfl) ?_
      refine ED.take 3 rfl (by decide +kernel) CutX.no_panic (by decide +kernel) rfl rfl rfl (RV.loadPool rfl rfl rfl (by repeat constructor) ht rfl) ?_
      refine ED.take 4 rfl (by decide +kernel) CutX.no_panic (by decide +kernel) rfl rfl rfl (RV.nilCheck rfl) ?_
      refine ED.take 5 rfl (by decide +kernel) CutX.no_panic (by decide +kernel) rfl rfl rfl (RV.fieldAddr rfl rfl rfl rfl rfl rfl) ?_
      refine ED.take 6 rfl (by decide +kernel) CutX.no_panic (by decide +kernel) rfl rfl rfl (RV.loadOld rfl rfl rfl hrd rfl) ?_
      refine ED.take 7 rfl (by decide +kernel) CutX.no_panic (by decide +kernel) rfl rfl rfl (RV.indexAddrL (i := 0) rfl rfl rfl rfl rfl (Nat.zero_lt_succ _)) ?_
      refine ED.take 8 rfl (by decide +kernel) CutX.no_panic (by decide +kernel) rfl rfl rfl (RV.move rfl) ?_
      refine ED.take 9 rfl (by decide +kernel) CutX.no_panic (by decide +kernel) rfl rfl rfl (RV.nilCheck rfl) ?_
      refine ED.take 10 rfl (by decide +kernel) CutX.no_panic (by decide +kernel) rfl rfl rfl (RV.fieldAddr rfl rfl rfl rfl rfl rfl) ?_
      refine ED.take 11 rfl (by decide +kernel) CutX.no_panic (by decide +kernel) rfl rfl rfl (RV.loadPool rfl rfl rfl (by repeat constructor) ht rfl) ?_
      refine ED.take 12 rfl (by decide +kernel) CutX.no_panic (by decide +kernel) rfl rfl rfl (RV.move rfl) ?_
      refine ED.take 13 rfl (by decide +kernel) CutX.no_panic (by decide +kernel) rfl rfl rfl (RV.nilCheck rfl) ?_
      refine ED.take 14 rfl (by decide +kernel) CutX.no_panic (by decide +kernel) rfl rfl rfl (RV.fieldAddr rfl rfl rfl rfl rfl rfl) ?_
      refine ED.take 15 rfl (by decide +kernel) CutX.no_panic (by decide +kernel) rfl rfl rfl (RV.loadPool rfl rfl rfl (by repeat constructor) ht rfl) ?_
      refine ED.take 16 rfl (by decide +kernel) CutX.no_panic (by decide +kernel) rfl rfl rfl (RV.move rfl) ?_
      refine ED.take 17 rfl (by decide +kernel) CutX.no_panic (by decide +kernel) rfl rfl rfl (RV.nilCheck rfl) ?_
      refine ED.take 18 rfl (by decide +kernel) CutX.no_panic (by decide +kernel) rfl rfl rfl (RV.fieldAddr rfl rfl rfl rfl rfl rfl) ?_
      refine ED.take 19 rfl (by decide +kernel) CutX.no_panic (by decide +kernel) rfl rfl rfl (RV.loadPool rfl rfl rfl (by repeat constructor) ht rfl) ?_
      refine ED.take 20 rfl (by decide +kernel) CutX.no_panic (by decide +kernel) rfl rfl rfl (RV.buildS #[Pv g' (o' + 0 * 9), Iv 0, Iv (i : Nat), Iv (j : Nat), .pointer nx] rfl rfl rfl rfl (by kernel_rfl)) ?_
      refine ED.loud 21 rfl (by decide +kernel) ?_
      (refine EL.box rfl rfl rfl ?_; intro g60)
      refine ED.next (.i (by repeat constructor)) ?_
      refine ED.take 22 rfl (by decide +kernel) CutX.no_panic (by decide +kernel) rfl rfl rfl (RV.assign rfl) ?_
      refine ED.done (by decide +kernel) ?_
      exact PX.cutX g60 ⟨rfl, trivial⟩ (.i (by repeat constructor))
    refine ES.poolIn (A := TkB g g' (o' + 0 * 9) 0 i j nx) (by repeat constructor) ?_
    refine .go ?_; repeat constructor
    exact PX.ret rfl Try.results96 (.cons (.tmp rfl) .nil) (fun w hs => ⟨⟨TkB g g' (o' + 0 * 9) 0 i j nx :: pool, some ⟨g, 0, none⟩, fun _ h => List.mem_cons_of_mem _ h, ⟨g, g', o' + 0 * 9, nx, rfl, List.mem_cons_self, hxn, hf.2, hch.mono (fun _ h => List.mem_cons_of_mem _ h)⟩⟩, rfl, hs.ent (.i (by repeat constructor))⟩)
  refine .go ?_; repeat constructor
  refine EL.eqlI rfl rfl rfl rfl ?_
  refine EL.assign rfl rfl rfl ?_
  refine .go ?_; repeat constructor
  refine ES.condD rfl (fun h0 => ?_) (fun h0 => ?_)
  · obtain ⟨ks, rfl⟩ := kind_0 (show r.kind = 0 by omega)
    rw [followB] at he
    dsimp only at he
    cases hx : ks[k]? with
    | none => rw [hx] at he; cases he
    | some x =>
    rw [hx] at he
    cases he
    have hk := hk (by simp [RE.kind])
    obtain ⟨kg, ko, rfl, hxn⟩ := hkids k x hx
    have hlt : k < ks.length := (List.getElem?_eq_some_iff.1 hx).1
    have hkk : (RE.cat ks).kids.length = ks.length := rfl
    have hxf : x.fine := (fineL_iff _).1 hf.2 x (List.mem_of_getElem? hx)
    refine .g0 ?_; repeat constructor
    refine ES.draw (X := Nat) (fun g => [(1, Pv gt 0), (2, Iv (e : Nat)), (7, Pv g 0)]) (fun g => TkB g gr off (k + 1) e j nx :: SB10 gs s st sp z.length cap gm :: PRow sp cap z :: HA.pack pool :: R) (HA.pack pool :: []) mixed (.i (by repeat constructor)) ?_ (fun g => ?_)
    · refine ED.take 0 rfl (by decide +kernel) CutX.no_panic (by decide +kernel) rfl rfl rfl (RV.move rfl) ?_
      refine ED.take 1 rfl (by decide +kernel) CutX.no_panic (by decide +kernel) rfl rfl rfl (RV.nilCheck rfl) ?_
      refine ED.take 2 rfl (by decide +kernel) CutX.no_panic (by decide +kernel) rfl rfl rfl (RV.fieldAddr rfl rfl rfl rfl rfl rfl) ?_
      refine ED.take 3 rfl (by decide +kernel) CutX.no_panic (by decide +kernel) rfl rfl rfl (RV.loadPool rfl rfl rfl (by repeat constructor) ht rfl) ?_
      refine ED.take 4 rfl (by decide +kernel) CutX.no_panic (by decide +kernel) rfl rfl rfl (RV.move rfl) ?_
      refine ED.take 5 rfl (by decide +kernel) CutX.no_panic (by decide +kernel) rfl rfl rfl (RV.nilCheck rfl) ?_
      refine ED.take 6 rfl (by decide +kernel) CutX.no_panic (by decide +kernel) rfl rfl rfl (RV.fieldAddr rfl rfl rfl rfl rfl rfl) ?_
      refine ED.take 7 rfl (by decide +kernel) CutX.no_panic (by decide +kernel) rfl rfl rfl (RV.loadPool rfl rfl rfl (by repeat constructor) ht rfl) ?_
      refine ED.take 8 rfl (by decide +kernel) CutX.no_panic (by decide +kernel) rfl rfl rfl (RV.add1 rfl rfl (by omega)) ?_
      refine ED.take 9 rfl (by decide +kernel) CutX.no_panic (by decide +kernel) rfl rfl rfl (RV.move rfl) ?_
      refine ED.take 10 rfl (by decide +kernel) CutX.no_panic (by decide +kernel) rfl rfl rfl (RV.move rfl) ?_
      refine ED.take 11 rfl (by decide +kernel) CutX.no_panic (by decide +kernel) rfl rfl rfl (RV.nilCheck rfl) ?_
      refine ED.take 12 rfl (by decide +kernel) CutX.no_panic (by decide +kernel) rfl rfl rfl (RV.fieldAddr rfl rfl rfl rfl rfl rfl) ?_
      refine ED.take 13 rfl (by decide +kernel) CutX.no_panic (by decide +kernel) rfl rfl rfl (RV.loadPool rfl rfl rfl (by repeat constructor) ht rfl) ?_
      refine ED.take 14 rfl (by decide +kernel) CutX.no_panic (by decide +kernel) rfl rfl rfl (RV.move rfl) ?_
      refine ED.take 15 rfl (by decide +kernel) CutX.no_panic (by decide +kernel) rfl rfl rfl (RV.nilCheck rfl) ?_
      refine ED.take 16 rfl (by decide +kernel) CutX.no_panic (by decide +kernel) rfl rfl rfl (RV.fieldAddr rfl rfl rfl rfl rfl rfl) ?_
      refine ED.take 17 rfl (by decide +kernel) CutX.no_panic (by decide +kernel) rfl rfl rfl (RV.loadPool rfl rfl rfl (by repeat constructor) ht rfl) ?_
      refine ED.take 18 rfl (by decide +kernel) CutX.no_panic (by decide +kernel) rfl rfl rfl (RV.buildS #[Pv gr off, Iv ((k + 1 : Nat) : Int), Iv (e : Nat), Iv (j : Nat), .pointer nx] rfl rfl rfl rfl (by kernel_rfl)) ?_
      refine ED.loud 19 rfl (by decide +kernel) ?_
      (refine EL.box rfl rfl rfl ?_; intro g82)
      refine ED.next (.i (by repeat constructor)) ?_
      refine ED.take 20 rfl (by decide +kernel) CutX.no_panic (by decide +kernel) rfl rfl rfl (RV.assign rfl) ?_
      refine ED.done (by decide +kernel) ?_
      exact PX.cutX g82 ⟨rfl, rfl, rfl, trivial⟩ (.i (by repeat constructor))
    refine ES.poolIn (A := TkB g gr off (k + 1) e j nx) (by repeat constructor) ?_
    have ht2 : TkB gt gr off k i j nx ∈ TkB g gr off (k + 1) e j nx :: pool := List.mem_cons_of_mem _ ht
    refine .g0 ?_; repeat constructor
    refine ES.draw (X := Nat) (fun g2 => [(6, Pv g2 0)]) (fun g2 => TkB g2 kg (ko + k * 9) 0 i e (some ⟨g, 0, none⟩) :: SB10 gs s st sp z.length cap gm :: PRow sp cap z :: HA.pack (TkB g gr off (k + 1) e j nx :: pool) :: R) (HA.pack (TkB g gr off (k + 1) e j nx :: pool) :: []) mixed (.i (by repeat constructor)) ?_ (fun g2 => ?_)
    · refine ED.take 0 rfl (by decide +kernel) CutX.no_panic (by decide +kernel) rfl rfl rfl (RV.move rfl) ?_
      refine ED.take 1 rfl (by decide +kernel) CutX.no_panic (by decide +kernel) rfl rfl rfl (RV.nilCheck rfl) ?_
      refine ED.take 2 rfl (by decide +kernel) CutX.no_panic (by decide +kernel) rfl rfl rfl (RV.fieldAddr rfl rfl rfl rfl rfl rfl) ?_
      refine ED.take 3 rfl (by decide +kernel) CutX.no_panic (by decide +kernel) rfl rfl rfl (RV.loadPool rfl rfl rfl (by repeat constructor) ht2 rfl) ?_
      refine ED.take 4 rfl (by decide +kernel) CutX.no_panic (by decide +kernel) rfl rfl rfl (RV.nilCheck rfl) ?_
      refine ED.take 5 rfl (by decide +kernel) CutX.no_panic (by decide +kernel) rfl rfl rfl (RV.fieldAddr rfl rfl rfl rfl rfl rfl) ?_
      refine ED.take 6 rfl (by decide +kernel) CutX.no_panic (by decide +kernel) rfl rfl rfl (RV.loadOld rfl rfl rfl hrd rfl) ?_
      refine ED.take 7 rfl (by decide +kernel) CutX.no_panic (by decide +kernel) rfl rfl rfl (RV.move rfl) ?_
      refine ED.take 8 rfl (by decide +kernel) CutX.no_panic (by decide +kernel) rfl rfl rfl (RV.nilCheck rfl) ?_
      refine ED.take 9 rfl (by decide +kernel) CutX.no_panic (by decide +kernel) rfl rfl rfl (RV.fieldAddr rfl rfl rfl rfl rfl rfl) ?_
      refine ED.take 10 rfl (by decide +kernel) CutX.no_panic (by decide +kernel) rfl rfl rfl (RV.loadPool rfl rfl rfl (by repeat constructor) ht2 rfl) ?_
      refine ED.take 11 rfl (by decide +kernel) CutX.no_panic (by decide +kernel) rfl rfl rfl (RV.indexAddrL (i := k) rfl rfl rfl rfl rfl (by omega)) ?_
      refine ED.take 12 rfl (by decide +kernel) CutX.no_panic (by decide +kernel) rfl rfl rfl (RV.move rfl) ?_
      refine ED.take 13 rfl (by decide +kernel) CutX.no_panic (by decide +kernel) rfl rfl rfl (RV.nilCheck rfl) ?_
      refine ED.take 14 rfl (by decide +kernel) CutX.no_panic (by decide +kernel) rfl rfl rfl (RV.fieldAddr rfl rfl rfl rfl rfl rfl) ?_
      refine ED.take 15 rfl (by decide +kernel) CutX.no_panic (by decide +kernel) rfl rfl rfl (RV.loadPool rfl rfl rfl (by repeat constructor) ht2 rfl) ?_
      refine ED.take 16 rfl (by decide +kernel) CutX.no_panic (by decide +kernel) rfl rfl rfl (RV.move rfl) ?_
      refine ED.take 17 rfl (by decide +kernel) CutX.no_panic (by decide +kernel) rfl rfl rfl (RV.move rfl) ?_
      refine ED.take 18 rfl (by decide +kernel) CutX.no_panic (by decide +kernel) rfl rfl rfl (RV.buildS #[Pv kg (ko + k * 9), Iv 0, Iv (i : Nat), Iv (e : Nat), .pointer (some ⟨g, 0, none⟩)] rfl rfl rfl rfl (by kernel_rfl)) ?_
      refine ED.loud 19 rfl (by decide +kernel) ?_
      (refine EL.box rfl rfl rfl ?_; intro g102)
      refine ED.next (.i (by repeat constructor)) ?_
      refine ED.take 20 rfl (by decide +kernel) CutX.no_panic (by decide +kernel) rfl rfl rfl (RV.assign rfl) ?_
      refine ED.done (by decide +kernel) ?_
      exact PX.cutX g102 ⟨rfl, trivial⟩ (.i (by repeat constructor))
    refine ES.poolIn (A := TkB g2 kg (ko + k * 9) 0 i e (some ⟨g, 0, none⟩)) (by repeat constructor) ?_
    refine .go ?_; repeat constructor
    exact PX.ret rfl Try.results96 (.cons (.tmp rfl) .nil) (fun w hs => ⟨⟨TkB g2 kg (ko + k * 9) 0 i e (some ⟨g, 0, none⟩) :: TkB g gr off (k + 1) e j nx :: pool, some ⟨g2, 0, none⟩, fun _ h => List.mem_cons_of_mem _ (List.mem_cons_of_mem _ h), ⟨g2, kg, ko + k * 9, some ⟨g, 0, none⟩, rfl, List.mem_cons_self, hxn, hxf,
      ⟨g, gr, off, nx, rfl, List.mem_cons_of_mem _ List.mem_cons_self, hn, hf, hch.mono (fun _ h => List.mem_cons_of_mem _ (List.mem_cons_of_mem _ h))⟩⟩⟩, rfl, hs.ent (.i (by repeat constructor))⟩)
  have h5 : r.kind = 5 := by
    rw [followB] at he
    cases r <;> first | rfl | (simp [RE.kind] at h4 h0; done) | (cases he; done)
  obtain ⟨lo, hi, x, rfl⟩ := kind_5 h5
  cases he
  have hk := hk (by simp [RE.kind])
  obtain ⟨kg, ko, rfl, hxn⟩ := hkids 0 x rfl
  have hxf : x.fine := hf.2.2.2.2
  refine .g0 ?_; repeat constructor
  refine ES.draw (X := Nat) (fun g => [(1, Pv gt 0), (2, Iv (e : Nat)), (8, Pv g 0)]) (fun g => TkB g gr off (k + 1) e j nx :: SB10 gs s st sp z.length cap gm :: PRow sp cap z :: HA.pack pool :: R) (HA.pack pool :: []) mixed (.i (by repeat constructor)) ?_ (fun g => ?_)
  · refine ED.take 0 rfl (by decide +kernel) CutX.no_panic (by decide +kernel) rfl rfl rfl (RV.move rfl) ?_
    refine ED.take 1 rfl (by decide +kernel) CutX.no_panic (by decide +kernel) rfl rfl rfl (RV.nilCheck rfl) ?_
    refine ED.take 2 rfl (by decide +kernel) CutX.no_panic (by decide +kernel) rfl rfl rfl (RV.fieldAddr rfl rfl rfl rfl rfl rfl) ?_
    refine ED.take 3 rfl (by decide +kernel) CutX.no_panic (by decide +kernel) rfl rfl rfl (RV.loadPool rfl rfl rfl (by repeat constructor) ht rfl) ?_
    refine ED.take 4 rfl (by decide +kernel) CutX.no_panic (by decide +kernel) rfl rfl rfl (RV.move rfl) ?_
    refine ED.take 5 rfl (by decide +kernel) CutX.no_panic (by decide +kernel) rfl rfl rfl (RV.nilCheck rfl) ?_
    refine ED.take 6 rfl (by decide +kernel) CutX.no_panic (by decide +kernel) rfl rfl rfl (RV.fieldAddr rfl rfl rfl rfl rfl rfl) ?_
    refine ED.take 7 rfl (by decide +kernel) CutX.no_panic (by decide +kernel) rfl rfl rfl (RV.loadPool rfl rfl rfl (by repeat constructor) ht rfl) ?_
    refine ED.take 8 rfl (by decide +kernel) CutX.no_panic (by decide +kernel) rfl rfl rfl (RV.add1 rfl rfl (by omega)) ?_
    refine ED.take 9 rfl (by decide +kernel) CutX.no_panic (by decide +kernel) rfl rfl rfl (RV.move rfl) ?_
    refine ED.take 10 rfl (by decide +kernel) CutX.no_panic (by decide +kernel) rfl rfl rfl (RV.move rfl) ?_
    refine ED.take 11 rfl (by decide +kernel) CutX.no_panic (by decide +kernel) rfl rfl rfl (RV.nilCheck rfl) ?_
    refine ED.take 12 rfl (by decide +kernel) CutX.no_panic (by decide +kernel) rfl rfl rfl (RV.fieldAddr rfl rfl rfl rfl rfl rfl) ?_
    refine ED.take 13 rfl (by decide +kernel) CutX.no_panic (by decide +kernel) rfl rfl rfl (RV.loadPool rfl rfl rfl (by repeat constructor) ht rfl) ?_
    refine ED.take 14 rfl (by decide +kernel) CutX.no_panic (by decide +kernel) rfl rfl rfl (RV.move rfl) ?_
    refine ED.take 15 rfl (by decide +kernel) CutX.no_panic (by decide +kernel) rfl rfl rfl (RV.nilCheck rfl) ?_
    refine ED.take 16 rfl (by decide +kernel) CutX.no_panic (by decide +kernel) rfl rfl rfl (RV.fieldAddr rfl rfl rfl rfl rfl rfl) ?_
    refine ED.take 17 rfl (by decide +kernel) CutX.no_panic (by decide +kernel) rfl rfl rfl (RV.loadPool rfl rfl rfl (by repeat constructor) ht rfl) ?_
    refine ED.take 18 rfl (by decide +kernel) CutX.no_panic (by decide +kernel) rfl rfl rfl (RV.buildS #[Pv gr off, Iv ((k + 1 : Nat) : Int), Iv (e : Nat), Iv (j : Nat), .pointer nx] rfl rfl rfl rfl (by kernel_rfl)) ?_
    refine ED.loud 19 rfl (by decide +kernel) ?_
    (refine EL.box rfl rfl rfl ?_; intro g122)
    refine ED.next (.i (by repeat constructor)) ?_
    refine ED.take 20 rfl (by decide +kernel) CutX.no_panic (by decide +kernel) rfl rfl rfl (RV.assign rfl) ?_
    refine ED.done (by decide +kernel) ?_
    exact PX.cutX g122 ⟨rfl, rfl, rfl, trivial⟩ (.i (by repeat constructor))
  refine ES.poolIn (A := TkB g gr off (k + 1) e j nx) (by repeat constructor) ?_
  have ht2 : TkB gt gr off k i j nx ∈ TkB g gr off (k + 1) e j nx :: pool := List.mem_cons_of_mem _ ht
  refine .g0 ?_; repeat constructor
  refine ES.draw (X := Nat) (fun g2 => [(6, Pv g2 0)]) (fun g2 => TkB g2 kg (ko + 0 * 9) 0 i e (some ⟨g, 0, none⟩) :: SB10 gs s st sp z.length cap gm :: PRow sp cap z :: HA.pack (TkB g gr off (k + 1) e j nx :: pool) :: R) (HA.pack (TkB g gr off (k + 1) e j nx :: pool) :: []) mixed (.i (by repeat constructor)) ?_ (fun g2 => ?_)
  · refine ED.take 0 rfl (by decide +kernel) CutX.no_panic (by decide +kernel) rfl rfl rfl (RV.move rfl) ?_
    refine ED.take 1 rfl (by decide +kernel) CutX.no_panic (by decide +kernel) rfl rfl rfl (RV.nilCheck rfl) ?_
    refine ED.take 2 rfl (by decide +kernel) CutX.no_panic (by decide +kernel) rfl rfl rfl (RV.fieldAddr rfl rfl rfl rfl rfl rfl) ?_
    refine ED.take 3 rfl (by decide +kernel) CutX.no_panic (by decide +kernel) rfl rfl rfl (RV.loadPool rfl rfl rfl (by repeat constructor) ht2 rfl) ?_
    refine ED.take 4 rfl (by decide +kernel) CutX.no_panic (by decide +kernel) rfl rfl rfl (RV.nilCheck rfl) ?_
    refine ED.take 5 rfl (by decide +kernel) CutX.no_panic (by decide +kernel) rfl rfl rfl (RV.fieldAddr rfl rfl rfl rfl rfl rfl) ?_
    refine ED.take 6 rfl (by decide +kernel) CutX.no_panic (by decide +kernel) rfl rfl rfl (RV.loadOld rfl rfl rfl hrd rfl) ?_
    refine ED.take 7 rfl (by decide +kernel) CutX.no_panic (by decide +kernel) rfl rfl rfl (RV.indexAddrL (i := 0) rfl rfl rfl rfl rfl (Nat.zero_lt_succ _)) ?_
    refine ED.take 8 rfl (by decide +kernel) CutX.no_panic (by decide +kernel) rfl rfl rfl (RV.move rfl) ?_
    refine ED.take 9 rfl (by decide +kernel) CutX.no_panic (by decide +kernel) rfl rfl rfl (RV.nilCheck rfl) ?_
    refine ED.take 10 rfl (by decide +kernel) CutX.no_panic (by decide +kernel) rfl rfl rfl (RV.fieldAddr rfl rfl rfl rfl rfl rfl) ?_
    refine ED.take 11 rfl (by decide +kernel) CutX.no_panic (by decide +kernel) rfl rfl rfl (RV.loadPool rfl rfl rfl (by repeat constructor) ht2 rfl) ?_
    refine ED.take 12 rfl (by decide +kernel) CutX.no_panic (by decide +kernel) rfl rfl rfl (RV.move rfl) ?_
    refine ED.take 13 rfl (by decide +kernel) CutX.no_panic (by decide +kernel) rfl rfl rfl (RV.move rfl) ?_
    refine ED.take 14 rfl (by decide +kernel) CutX.no_panic (by decide +kernel) rfl rfl rfl (RV.buildS #[Pv kg (ko + 0 * 9), Iv 0, Iv (i : Nat), Iv (e : Nat), .pointer (some ⟨g, 0, none⟩)] rfl rfl rfl rfl (by kernel_rfl)) ?_
    refine ED.loud 15 rfl (by decide +kernel) ?_
    (refine EL.box rfl rfl rfl ?_; intro g138)
    refine ED.next (.i (by repeat constructor)) ?_
    refine ED.take 16 rfl (by decide +kernel) CutX.no_panic (by decide +kernel) rfl rfl rfl (RV.assign rfl) ?_
    refine ED.done (by decide +kernel) ?_
    exact PX.cutX g138 ⟨rfl, trivial⟩ (.i (by repeat constructor))
  refine ES.poolIn (A := TkB g2 kg (ko + 0 * 9) 0 i e (some ⟨g, 0, none⟩)) (by repeat constructor) ?_
  refine .go ?_; repeat constructor
  exact PX.ret rfl Try.results96 (.cons (.tmp rfl) .nil) (fun w hs => ⟨⟨TkB g2 kg (ko + 0 * 9) 0 i e (some ⟨g, 0, none⟩) :: TkB g gr off (k + 1) e j nx :: pool, some ⟨g2, 0, none⟩, fun _ h => List.mem_cons_of_mem _ (List.mem_cons_of_mem _ h), ⟨g2, kg, ko + 0 * 9, some ⟨g, 0, none⟩, rfl, List.mem_cons_self, hxn, hxf,
    ⟨g, gr, off, nx, rfl, List.mem_cons_of_mem _ List.mem_cons_self, hn, hf, hch.mono (fun _ h => List.mem_cons_of_mem _ (List.mem_cons_of_mem _ h))⟩⟩⟩, rfl, hs.ent (.i (by repeat constructor))⟩)
theorem follow_ch (gs gm : Nat) (s : List UInt8) (st : Nat) (sp : Option Addr) (cap : Nat) (z z' : List Spn) (pool : List HA) (e : Nat) (l now : List Tk) (w0 : World) (B : Nat) (p : Option Addr) (hch : ChainAt w0 B pool p l) (hk : ∀ t, l.head? = some t → t.r.kind ≠ 4 → t.k ≤ 1073741824)
    (he : followB l e z = some (now, z')) :
    MutAt Try.prog 96 #[Pv gs 0, .pointer p, Iv (e : Nat)] [SB10 gs s st sp z.length cap gm, PRow sp cap z, HA.pack pool] (fun x : FoX w0 B pool now => .pointer x.p)
      (fun x => [SB10 gs s st sp z'.length cap gm, PRow sp cap z', HA.pack x.pool']) w0 B := by
  cases l with
  | nil => cases he
  | cons t ts =>
    obtain ⟨g, gr, off, nx, rfl, h2, h3, h4, h5⟩ := hch
    exact follow_c gs gm s st sp cap z z' pool t.r t.k t.i t.j e (hk t rfl) ts now w0 B g gr off nx h2 h3 h4 h5 he
end Go.Proofs.Ytblpgpgbnlhjlaa
