/- Layer 9 (ways): the walk of through. -/
import Derived.Test.YtblpgpgbnlhjlaaVb
import Derived.Test.YtblpgpgbnlhjlaaAb
import Derived.Test.YtblpgpgbnlhjlaaSlq
import Derived.Test.YtblpgpgbnlhjlaaSly
namespace Go.Proofs.Ytblpgpgbnlhjlaa
open Go Go.RowKit Sl
set_option maxRecDepth 100000
set_option maxHeartbeats 8000000
set_option linter.unusedVariables false
set_option linter.unusedSimpArgs false
attribute [local irreducible] ES EL PX wps

abbrev CB (gc gm : Nat) (s : List UInt8) : HA := HA.blk gc (.cells #[Sv s, .map (some gm)] 88)
abbrev MH (gm : Nat) (es : List ME) : HA := HA.memo gm 3 es
abbrev VR (g cap n : Nat) (v : Row) : HA := HA.row (.slice (some ⟨g, 0, none⟩) (n + 1) cap) 3 1 (n + 1) (rowC v n)
theorem keyW : KeyTy Try.prog TB 153 1 := ⟨_, _, _, _, _, _, rfl, rfl, sth153, rfl, rfl, rfl, by decide, rfl, rfl, ⟨⟨_, rfl, rfl⟩, rfl, rfl, trivial⟩, rfl⟩
structure EntOk (w0 : World) (B : Nat) (s : List UInt8) (m : ME) (r : RE) (at_ : Nat) : Prop where
  node : NodeRd w0 B m.key.g m.key.off r
  is : m.key.is = [(at_ : Int)]
  le : at_ ≤ s.length
  val : ∃ gb cap, m.val = .slice (some ⟨gb, 0, none⟩) (s.length + 1) cap
  cells : m.cells = rowC (rowW s r at_) s.length
def MemoOk (w0 : World) (B : Nat) (s : List UInt8) (es : List ME) : Prop := ∀ m ∈ es, ∃ r a, EntOk w0 B s m r a
/-- The entries that came with a part's rows. -/
structure Grow (w0 : World) (B : Nat) (s : List UInt8) (es : List ME) (b : Nat) where
  es' : List ME
  new : List ME
  eq : es' = es ++ new
  ok : MemoOk w0 B s es'
  small : ∀ m ∈ new, ∃ r a, EntOk w0 B s m r a ∧ r.sz ≤ b
def Grow.zero {w0 : World} {B : Nat} {s : List UInt8} {es : List ME} {b : Nat} (h : MemoOk w0 B s es) : Grow w0 B s es b := ⟨es, [], by simp, h, by simp⟩
def Grow.trans {w0 : World} {B : Nat} {s : List UInt8} {es : List ME} {b c : Nat} (x : Grow w0 B s es b) (y : Grow w0 B s x.es' c) (h : c ≤ b) : Grow w0 B s es b :=
  ⟨y.es', x.new ++ y.new, y.eq.trans ((congrArg (· ++ y.new) x.eq).trans (List.append_assoc _ _ _)), y.ok, fun m hm => by
    rcases List.mem_append.1 hm with hm | hm
    · exact x.small m hm
    · obtain ⟨r, a, h1, h2⟩ := y.small m hm
      exact ⟨r, a, h1, by omega⟩⟩
def Grow.wide {w0 : World} {B : Nat} {s : List UInt8} {es : List ME} {b c : Nat} (x : Grow w0 B s es b) (h : b ≤ c) : Grow w0 B s es c :=
  ⟨x.es', x.new, x.eq, x.ok, fun m hm => by
    obtain ⟨r, a, h1, h2⟩ := x.small m hm
    exact ⟨r, a, h1, by omega⟩⟩
structure RowX (w0 : World) (B : Nat) (s : List UInt8) (es : List ME) (r : RE) (a : Nat) where
  G : Grow w0 B s es r.sz
  m : ME
  mem : m ∈ G.es'
  ent : EntOk w0 B s m r a
def RowCt (s : List UInt8) (gc gm : Nat) (w0 : World) (B : Nat) (r : RE) (g off : Nat) : Prop :=
  ∀ (a : Nat) (es : List ME), a ≤ s.length → MemoOk w0 B s es → MutAt Try.prog 41 #[Pv gc 0, Pv g off, Iv (a : Nat)] [CB gc gm s, MH gm es] (fun x : RowX w0 B s es r a => x.m.val) (fun x => [CB gc gm s, MH gm x.G.es']) w0 B
structure ThrX (w0 : World) (B : Nat) (s : List UInt8) (es : List ME) (r : RE) where
  G : Grow w0 B s es r.sz
  g : Nat
  cap : Nat
theorem none_c (v : Row) (n : Nat) (hn : n ≤ 1073741824) (ad : Option Addr) (cap : Nat) (w : World) (hrd : Rd w w.heap.size ad (rowC v n)) : Pure Try.prog 84 #[.slice ad (n + 1) cap] (fun _ : Unit => .bool (noneR n v)) (fun _ => []) w := by
  obtain ⟨g, off, rfl, _⟩ := hrd (fun e => by have := rowC_len v n; rw [e] at this; simp at this)
  have hiff := noneR_iff n v
  refine calls_of_ES TB Try.func84 rfl _ Try.ntmps84 rfl (Sat.start w) ?_
  refine .go ?_; repeat constructor
  refine EL.assign rfl rfl rfl ?_
  refine .go ?_; repeat constructor
  refine EL.move rfl rfl rfl ?_
  refine EL.lenL rfl rfl rfl rfl rfl ?_
  refine EL.move rfl rfl rfl ?_
  refine .go ?_; repeat constructor
  refine ES.loop (σ := Nat) (fun i => i ≤ n + 1 ∧ ∀ q, q < i → v q = 0) (fun i => [(5, .slice (some ⟨g, off, none⟩) (n + 1) cap), (6, Iv ((n + 1 : Nat) : Int)), (7, Iv (i : Nat))]) (fun _ => []) (fun i => n + 1 - i) 0 ⟨Nat.zero_le _, fun q h => by omega⟩ ⟨rfl, rfl, rfl, trivial⟩ (.i (by repeat constructor)) ?_
  rintro i ⟨hi, hz⟩
  dsimp only at hi hz ⊢
  refine .go ?_; repeat constructor
  refine EL.lss rfl rfl rfl rfl ?_
  refine .go ?_; repeat constructor
  refine ES.condD rfl (fun hlt => ?_) (fun hge => ?_)
  · refine .go ?_; repeat constructor
    refine EL.indexAddrLo rfl rfl rfl rfl rfl rfl rfl rfl (by omega) ?_
    refine EL.loadOld rfl rfl rfl rfl rfl hrd (rowC_get v (by omega)) ?_
    refine EL.assign rfl rfl rfl ?_
    refine .go ?_; repeat constructor
    refine EL.move rfl rfl rfl ?_
    refine EL.neqI rfl rfl rfl rfl ?_
    refine .go ?_; repeat constructor
    refine ES.condN rfl (fun hne => ?_) (fun he => ?_)
    · have hf : noneR n v = false := by
        rw [Bool.eq_false_iff, ne_eq, hiff]
        intro h
        exact hne (by rw [h i (by omega)]; rfl)
      rw [hf]
      refine .go ?_; repeat constructor
      refine EL.assign rfl rfl rfl ?_
      refine .go ?_; repeat constructor
      exact PX.ret rfl Try.results84 (.cons (.tmp rfl) .nil) (fun w hs => ⟨(), rfl, hs.ent (.i (by repeat constructor))⟩)
    · refine .go ?_; repeat constructor
      refine EL.add1 rfl rfl rfl rfl (by omega) ?_
      refine EL.move rfl rfl rfl ?_
      refine .go ?_; repeat constructor
      refine PX.loop (i + 1) ⟨by omega, fun q hq => ?_⟩ (by omega) ⟨rfl, rfl, rfl, trivial⟩ (.i (by repeat constructor))
      rcases Nat.lt_or_ge q i with h | h
      · exact hz q h
      · obtain rfl : q = i := by omega
        omega
  · have ht : noneR n v = true := hiff.2 (fun q hq => hz q (by omega))
    rw [ht]
    refine .go ?_; repeat constructor
    refine EL.assign rfl rfl rfl ?_
    refine .go ?_; repeat constructor
    exact PX.ret rfl Try.results84 (.cons (.tmp rfl) .nil) (fun w hs => ⟨(), rfl, hs.ent (.i (by repeat constructor))⟩)
theorem VR_eq {g cap n : Nat} {u v : Row} (h : rowC u n = rowC v n) : VR g cap n u = VR g cap n v := congrArg (HA.row (.slice (some ⟨g, 0, none⟩) (n + 1) cap) 3 1 (n + 1)) h
theorem if_row (n : Nat) (u v : Row) (j x : Nat) (hx : x = u j) : rowC (updR (fun q => if q < j then u q else v q) j x) n = rowC (fun q => if q < j + 1 then u q else v q) n := rowC_ext (fun q _ => by
  show (if q = j then x else if q < j then u q else v q) = if q < j + 1 then u q else v q
  subst hx
  rcases Nat.lt_trichotomy q j with h | h | h
  · rw [if_neg (by omega), if_pos h, if_pos (by omega)]
  · subst h; rw [if_pos rfl, if_pos (by omega)]
  · rw [if_neg (by omega), if_neg (by omega), if_neg (by omega)])
theorem if_row_keep (n : Nat) (u v : Row) (j : Nat) (hx : u j = v j) : rowC (fun q => if q < j then u q else v q) n = rowC (fun q => if q < j + 1 then u q else v q) n := rowC_ext (fun q _ => by
  show (if q < j then u q else v q) = if q < j + 1 then u q else v q
  rcases Nat.lt_trichotomy q j with h | h | h
  · rw [if_pos h, if_pos (by omega)]
  · subst h; rw [if_neg (by omega), if_pos (by omega), hx]
  · rw [if_neg (by omega), if_neg (by omega)])
theorem through_c (s : List UInt8) (hs : s.length ≤ 1024) (gc gm : Nat) (w0 : World) (B : Nat) (r : RE) (g off : Nat) (hrow : RowCt s gc gm w0 B r g off) (vg vcap : Nat) (vr : Row) (more : Bool) (es : List ME) (hv : ∀ q, vr q ≤ 4097) (hok : MemoOk w0 B s es) :
    MutAt Try.prog 62 #[Pv gc 0, .slice (some ⟨vg, 0, none⟩) (s.length + 1) vcap, Pv g off, .bool more] [CB gc gm s, MH gm es, VR vg vcap s.length vr] (fun x : ThrX w0 B s es r => .slice (some ⟨x.g, 0, none⟩) (s.length + 1) x.cap)
      (fun x => [CB gc gm s, MH gm x.G.es', VR x.g x.cap s.length (thrR capW s.length (rowW s r) vr more)]) w0 B := by
  intro R w h
  replace h : Sat w0 B (CB gc gm s :: MH gm es :: VR vg vcap s.length vr :: R) w := h
  obtain ⟨n, hn⟩ : ∃ n, n = s.length := ⟨_, rfl⟩
  have hf : ∀ p q, rowW s r p q ≤ 4097 := fun p q => row_le s r p q
  refine calls_of_ES TB Try.func62 rfl _ Try.ntmps62 rfl h ?_
  refine .go ?_; repeat constructor
  refine EL.assign rfl rfl rfl ?_
  refine .go ?_; repeat constructor
  refine EL.move rfl rfl rfl ?_
  refine EL.lenL rfl rfl rfl rfl rfl ?_
  refine EL.makeSlice (n := s.length + 1) rfl rfl rfl rfl rfl rfl (by first | omega | (show 1 * _ ≤ _; omega) | (show 8 * _ ≤ _; omega) | (show 16 * _ ≤ _; omega) | (show 24 * _ ≤ _; omega) | (show _ * 1 ≤ _; omega) | (show _ * 8 ≤ _; omega) | (show _ * 16 ≤ _; omega) | (show _ * 24 ≤ _; omega) | exact Nat.le_trans (Nat.mul_le_mul_right _ (show _ ≤ 1073741824 by omega)) (by decide)) (by unfold maxLen; omega) ?_
  intro g16
  refine EL.assign rfl rfl rfl ?_
  refine .go ?_; repeat constructor
  refine EL.move rfl rfl rfl ?_
  refine EL.lenL rfl rfl rfl rfl rfl ?_
  refine EL.move rfl rfl rfl ?_
  refine .go ?_; repeat constructor
  refine ES.rowEq (by repeat constructor) (cs' := rowC (fun q => thrGo capW (rowW s r) vr more q 0) s.length) ((made1 _ _).trans (rowC_zero _)) ?_
  refine ES.loop (σ := Nat × Grow w0 B s es r.sz) (fun (p, G) => p ≤ s.length + 1) (fun (p, G) => [(0, Pv gc 0), (2, Pv g off), (3, .bool more), (9, .slice (some ⟨g16, 0, none⟩) (s.length + 1) (s.length + 1)), (17, .slice (some ⟨vg, 0, none⟩) (s.length + 1) vcap), (18, Iv ((s.length + 1 : Nat) : Int)), (19, Iv (p : Nat))])
    (fun (p, G) => CB gc gm s :: MH gm G.es' :: VR vg vcap s.length vr :: VR g16 (s.length + 1) s.length (fun q => thrGo capW (rowW s r) vr more q p) :: R) (fun (p, G) => s.length + 1 - p) (0, Grow.zero hok) (Nat.zero_le _) ⟨rfl, rfl, rfl, rfl, rfl, rfl, rfl, trivial⟩ (.i (by repeat constructor)) ?_
  rintro ⟨p, G⟩ hp
  dsimp only at hp ⊢
  refine .go ?_; repeat constructor
  refine EL.lss rfl rfl rfl rfl ?_
  refine .go ?_; repeat constructor
  refine ES.condD rfl (fun hlt => ?_) (fun hge => ?_)
  · have hpn : p ≤ s.length := by omega
    refine .go ?_; repeat constructor
    refine EL.move rfl rfl rfl ?_
    refine EL.indexAddrL1 rfl rfl rfl rfl rfl rfl rfl rfl (by omega) ?_
    refine EL.loadR rfl rfl rfl rfl rfl (by repeat constructor) (rowC_get vr hpn) ?_
    refine EL.assign rfl rfl rfl ?_
    refine EL.assign rfl rfl rfl ?_
    refine .go ?_; repeat constructor
    refine EL.move rfl rfl rfl ?_
    refine EL.eqlI rfl rfl rfl rfl ?_
    refine .go ?_; repeat constructor
    refine ES.condD rfl (fun h0 => ?_) (fun hne => ?_)
    · have h0' : vr p = 0 := by omega
      refine .go ?_; repeat constructor
      refine EL.add1 rfl rfl rfl rfl (by omega) ?_
      refine EL.move rfl rfl rfl ?_
      refine .go ?_; repeat constructor
      refine PX.loop (p + 1, G) (by simp only; omega) (by simp only; omega) ⟨rfl, rfl, rfl, rfl, rfl, rfl, rfl, trivial⟩ ?_
      have e : rowC (fun q => thrGo capW (rowW s r) vr more q p) s.length = rowC (fun q => thrGo capW (rowW s r) vr more q (p + 1)) s.length := rowC_ext (fun q _ => by show _ = thrGo capW (rowW s r) vr more q (p + 1); rw [thrGo, if_pos (.inl h0')])
      dsimp only
      rw [← VR_eq (g := g16) (cap := s.length + 1) e]
      exact (.i (by repeat constructor))
    · have hvp := hv p
      refine .go ?_; repeat constructor
      refine EL.move rfl rfl rfl ?_
      refine EL.move rfl rfl rfl ?_
      refine EL.move rfl rfl rfl ?_
      (refine EL.callMw rfl rfl rfl ent41 rfl (hrow p G.es' hpn G.ok) (by repeat constructor) ?_; intro x)
      obtain ⟨gb, rcap, hxv⟩ := x.ent.val
      refine EL.rew (d := 29) (v' := .slice (some ⟨gb, 0, none⟩) (s.length + 1) rcap) rfl hxv ?_
      refine EL.lenL rfl rfl rfl rfl rfl ?_
      refine EL.move rfl rfl rfl ?_
      refine .go ?_; repeat constructor
      refine ES.loop (σ := Nat) (fun j => j ≤ s.length + 1) (fun j => [(0, Pv gc 0), (2, Pv g off), (3, .bool more), (9, .slice (some ⟨g16, 0, none⟩) (s.length + 1) (s.length + 1)), (17, .slice (some ⟨vg, 0, none⟩) (s.length + 1) vcap), (18, Iv ((s.length + 1 : Nat) : Int)), (19, Iv (p : Nat)), (10, Iv (p : Nat)), (11, Iv (vr p : Nat)), (29, .slice (some ⟨gb, 0, none⟩) (s.length + 1) rcap), (30, Iv ((s.length + 1 : Nat) : Int)), (31, Iv (j : Nat))])
        (fun j => CB gc gm s :: MH gm x.G.es' :: VR vg vcap s.length vr :: VR g16 (s.length + 1) s.length (fun q => if q < j then thrGo capW (rowW s r) vr more q (p + 1) else thrGo capW (rowW s r) vr more q p) :: R) (fun j => s.length + 1 - j) 0 (Nat.zero_le _) ⟨rfl, rfl, rfl, rfl, rfl, rfl, rfl, rfl, rfl, rfl, rfl, rfl, trivial⟩ (.i (by repeat constructor)) ?_
      intro j hj
      refine .go ?_; repeat constructor
      refine EL.lss rfl rfl rfl rfl ?_
      refine .go ?_; repeat constructor
      refine ES.condD rfl (fun hlt2 => ?_) (fun hge2 => ?_)
      · have hjn : j ≤ s.length := by omega
        have hfj := hf p j
        refine .go ?_; repeat constructor
        refine EL.move rfl rfl rfl ?_
        refine EL.indexAddrL1 rfl rfl rfl rfl rfl rfl rfl rfl (by omega) ?_
        refine EL.ofRV (RV.loadMemo rfl rfl rfl (by repeat constructor) x.mem hxv (by rw [x.ent.cells]; exact rowC_get _ hjn)) rfl rfl rfl (by intro c h; cases h) ?_
        refine EL.assign rfl rfl rfl ?_
        refine EL.assign rfl rfl rfl ?_
        refine .go ?_; repeat constructor
        refine EL.cutX (X := Unit) (fun _ => [(0, Pv gc 0), (2, Pv g off), (3, .bool more), (9, .slice (some ⟨g16, 0, none⟩) (s.length + 1) (s.length + 1)), (17, .slice (some ⟨vg, 0, none⟩) (s.length + 1) vcap), (18, Iv ((s.length + 1 : Nat) : Int)), (19, Iv (p : Nat)), (10, Iv (p : Nat)), (11, Iv (vr p : Nat)), (29, .slice (some ⟨gb, 0, none⟩) (s.length + 1) rcap), (30, Iv ((s.length + 1 : Nat) : Int)), (31, Iv (j : Nat)), (12, Iv (j : Nat)), (13, Iv (rowW s r p j : Nat)), (41, .bool (decide (more = true ∧ j = p)))])
          (fun _ => CB gc gm s :: MH gm x.G.es' :: VR vg vcap s.length vr :: VR g16 (s.length + 1) s.length (fun q => if q < j then thrGo capW (rowW s r) vr more q (p + 1) else thrGo capW (rowW s r) vr more q p) :: R) ?_ (fun _ => ?_)
        · refine .go ?_; repeat constructor
          refine EL.move rfl rfl rfl ?_
          refine EL.move rfl rfl rfl ?_
          first | refine EL.splitD (d := 37) rfl (fun hp37 => ?_) (fun hp37 => ?_) | refine EL.splitN (d := 37) rfl (fun hp37 => ?_) (fun hp37 => ?_) | refine EL.splitB (d := 37) rfl (fun hp37 => ?_) (fun hp37 => ?_)
          · refine EL.move rfl rfl rfl ?_
            refine EL.move rfl rfl rfl ?_
            refine EL.eqlI rfl rfl rfl rfl ?_
            refine EL.pickT rfl rfl rfl rfl ?_
            exact EL.endX () ⟨rfl, rfl, rfl, rfl, rfl, rfl, rfl, rfl, rfl, rfl, rfl, rfl, rfl, rfl, getA rfl (congrArg Value.bool (by simp_all <;> omega)), trivial⟩ (.i (by repeat constructor))
          · refine EL.pass rfl rfl rfl ?_
            refine EL.pass rfl rfl rfl ?_
            refine EL.pass rfl rfl rfl ?_
            refine EL.pickF rfl rfl rfl rfl ?_
            exact EL.endX () ⟨rfl, rfl, rfl, rfl, rfl, rfl, rfl, rfl, rfl, rfl, rfl, rfl, rfl, rfl, getA rfl (congrArg Value.bool (by simp_all <;> omega)), trivial⟩ (.i (by repeat constructor))
        have hstep : thrGo capW (rowW s r) vr more j (p + 1) = if vr p = 0 ∨ (more = true ∧ j = p) then thrGo capW (rowW s r) vr more j p else capW (thrGo capW (rowW s r) vr more j p + vr p * rowW s r p j) := by rw [thrGo]
        refine ES.condD rfl (fun hskip => ?_) (fun hgo => ?_)
        · rw [if_pos (.inr hskip)] at hstep
          refine .go ?_; repeat constructor
          refine EL.add1 rfl rfl rfl rfl (by omega) ?_
          refine EL.move rfl rfl rfl ?_
          refine .go ?_; repeat constructor
          refine PX.loop (j + 1) (by omega) (by omega) ⟨rfl, rfl, rfl, rfl, rfl, rfl, rfl, rfl, rfl, rfl, rfl, rfl, trivial⟩ ?_
          rw [← VR_eq (g := g16) (cap := s.length + 1) (if_row_keep _ _ _ j hstep)]
          exact (.i (by repeat constructor))
        · rw [if_neg (by rintro (h | h); exact hne (by rw [h]; rfl); exact hgo h)] at hstep
          have hmul : vr p * rowW s r p j ≤ 4097 * 4097 := Nat.mul_le_mul hvp hfj
          have hold := thr_le (rowW s r) vr more j p
          have hget : (rowC (fun q => if q < j then thrGo capW (rowW s r) vr more q (p + 1) else thrGo capW (rowW s r) vr more q p) s.length)[j]? = some (Iv (thrGo capW (rowW s r) vr more j p : Nat)) := by
            rw [rowC_get _ hjn]
            simp
          have hval : (Iv (min (((thrGo capW (rowW s r) vr more j p : Nat) : Int) + ((vr p * rowW s r p j : Nat) : Int)) 4097)) = Iv ((capW (thrGo capW (rowW s r) vr more j p + vr p * rowW s r p j) : Nat) : Int) := congrArg Iv (by unfold capW; omega)
          refine .go ?_; repeat constructor
          refine EL.move rfl rfl rfl ?_
          refine EL.move rfl rfl rfl ?_
          refine EL.move rfl rfl rfl ?_
          refine EL.move rfl rfl rfl ?_
          refine EL.indexAddrL1 rfl rfl rfl rfl rfl rfl rfl rfl (by omega) ?_
          refine EL.loadR rfl rfl rfl rfl rfl (by repeat constructor) hget ?_
          refine EL.move rfl rfl rfl ?_
          refine EL.move rfl rfl rfl ?_
          refine EL.mulN rfl rfl rfl rfl rfl (by omega) ?_
          refine EL.addN rfl rfl rfl rfl rfl (by omega) ?_
          refine EL.ofRV (RV.minI rfl rfl) rfl rfl rfl (by intro c h; cases h) ?_
          refine EL.indexAddrL1 rfl rfl rfl rfl rfl rfl rfl rfl (by omega) ?_
          (refine EL.storeR rfl rfl rfl rfl rfl rfl (by repeat constructor) (by rw [rowC_len]; omega) ?_; refine EL.rowEq (v := .slice (some ⟨g16, 0, none⟩) (s.length + 1) (s.length + 1)) (by repeat constructor) ((congrArg (fun u => (rowC _ _).set j u) hval).trans ((rowC_set _ _ hjn).trans (if_row _ _ _ _ _ hstep.symm))) ?_)
          refine .go ?_; repeat constructor
          refine EL.add1 rfl rfl rfl rfl (by omega) ?_
          refine EL.move rfl rfl rfl ?_
          refine .go ?_; repeat constructor
          exact PX.loop (j + 1) (by omega) (by omega) ⟨rfl, rfl, rfl, rfl, rfl, rfl, rfl, rfl, rfl, rfl, rfl, rfl, trivial⟩ (.i (by repeat constructor))
      · obtain rfl : j = s.length + 1 := by omega
        refine .go ?_; repeat constructor
        refine EL.add1 rfl rfl rfl rfl (by omega) ?_
        refine EL.move rfl rfl rfl ?_
        refine .go ?_; repeat constructor
        refine PX.loop (p + 1, G.trans x.G (Nat.le_refl _)) (by simp only; omega) (by simp only; omega) ⟨rfl, rfl, rfl, rfl, rfl, rfl, rfl, trivial⟩ ?_
        have e : rowC (fun q => if q < s.length + 1 then thrGo capW (rowW s r) vr more q (p + 1) else thrGo capW (rowW s r) vr more q p) s.length = rowC (fun q => thrGo capW (rowW s r) vr more q (p + 1)) s.length := rowC_ext (fun q hq => if_pos (by omega))
        dsimp only
        rw [← VR_eq (g := g16) (cap := s.length + 1) e]
        exact (.i (by repeat constructor))
  · obtain rfl : p = s.length + 1 := by omega
    refine .go ?_; repeat constructor
    refine EL.move rfl rfl rfl ?_
    refine EL.assign rfl rfl rfl ?_
    refine .go ?_; repeat constructor
    exact PX.ret rfl Try.results62 (.cons (.tmp rfl) .nil) (fun w hs => ⟨⟨G, g16, s.length + 1⟩, rfl, hs.ent (.i (by repeat constructor))⟩)
end Go.Proofs.Ytblpgpgbnlhjlaa
