/- Layer 4 (bre) in plain Lean: trees, tokens, the parser. -/
import Derived.Test.YtblpgpgbnlhjlaaEb
namespace Go.Proofs.Ytblpgpgbnlhjlaa
open Go Go.RowKit Sl
set_option maxRecDepth 100000
set_option maxHeartbeats 8000000
set_option linter.unusedVariables false
set_option linter.unusedSimpArgs false
attribute [local irreducible] ES EL PX wps

/-! trees -/
inductive RE where
  | cat (ks : List RE)
  | byte (s : BS)
  | bol
  | eol
  | group (n : Nat) (k : RE)
  | rep (lo : Nat) (hi : Int) (k : RE)
  | back (n : Nat)
deriving Inhabited
def RE.kind : RE → Nat
  | .cat _ => 0
  | .byte _ => 1
  | .bol => 2
  | .eol => 3
  | .group .. => 4
  | .rep .. => 5
  | .back _ => 6
def RE.set : RE → BS
  | .byte s => s
  | _ => zeroS
def RE.lo : RE → Nat
  | .rep lo _ _ => lo
  | _ => 0
def RE.hi : RE → Int
  | .rep _ hi _ => hi
  | _ => 0
def RE.num : RE → Nat
  | .group n _ => n
  | .back n => n
  | _ => 0
def RE.kids : RE → List RE
  | .cat ks => ks
  | .group _ k => [k]
  | .rep _ _ k => [k]
  | _ => []

/-! tokens -/
structure Tok where
  kind : Nat
  at_ : Nat
  set : BS
  lo : Int
  hi : Int
  e : Int
def badT (a : Nat) (e : Int) : Tok := ⟨7, a, zeroS, 0, 0, e⟩
def byteT (a : Nat) (s : BS) : Tok := ⟨0, a, s, 0, 0, 0⟩
def oneT (a : Nat) (b : UInt8) : Tok := byteT a (ofS [b])
def isDig (b : UInt8) : Bool := decide (48 ≤ b.toNat ∧ b.toNat ≤ 57)
def numGo (t : List UInt8) : Nat → Nat → Nat → Nat × Nat
  | 0, n, a => (n, a)
  | k + 1, n, a => if a < t.length ∧ isDig (t.getD a 0) = true then numGo t k (min (10 * n + ((t.getD a 0).toNat - 48)) 256) (a + 1) else (n, a)
def numM (t : List UInt8) (a : Nat) : Int × Nat :=
  let r := numGo t (t.length - a) 0 a
  (if r.2 = a then -1 else (r.1 : Int), r.2)
/-- Low, high, the place behind; none: it is no interval. -/
def ivM (t : List UInt8) (a : Nat) : Option (Nat × Int × Nat) :=
  let l := numM t a
  let h := if l.2 < t.length ∧ t.getD l.2 0 = 44 then numM t (l.2 + 1) else l
  if l.1 < 0 ∨ 255 < l.1 ∨ 255 < h.1 ∨ (0 ≤ h.1 ∧ h.1 < l.1) then none
  else if t.length < h.2 + 2 ∨ (t.drop h.2).take 2 ≠ [92, 125] then none
  else some (l.1.toNat, h.1, h.2 + 2)
def isAln (b : UInt8) : Bool := isDig b || decide (97 ≤ (b ||| 32).toNat ∧ (b ||| 32).toNat ≤ 122)
def escT (t : List UInt8) (a : Nat) (begin_ : Bool) : Tok × Nat :=
  if a + 1 = t.length then (badT a 6, a)
  else
    let b := t.getD (a + 1) 0
    if b.toNat = 40 then (⟨3, a, zeroS, 0, 0, 0⟩, a + 2)
    else if b.toNat = 41 then (⟨4, a, zeroS, 0, 0, 0⟩, a + 2)
    else if b.toNat = 123 then
      match ivM t (a + 2) with
      | none => (badT a 9, a)
      | some (lo, hi, n) => if begin_ = true then (badT a 9, a) else (⟨5, a, zeroS, (lo : Int), hi, 0⟩, n)
    else if b.toNat = 125 then (badT a 9, a)
    else if b.toNat = 110 then (oneT a 10, a + 2)
    else if 49 ≤ b.toNat ∧ b.toNat ≤ 57 then (⟨6, a, zeroS, ((b.toNat - 48 : Nat) : Int), 0, 0⟩, a + 2)
    else if isAln b = true then (badT a 12, a)
    else (oneT a b, a + 2)
def eolM (t : List UInt8) (a : Nat) : Bool := decide (a + 1 = t.length) || (decide (a + 2 < t.length) && decide ((t.drop (a + 1)).take 2 = [92, 41]))
def readT (t : List UInt8) (a : Nat) (first begin_ : Bool) : Tok × Nat :=
  let b := t.getD a 0
  if b.toNat = 92 then escT t a begin_
  else if b.toNat = 91 then (if (brackM t a).e ≠ 0 then (badT a (brackM t a).e, a) else (byteT a (brackM t a).set, (brackM t a).at_))
  else if b.toNat = 46 then (byteT a (notS zeroS), a + 1)
  else if b.toNat = 42 ∧ begin_ = false then (⟨5, a, zeroS, 0, -1, 0⟩, a + 1)
  else if b.toNat = 94 ∧ first = true then (⟨1, a, zeroS, 0, 0, 0⟩, a + 1)
  else if b.toNat = 36 ∧ eolM t a = true then (⟨2, a, zeroS, 0, 0, 0⟩, a + 1)
  else (oneT a b, a + 1)
/-- The tokens from a place on, as long as none is a fault. -/
def toksGo (t : List UInt8) : Nat → Nat → Bool → Bool → List Tok
  | 0, _, _, _ => []
  | n + 1, a, first, begin_ =>
    if t.length ≤ a then []
    else
      let r := readT t a first begin_
      if r.1.kind = 7 then [r.1] else r.1 :: toksGo t n r.2 (decide (r.1.kind = 3)) (decide (r.1.kind = 3) || decide (r.1.kind = 1))
def toksM (t : List UInt8) : List Tok := toksGo t t.length 0 true true

/-! the parser -/
structure Frame where
  kids : List RE
  sizes : List Nat
  group : Nat
  at_ : Nat
/-- The innermost frame, those around it (the innermost one first), the groups so far, those that are shut, the positions so far. -/
structure PS where
  top : Frame
  rest : List Frame
  groups : Nat
  shut : List Bool
  size : Nat
def Frame.put (f : Frame) (r : RE) (n : Nat) : Frame := { f with kids := f.kids ++ [r], sizes := f.sizes ++ [n] }
def growE (n : Nat) : Int := if 256 < n then 13 else 0
def timesM (lo : Nat) (hi : Int) : Nat := if hi < 0 then max lo 1 else hi.toNat
def takeM (p : PS) (k : Tok) : PS × Int :=
  match k.kind with
  | 0 => ({ p with top := p.top.put (.byte k.set) 1, size := p.size + 1 }, growE (p.size + 1))
  | 1 => ({ p with top := p.top.put .bol 0 }, 0)
  | 2 => ({ p with top := p.top.put .eol 0 }, 0)
  | 3 => if p.groups = 9 then (p, 4) else ({ p with top := ⟨[], [], p.groups + 1, k.at_⟩, rest := p.top :: p.rest, groups := p.groups + 1 }, 0)
  | 4 => match p.rest with
    | [] => (p, 10)
    | f :: r => ({ p with top := f.put (.group p.top.group (.cat p.top.kids)) p.top.sizes.sum, rest := r, shut := p.shut.set p.top.group true }, 0)
  | 5 =>
    let old := p.top.sizes.getLastD 0
    let f := { p.top with kids := p.top.kids.dropLast ++ [.rep k.lo.toNat k.hi (p.top.kids.getLastD .bol)], sizes := p.top.sizes.dropLast ++ [old * timesM k.lo.toNat k.hi] }
    ({ p with top := f, size := p.size - old + old * timesM k.lo.toNat k.hi }, growE (p.size - old + old * timesM k.lo.toNat k.hi))
  | 6 => if p.shut.getD k.lo.toNat false = true then ({ p with top := p.top.put (.back k.lo.toNat) 1, size := p.size + 1 }, growE (p.size + 1)) else (p, 11)
  | _ => (p, k.e)
structure Parsed where
  tree : RE
  e : Int
  at_ : Nat
def endM (p : PS) : Parsed := match p.rest with
  | [] => ⟨.cat p.top.kids, 0, 0⟩
  | _ => ⟨.cat [], 10, p.top.at_⟩
def parseGo : List Tok → PS → Parsed
  | [], p => endM p
  | k :: ks, p => if (takeM p k).2 ≠ 0 then ⟨.cat [], (takeM p k).2, k.at_⟩ else parseGo ks (takeM p k).1
def ps0 : PS := ⟨⟨[], [], 0, 0⟩, [], 0, List.replicate 10 false, 0⟩
def parseM (t : List UInt8) : Parsed := if 512 < t.length then ⟨.cat [], 2, 0⟩ else parseGo (toksM t) ps0

/-! what the parser keeps -/
def Frame.tot (f : Frame) : Nat := f.sizes.sum
structure PS.Ok (p : PS) : Prop where
  len : ∀ f ∈ p.top :: p.rest, f.kids.length = f.sizes.length
  tot : p.size = p.top.tot + (p.rest.map Frame.tot).sum
  le : p.size ≤ 256
  shut : p.shut.length = 10
  groups : p.groups ≤ 9
  num : ∀ f ∈ p.top :: p.rest, f.group ≤ 9
theorem ps0_ok : ps0.Ok := ⟨by simp [ps0], by simp [ps0, Frame.tot], by simp [ps0], by simp [ps0], by simp [ps0], by simp [ps0]⟩
end Go.Proofs.Ytblpgpgbnlhjlaa
