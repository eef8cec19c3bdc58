/- Plain words, without a program: users, addresses, kinds and rules as lists of bytes; which rule fits, which is the first. -/
import Derived.Test.YtajndnaeknfogaaDoorQ0
namespace Go.Proofs.YtajndnaeknfogaaDoor.Q
set_option linter.unusedVariables false
set_option linter.unusedSimpArgs false

def isLow (b : UInt8) : Bool := (97 ≤ b && b ≤ 122) || (48 ≤ b && b ≤ 57)
def userL (l : List UInt8) : Bool := decide (1 ≤ l.length) && decide (l.length ≤ 16) && l.all isLow
def preL (l : List UInt8) : List UInt8 := l.takeWhile (· != 47)
def postL (l : List UInt8) : List UInt8 := (l.dropWhile (· != 47)).tail
def hasL (l : List UInt8) : Bool := l.contains 47
def okL (l : List UInt8) : Bool := userL (preL l) && (!hasL l || userL (postL l))
def ascL (l : List UInt8) : Bool := l.all (fun b => decide (b.toNat < 128))
def aboutL (kinds l : List UInt8) : Bool := decide (kinds = []) || l.all (fun c => kinds.any (fun b => decide (b.toNat = c.toNat)))
def stateIx (l : List UInt8) : Int :=
  if l = [64, 110, 111, 110, 101] then 0 else if l = [64, 116, 111] then 1 else if l = [64, 102, 114, 111, 109] then 2 else if l = [64, 98, 111, 116, 104] then 3 else -1
def starL (l : List UInt8) : Bool := decide (l.getLast? = some 42)
def whoL (l : List UInt8) : Bool := if starL l then decide (l.dropLast = []) || userL l.dropLast else okL l || decide (0 ≤ stateIx l)
def fitsL (who own : List UInt8) (sub : Int) : Bool :=
  if 0 ≤ stateIx who then decide (stateIx who = sub)
  else if starL who then decide (who.dropLast = []) || okL own && who.dropLast.isPrefixOf (preL own)
  else okL own && okL who && decide (preL who = preL own) && (decide (postL who = []) || decide (postL who = postL own))
def actL (t : List UInt8) : Bool := decide (t = [115, 117, 98, 115, 99, 114, 105, 98, 101] ∨ t = [115, 117, 98, 115, 99, 114, 105, 98, 101, 100] ∨ t = [117, 110, 115, 117, 98, 115, 99, 114, 105, 98, 101] ∨ t = [117, 110, 115, 117, 98, 115, 99, 114, 105, 98, 101, 100])
def kindL (K : Int) (t : List UInt8) : List UInt8 :=
  if K = 1 then (if t = [] ∨ t = [117, 110, 97, 118, 97, 105, 108, 97, 98, 108, 101] then [112] else if actL t then [115] else [])
  else if 2 ≤ K ∧ K ≤ 5 then [113] else []
def kindsL (l : List UInt8) : Bool := decide (l ∈ [[], [112], [115], [113], [112, 115], [112, 113], [115, 113], [112, 115, 113]])

def idxFrom (p : S37 → Bool) : List S37 → Int → Int
  | [], _ => -1
  | x :: l, i => if p x then i else idxFrom p l (i + 1)
def ruleP (c own : List UInt8) (sub : Int) (x : S37) : Bool := aboutL x.f1.data.toList c && fitsL x.f2.data.toList own sub
def ascRules (l : List S37) : Bool := l.all (fun x => ascL x.f1.data.toList)
def firstL (l : List S37) (c own : List UInt8) (sub : Int) : Int := if c = [] then -1 else idxFrom (ruleP c own sub) l 0

theorem idxFrom_drop {p : S37 → Bool} {l : List S37} {k : Nat} (h : k < l.length) (i : Int) : idxFrom p (l.drop k) i = if p l[k] then i else idxFrom p (l.drop (k + 1)) (i + 1) := by
  rw [List.drop_eq_getElem_cons h]; rfl
end Go.Proofs.YtajndnaeknfogaaDoor.Q
