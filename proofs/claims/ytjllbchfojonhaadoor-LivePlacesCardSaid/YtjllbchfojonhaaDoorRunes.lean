/- Plain: names, sign by sign. -/
import Derived.Lib.RuneCount
import Derived.Lib.IsU
import Derived.Lib.TrimU
namespace Go.Proofs.YtjllbchfojonhaaDoor

def letterB (r : Int) : Bool := Lib.isLetterU r && !(r == 65533)
def digitB (r : Int) : Bool := decide (48 ≤ r) && decide (r ≤ 57)
def innerB (r : Int) : Bool := letterB r || digitB r || r == 46 || r == 95
/-- may the sign at a place stand there? -/
def okAt (pos : Nat) (r : Int) : Bool := !((pos == 0 && !letterB r) || !innerB r)
/-- may all signs from a place on? -/
def nameFrom (s : ByteArray) : Nat → Nat → Bool
  | 0, _ => true
  | f + 1, pos => if pos < s.size then okAt pos (Utf8.decode s pos).1 && nameFrom s f (pos + (Utf8.decode s pos).2) else true
theorem nameFrom_end {s : ByteArray} {f pos : Nat} (h : ¬ pos < s.size) : nameFrom s f pos = true := by
  cases f <;> simp [nameFrom, h]
theorem nameFrom_yes {s : ByteArray} {f pos : Nat} (h : pos < s.size) (ho : okAt pos (Utf8.decode s pos).1 = true) : nameFrom s (f + 1) pos = nameFrom s f (pos + (Utf8.decode s pos).2) := by
  simp [nameFrom, h, ho]
theorem nameFrom_no {s : ByteArray} {f pos : Nat} (h : pos < s.size) (ho : okAt pos (Utf8.decode s pos).1 = false) : nameFrom s (f + 1) pos = false := by
  simp [nameFrom, h, ho]
theorem runes_step {s : ByteArray} {f pos : Nat} (h : pos < s.size) : Lib.runeCountFrom s (f + 1) pos = 1 + Lib.runeCountFrom s f (pos + (Utf8.decode s pos).2) := by
  simp [Lib.runeCountFrom, h]
def nameB (s : ByteArray) : Bool := nameFrom s s.size 0 && decide (s.size ≠ 0) && decide (Lib.runeCount s ≤ 16)
end Go.Proofs.YtjllbchfojonhaaDoor
