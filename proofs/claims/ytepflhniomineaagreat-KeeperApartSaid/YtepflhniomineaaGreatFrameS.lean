/- What frames are: plain functions on lists of bytes. -/
import Derived.Below
import Derived.Lib.Zigzag
import Derived.Lib.BitFns
namespace Go.Proofs.YtepflhniomineaaGreat
def byteAt (u i : Nat) : UInt8 := UInt8.ofNat (u / 2 ^ (8 * i))
def lowL (u n : Nat) : List UInt8 := (List.range n).map (byteAt u)
theorem lowL_succ (u n : Nat) : lowL u (n + 1) = lowL u n ++ [byteAt u n] := by simp [lowL, List.range_succ]
theorem lowL_length (u n : Nat) : (lowL u n).length = n := by simp [lowL]
/-- How many bytes a number has behind its first one. -/
def numSize (n : Int) : Nat := (Lib.bitLen (Lib.zigzag n) + 7) / 8
def numL (n : Int) : List UInt8 := UInt8.ofNat (numSize n) :: lowL (Lib.zigzag n) (numSize n)
def putL (l : List Int) : List UInt8 := l.flatMap numL
theorem bitLenAux_le : ∀ (f x : Nat), Lib.bitLenAux f x ≤ f
  | 0, _ => by simp [Lib.bitLenAux]
  | f + 1, x => by
    simp only [Lib.bitLenAux]
    split
    · omega
    · have := bitLenAux_le f (x / 2)
      omega
theorem bitLen_le (x : Nat) : Lib.bitLen x ≤ 64 := bitLenAux_le 64 x
theorem numSize_le (n : Int) : numSize n ≤ 8 := by
  unfold numSize
  have := bitLen_le (Lib.zigzag n)
  omega
theorem numL_length (n : Int) : (numL n).length = 1 + numSize n := by simp [numL, lowL_length]; omega
theorem putL_take_succ (l : List Int) (k : Nat) (h : k < l.length) : putL (l.take (k + 1)) = putL (l.take k) ++ numL l[k] := by
  rw [List.take_succ_eq_append_getElem h]
  unfold putL
  rw [List.flatMap_append]
  simp
theorem putL_length_le (l : List Int) : (putL l).length ≤ 9 * l.length := by
  induction l with
  | nil => simp [putL]
  | cons a l ih =>
    have h1 := numL_length a
    have h2 := numSize_le a
    simp only [putL, List.flatMap_cons, List.length_append, List.length_cons] at *
    omega
end Go.Proofs.YtepflhniomineaaGreat
