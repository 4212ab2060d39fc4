/- Plain facts on int. -/
import Derived.IntWalk
import Derived.Laws.BitsAllLaws
import Derived.Laws.BitsLemmas
import Derived.Below
namespace Go.Proofs.YtepflhniomineaaGreat
open Go.RowKit
def In64 (x : Int) : Prop := -9223372036854775808 ≤ x ∧ x ≤ 9223372036854775807
theorem wrap_toInt (x : BitVec 64) : IntKind.i64.wrap (x.toNat : Int) = x.toInt := by
  rw [IntKind.wrap_i64, BitVec.toInt_eq_toNat_cond]
  have := x.isLt
  split <;> omega
theorem in64_wrap (x : Int) : In64 (IntKind.i64.wrap x) := by
  rw [IntKind.wrap_i64]; unfold In64; omega
theorem toInt_ofInt {a : Int} (h : In64 a) : (BitVec.ofInt 64 a).toInt = a := by
  unfold In64 at h
  rw [BitVec.toInt_ofInt]
  exact Int.bmod_eq_of_le (by omega) (by omega)
theorem or_nonneg {a b : Int} (ha : In64 a) (hb : In64 b) : (0 ≤ bits .or .i64 a b) ↔ 0 ≤ a ∧ 0 ≤ b := by
  have e : bits .or .i64 a b = (BitVec.ofInt 64 a ||| BitVec.ofInt 64 b).toInt := by rw [← wrap_toInt]; rfl
  have h1 := BitVec.msb_eq_toInt (x := BitVec.ofInt 64 a)
  have h2 := BitVec.msb_eq_toInt (x := BitVec.ofInt 64 b)
  have h3 := BitVec.msb_eq_toInt (x := BitVec.ofInt 64 a ||| BitVec.ofInt 64 b)
  rw [BitVec.msb_or] at h3
  rw [toInt_ofInt ha] at h1
  rw [toInt_ofInt hb] at h2
  rw [h1, h2, ← e] at h3
  have h4 : (decide (a < 0) || decide (b < 0)) = true ↔ bits .or .i64 a b < 0 := by rw [h3]; simp
  simp at h4
  omega
theorem in64_bits (o : BinOp) (a b : Int) : In64 (bits o .i64 a b) := by
  cases o <;> exact in64_wrap _
end Go.Proofs.YtepflhniomineaaGreat
