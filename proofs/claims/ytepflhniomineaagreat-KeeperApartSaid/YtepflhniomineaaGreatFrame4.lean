/- Numbers as bytes: turned. -/
import Derived.Test.YtepflhniomineaaGreatFrame3
import Derived.Lib.Zigzag
namespace Go.Proofs.YtepflhniomineaaGreat
open Go.RowKit
theorem xor_comm_u64 (a b : Int) : bits .xor .u64 a b = bits .xor .u64 b a := by
  show IntKind.u64.wrap ((BitVec.ofInt 64 a ^^^ BitVec.ofInt 64 b).toNat : Int) = IntKind.u64.wrap ((BitVec.ofInt 64 b ^^^ BitVec.ofInt 64 a).toNat : Int)
  rw [BitVec.xor_comm]
theorem xor_zero_u64 (a : Int) (h0 : 0 ≤ a) (h1 : a < 18446744073709551616) : bits .xor .u64 a 0 = a := by
  show IntKind.u64.wrap ((BitVec.ofInt 64 a ^^^ BitVec.ofInt 64 0).toNat : Int) = a
  rw [show BitVec.ofInt 64 0 = 0#64 from rfl, BitVec.xor_zero, BitVec.toNat_ofInt, IntKind.wrap_u64]
  omega
theorem turned_eq {n : Int} (h : In64 n) : bits .xor .u64 (IntKind.u64.wrap (IntKind.u64.wrap n * 2)) (IntKind.u64.wrap (n / 9223372036854775808)) = ((Lib.zigzag n : Nat) : Int) := by
  obtain ⟨h1, h2⟩ := h
  rcases Int.lt_or_le n 0 with hn | hn
  · have e : IntKind.u64.wrap (n / 9223372036854775808) = IntKind.u64.max := by rw [IntKind.wrap_u64, show n / 9223372036854775808 = -1 from by omega]; decide
    rw [e, xor_comm_u64]
    exact Lib.zigzag_neg h1 hn
  · have e : IntKind.u64.wrap (n / 9223372036854775808) = 0 := by rw [IntKind.wrap_u64, show n / 9223372036854775808 = 0 from by omega]; decide
    have e2 : IntKind.u64.wrap (IntKind.u64.wrap n * 2) = n * 2 := by rw [IntKind.wrap_u64, IntKind.wrap_u64]; omega
    rw [e, e2, xor_zero_u64 _ (by omega) (by omega), Lib.zigzag_nonneg hn]
theorem turned_any (n : Int) (w : World) (h : In64 n) : Calls Tryz.prog 144 #[.int .i64 n] w fun e w' => e = .returned (.int .u64 (Lib.zigzag n : Nat)) ∧ w = w' := by
  have H := Lib.hid (turned_eq h)
  unfold In64 at h
  obtain ⟨h1, h2⟩ := h
  go_enter Tryz.func144, Tryz.ntmps144
  go_wp2
  go_ret
  exact ⟨ret_int H.out, rfl⟩
end Go.Proofs.YtepflhniomineaaGreat
