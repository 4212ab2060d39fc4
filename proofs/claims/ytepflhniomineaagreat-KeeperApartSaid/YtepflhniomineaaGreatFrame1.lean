/- frame.low. -/
import Derived.Test.YtepflhniomineaaGreatTape3
import Derived.Test.YtepflhniomineaaGreatFrameS
namespace Go.Proofs.YtepflhniomineaaGreat
open Go.RowKit
def OwnOut (w : World) (e : TypeId) (size : Nat) (A : Option Addr) (cap n : Nat) (xs : List Value) (en : Ending) (w' : World) : Prop :=
  ∃ A' c', en = .returned (.slice A' n c') ∧ Own w' (newFp (ownIn A cap) w w') e size A' n c' xs ∧ Keep (ownIn A cap) w w'
theorem Own.self {w : World} {F : Nat → Prop} {e size : Nat} {A : Option Addr} {n cap : Nat} {xs : List Value} (h : Own w F e size A n cap xs) : Own w (ownIn A cap) e size A n cap xs := by
  obtain ⟨h1, h2, h3, h0 | ⟨g, cur, rfl, hF, h6⟩⟩ := h
  · exact ⟨h1, h2, h3, .inl h0⟩
  · by_cases hc : cap = 0
    · exact ⟨h1, h2, h3, .inl hc⟩
    · exact ⟨h1, h2, h3, .inr ⟨g, cur, rfl, ⟨hc, ⟨g, 0, none⟩, rfl, rfl⟩, h6⟩⟩
theorem byte_cast (u k : Nat) : ((u : Int) / 2 ^ (8 * k) % 256) = ((byteAt u k).toNat : Int) := by
  unfold byteAt
  rw [UInt8.toNat_ofNat', Int.natCast_emod, Int.natCast_ediv, Int.natCast_pow]
  rfl
set_option maxRecDepth 100000 in
set_option maxHeartbeats 1000000 in
theorem low_any (F : Nat → Prop) (A : Option Addr) (m cap : Nat) (l : List UInt8) (u n : Nat) (w : World) (h : Own w F 5 1 A m cap (l.map bv)) (hm : Few (m + n)) (hu : u < 2 ^ 64) (hn : n ≤ 8) :
    Calls Tryz.prog 87 #[.slice A m cap, .int .u64 u, .int .i64 n] w (OwnOut w 5 1 A cap (m + n) ((l ++ lowL u n).map bv)) := by
  obtain ⟨i0, hi, iz0, iz1, iz2⟩ := info_parts Tryz.info5
  have H := Lib.hid h.self
  have h0 : 0 ≤ (u : Int) := Int.natCast_nonneg _
  have hu' : (u : Int) ≤ 18446744073709551615 := by omega
  have HM : m + n ≤ 16777216 := hm
  clear h hu
  go_enter Tryz.func87, Tryz.ntmps87
  go_wp2
  go_loopw [0, 9] (fun o i wr => ∃ (k : Nat) (A' : Option Addr) (c' : Nat), k ≤ n ∧ i = .int .i64 k ∧ o = .slice A' (m + k) c' ∧ Hid (Own wr (newFp (ownIn A cap) w wr) 5 1 A' (m + k) c' ((l ++ lowL u k).map bv) ∧ Keep (ownIn A cap) w wr)) (fun _ i _ => n - (intOf i).toNat)
  case atStart => exact ⟨0, A, cap, Nat.zero_le _, rfl, rfl, by simpa [lowL] using H.out.mono fun k _ hk => .inl hk, Keep.refl _ _⟩
  case round =>
    obtain ⟨k, A', c', hk, rfl, rfl, HR⟩ := hrel
    by_cases hlt : k < n
    · have HB := Lib.hid (byte_cast u k)
      go_wp2_with (at_builtin; go_must (refine wpList_append_Own (F := newFp (ownIn A cap) w wr) (A := A') (n := m + k) (cap := c') (xs := (l ++ lowL u k).map bv) (size := 1) rfl (.tmp 12) (.tmp 18) 87 87 rfl 5 i0 (.int .u8 0) 1 Tryz.underlying87 hi iz0 iz1 iz2 rfl rfl (HR.out.1.alloc _) 1 [bv (byteAt u k)] ?c1 ?c2 ?c3 ?_))
      case c1 => exact (Rd.new _ _ _ _ rfl).src Tryz.underlying87 1 1 (by simp) (by omega) (oneCell_bv [byteAt u k])
      case c2 => unfold maxLen; omega
      case c3 => omega
      intro A1 c1 w1 hown hK1 _
      have hz1 := hK1.size
      have hz2 := HR.out.2.size
      simp only [World.size_alloc] at hz1
      go_wp2
      go_roundw
      case rel =>
        refine ⟨k + 1, A1, c1, by omega, by go_num, by rw [Nat.add_assoc], ?_, ?_⟩
        · have h3 := hown.mono (F' := newFp (ownIn A cap) w w1) fun q hq hF => ?_
          · simpa [lowL_succ, Nat.add_assoc] using h3
          rcases hF with (hF | hF) | hF
          · exact .inl hF
          · exact .inr ⟨hF.1, hq⟩
          · exact .inr ⟨by omega, hq⟩
        · refine (HR.out.2.alloc _).trans hK1 fun b hb hS => ?_
          rcases ownIn_blk (HR.out.1) hS with hS | hS
          · exact hS
          · omega
      case measure => simp [intOf]; omega
    · have hkn : k = n := by omega
      subst hkn
      go_wp2
      go_ret
      exact ⟨A', c', rfl, HR.out.1, HR.out.2⟩
end Go.Proofs.YtepflhniomineaaGreat
