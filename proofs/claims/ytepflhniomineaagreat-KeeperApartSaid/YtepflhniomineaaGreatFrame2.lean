/- frame.Sum of one part. -/
import Derived.Test.YtepflhniomineaaGreatFrame1
namespace Go.Proofs.YtepflhniomineaaGreat
open Go.RowKit
def sumStep (s c : Int) : Int := bits .xor .u32 s (c % 4294967296) * 16777619 % 4294967296
def sumL (l : List UInt8) : Int := l.foldl (fun s c => sumStep s c.toNat) 2166136261
theorem sumL_snoc (p : List UInt8) (k : Nat) (h : k < p.length) : sumL (p.take (k + 1)) = bits .xor .u32 (sumL (p.take k)) ((p[k].toNat : Int) % 4294967296) * 16777619 % 4294967296 := by
  rw [List.take_succ_eq_append_getElem h]
  unfold sumL
  rw [List.foldl_append]
  rfl
theorem sumStep_bd (s c : Int) : 0 ≤ sumStep s c ∧ sumStep s c < 4294967296 := by unfold sumStep; omega
theorem sumL_bd (p : List UInt8) : 0 ≤ sumL p ∧ sumL p < 4294967296 := by
  unfold sumL
  rcases List.eq_nil_or_concat p with rfl | ⟨l, c, rfl⟩
  · decide
  · rw [List.concat_eq_append, List.foldl_append]
    exact sumStep_bd _ _
set_option maxRecDepth 100000 in
set_option maxHeartbeats 1000000 in
theorem fsum_any (F Fg : Nat → Prop) (Ap Af : Option Addr) (cf : Nat) (p : List UInt8) (w : World) (hp : Rd w F 5 Af (p.map bv)) (hg : Rd w Fg 87 Ap [.slice Af p.length cf]) (hm : Few p.length) :
    Calls Tryz.prog 88 #[.slice Ap 1 1] w fun e w' => e = .returned (.int .u32 (sumL p)) ∧ w = w' := by
  obtain ⟨gp, op, rfl, hgl, _, hgc⟩ := hg.at_ (j := 0) (by simp)
  have hg0 := hgc 0 _ rfl
  simp only [Nat.add_zero] at hg0
  have HP := Lib.hid hp
  have HM : p.length ≤ 16777216 := hm
  clear hgc hg hp
  go_enter Tryz.func88, Tryz.ntmps88
  go_wp2_with fail
  refine wp_loop_rounds 2 ?_
  rw [rounds_succ]
  go_wp2_with fail
  go_loop [3, 16] (fun s i => ∃ k : Nat, k ≤ p.length ∧ i = .int .i64 k ∧ s = .int .u32 (sumL (p.take k))) (fun _ i => p.length - (intOf i).toNat)
  case atStart => exact ⟨0, Nat.zero_le _, rfl, rfl⟩
  case round =>
    obtain ⟨k, hk, rfl, rfl⟩ := hrel
    by_cases hlt : k < p.length
    · obtain ⟨g, off, rfl, _, _, hc⟩ := HP.out.at_ (j := k) (by simpa using hlt)
      have hck := hc k (bv p[k]) (by simp [hlt])
      clear hc
      have HS := Lib.hid (sumL_snoc p k hlt)
      go_wp2_with fail
      go_round
      case rel => exact ⟨k + 1, by omega, by go_num, by rw [HS.out]⟩
      case measure => simp [intOf]; omega
    · have hkn : k = p.length := by omega
      subst hkn
      go_wp2_with fail
      rw [rounds_succ]
      go_wp2_with fail
      go_ret
      exact ⟨by simp, rfl⟩
end Go.Proofs.YtepflhniomineaaGreat
