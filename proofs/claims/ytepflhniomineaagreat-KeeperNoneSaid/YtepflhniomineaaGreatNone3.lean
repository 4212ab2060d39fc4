/- KeeperNone at any six cells. -/
import Derived.Test.YtepflhniomineaaGreatNone2
namespace Go.Proofs.YtepflhniomineaaGreat
open Go.RowKit
set_option maxRecDepth 100000 in
set_option maxHeartbeats 2000000 in
theorem handle_nil6 (c0 c1 c2 c3 c4 c5 : Value) (w : World) : Calls Tryz.prog 52 #[.pointer none, .agg #[c0, c1, c2, c3, c4, c5]] w (NilNotes w) := by
  go_enter Tryz.func52, Tryz.ntmps52
  go_wp2_with fail
  go_quiet (fail)
  go_wp2_with fail
  go_ret
  exact ⟨rfl, below_drewN ((Below.refl _ w).alloc (Nat.le_refl _) _) _⟩
set_option maxRecDepth 100000 in
set_option maxHeartbeats 2000000 in
theorem none_six (c0 c1 c2 c3 c4 c5 : Value) (w : World) : Calls Tryz.prog 7 #[.agg #[c0, c1, c2, c3, c4, c5]] w (BoolIs true w) := by
  have hq := fun w => eql_errno 5 5 w
  go_enter Tryz.func7, Tryz.ntmps7
  go_wp2_with fail
  refine (alive_any _).mono ?_
  rintro e w1 ⟨rfl, hb1⟩
  obtain ⟨k0, k1, k2, k3, k4, k5, kf⟩ := ((Blk.at_ w 30 #[c0, c1, c2, c3, c4, c5] _ rfl).below hb1 (by simp)).cells6
  have HB1 := Lib.hid (bstep ((Below.refl _ w).alloc (Nat.le_refl _) (.cells #[c0, c1, c2, c3, c4, c5] 30)) hb1)
  clear hb1
  go_wp2_with fail
  refine (kopen_nil 0 _ (by omega) (by omega)).mono ?_
  rintro e w2 ⟨rfl, rfl⟩
  rw [errV_down]
  go_wp2_with fail
  refine (handle_nil6 c0 c1 c2 c3 c4 c5 _).mono ?_
  rintro e w3 ⟨rfl, hb3⟩
  have HB3 := Lib.hid (bstep HB1.out hb3)
  clear hb3
  go_wp2_with fail
  refine (register_nil 0 _).mono ?_
  rintro e w4 ⟨A', cc', rfl, _, _, hb4⟩
  have HB4 := Lib.hid (bstep HB3.out hb4)
  clear hb4
  go_wp2_with fail
  refine (same_zero A' none cc' 0 _).mono ?_
  rintro e w5 ⟨rfl, hb5⟩
  have HB5 := Lib.hid (bstep HB4.out hb5)
  clear hb5
  go_wp2_with fail
  refine (rows_nil _).mono ?_
  rintro e w6 ⟨rfl, rfl⟩
  go_wp2_with fail
  go_ret
  exact ⟨by simp, HB5.out⟩
end Go.Proofs.YtepflhniomineaaGreat
