/- KeeperNone: the walk. -/
import Derived.Test.YtepflhniomineaaGreatNone1
namespace Go.Proofs.YtepflhniomineaaGreat
open Go.RowKit
set_option maxRecDepth 100000 in
set_option maxHeartbeats 2000000 in
theorem same_zero (A B : Option Addr) (c c' : Nat) (w : World) : Calls Tryz.prog 53 #[Reg.zero.v A c, Reg.zero.v B c'] w (BoolIs true w) := by
  have hq := fun w => run_neq_ballot 0 0 0 0 0 0 w
  go_enter Tryz.func53, Tryz.ntmps53
  go_wp2_with fail
  refine wp_loop_rounds 1 ?_
  rw [rounds_succ]
  go_wp2_with fail
  go_ret
  exact ⟨by simp, ((Below.refl _ w).alloc (Nat.le_refl _) _).alloc (by simp) _⟩
set_option maxRecDepth 100000 in
set_option maxHeartbeats 2000000 in
theorem none_any (n : NoteM) (p : NoteAt) (w : World) : Calls Tryz.prog 7 #[n.v p] w (BoolIs true w) := by
  have hq := fun w => eql_errno 5 5 w
  have HV : Hid (n.v p = .agg #[.int .i64 n.kind, .int .i64 n.from_, .int .i64 n.to, .slice p.an n.nums.length p.cn, .slice p.ao n.ops.length p.co, .slice p.ae n.nent p.ce]) := rfl
  rw [HV.out]
  go_enter Tryz.func7, Tryz.ntmps7
  go_wp2_with fail
  refine (alive_any _).mono ?_
  rintro e w1 ⟨rfl, hb1⟩
  obtain ⟨k0, k1, k2, k3, k4, k5, kf⟩ := ((Blk.at_ w 30 #[.int .i64 n.kind, .int .i64 n.from_, .int .i64 n.to, .slice p.an n.nums.length p.cn, .slice p.ao n.ops.length p.co, .slice p.ae n.nent p.ce] _ rfl).below hb1 (by simp)).cells6
  have HB1 := Lib.hid (bstep ((Below.refl _ w).alloc (Nat.le_refl _) (.cells #[.int .i64 n.kind, .int .i64 n.from_, .int .i64 n.to, .slice p.an n.nums.length p.cn, .slice p.ao n.ops.length p.co, .slice p.ae n.nent p.ce] 30)) hb1)
  clear hb1
  go_wp2_with fail
  refine (kopen_nil 0 _ (by omega) (by omega)).mono ?_
  rintro e w2 ⟨rfl, rfl⟩
  rw [errV_down]
  go_wp2_with fail
  refine (handle_nil n p _).mono ?_
  rintro e w3 ⟨rfl, hb3⟩
  have HB3 := Lib.hid (bstep HB1.out hb3)
  clear hb3
  go_wp2_with fail
  refine (register_nil 0 _).mono ?_
  rintro e w4 ⟨A', c', rfl, _, _, hb4⟩
  have HB4 := Lib.hid (bstep HB3.out hb4)
  clear hb4
  go_wp2_with fail
  refine (same_zero A' none c' 0 _).mono ?_
  rintro e w5 ⟨rfl, hb5⟩
  have HB5 := Lib.hid (bstep HB4.out hb5)
  clear hb5
  go_wp2_with fail
  refine (rows_nil _).mono ?_
  rintro e w6 ⟨rfl, rfl⟩
  go_wp2_with fail
  go_ret
  exact ⟨by simp, HB5.out⟩
end Go.Proofs.YtepflhniomineaaGreat
