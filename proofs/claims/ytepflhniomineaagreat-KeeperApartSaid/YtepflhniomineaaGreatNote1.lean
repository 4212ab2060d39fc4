/- note.shapeOf. -/
import Derived.Test.YtepflhniomineaaGreatPrep
namespace Go.Proofs.YtepflhniomineaaGreat
open Go.RowKit
/-- least, most, by; most = 0: there is no such kind. -/
def shapeL (k : Int) : Int × Int × Int :=
  if k = 1 then (4, 4, 1) else if k = 4 then (4, 4, 1) else if k = 9 then (4, 4, 1) else if k = 2 then (7, 39, 1) else if k = 3 then (4, 36, 1) else if k = 5 then (7, 7, 1) else if k = 6 then (1, 25, 2)
  else if k = 7 then (2, 26, 2) else if k = 8 then (6, 6, 1) else (0, 0, 0)
def shV (s : Int × Int × Int) : Value := .agg #[.int .i64 s.1, .int .i64 s.2.1, .int .i64 s.2.2]
def ShapeOut (k : Int) (w : World) (e : Ending) (w' : World) : Prop := e = .returned (.tuple #[shV (shapeL k), .bool (decide ((shapeL k).2.1 ≠ 0))]) ∧ Below w.heap.size w w'
set_option maxRecDepth 100000 in
set_option maxHeartbeats 1000000 in
theorem shapeOf_any (k : Int) (w : World) : Calls Tryz.prog 123 #[.int .i64 k] w (ShapeOut k w) := by
  have HK := Lib.hid (Blk.at_ w 225 #[.int .i64 0, .int .i64 0, .int .i64 0] _ rfl)
  by_cases h1 : k = 1
  · subst h1
    go_enter Tryz.func123, Tryz.ntmps123
    go_wp2_with (refine wpList_store_blk rfl 225 (.tmp 2) (.tmp 9) rfl rfl rfl HK.out (shV (shapeL 1)) rfl (by kernel_rfl) rfl rfl ?_)
    intro w2 hk2 hK2 hz2
    go_wp2_with fail
    refine bodyPost_ret (results_blk_tmp rfl _ _ rfl hk2 Tryz.underlying225 rfl (by kernel_rfl)) rfl ?_
    exact ⟨rfl, ((Below.refl _ w).alloc (Nat.le_refl _) _).trans (hK2.below (by simp) (by omega))⟩
  by_cases h4 : k = 4
  · subst h4
    go_enter Tryz.func123, Tryz.ntmps123
    go_wp2_with (refine wpList_store_blk rfl 225 (.tmp 2) (.tmp 9) rfl rfl rfl HK.out (shV (shapeL 4)) rfl (by kernel_rfl) rfl rfl ?_)
    intro w2 hk2 hK2 hz2
    go_wp2_with fail
    refine bodyPost_ret (results_blk_tmp rfl _ _ rfl hk2 Tryz.underlying225 rfl (by kernel_rfl)) rfl ?_
    exact ⟨rfl, ((Below.refl _ w).alloc (Nat.le_refl _) _).trans (hK2.below (by simp) (by omega))⟩
  by_cases h9 : k = 9
  · subst h9
    go_enter Tryz.func123, Tryz.ntmps123
    go_wp2_with (refine wpList_store_blk rfl 225 (.tmp 2) (.tmp 9) rfl rfl rfl HK.out (shV (shapeL 9)) rfl (by kernel_rfl) rfl rfl ?_)
    intro w2 hk2 hK2 hz2
    go_wp2_with fail
    refine bodyPost_ret (results_blk_tmp rfl _ _ rfl hk2 Tryz.underlying225 rfl (by kernel_rfl)) rfl ?_
    exact ⟨rfl, ((Below.refl _ w).alloc (Nat.le_refl _) _).trans (hK2.below (by simp) (by omega))⟩
  by_cases h2 : k = 2
  · subst h2
    go_enter Tryz.func123, Tryz.ntmps123
    go_wp2_with (refine wpList_store_blk rfl 225 (.tmp 2) (.tmp 12) rfl rfl rfl HK.out (shV (shapeL 2)) rfl (by kernel_rfl) rfl rfl ?_)
    intro w2 hk2 hK2 hz2
    go_wp2_with fail
    refine bodyPost_ret (results_blk_tmp rfl _ _ rfl hk2 Tryz.underlying225 rfl (by kernel_rfl)) rfl ?_
    exact ⟨rfl, ((Below.refl _ w).alloc (Nat.le_refl _) _).trans (hK2.below (by simp) (by omega))⟩
  by_cases h3 : k = 3
  · subst h3
    go_enter Tryz.func123, Tryz.ntmps123
    go_wp2_with (refine wpList_store_blk rfl 225 (.tmp 2) (.tmp 15) rfl rfl rfl HK.out (shV (shapeL 3)) rfl (by kernel_rfl) rfl rfl ?_)
    intro w2 hk2 hK2 hz2
    go_wp2_with fail
    refine bodyPost_ret (results_blk_tmp rfl _ _ rfl hk2 Tryz.underlying225 rfl (by kernel_rfl)) rfl ?_
    exact ⟨rfl, ((Below.refl _ w).alloc (Nat.le_refl _) _).trans (hK2.below (by simp) (by omega))⟩
  by_cases h5 : k = 5
  · subst h5
    go_enter Tryz.func123, Tryz.ntmps123
    go_wp2_with (refine wpList_store_blk rfl 225 (.tmp 2) (.tmp 18) rfl rfl rfl HK.out (shV (shapeL 5)) rfl (by kernel_rfl) rfl rfl ?_)
    intro w2 hk2 hK2 hz2
    go_wp2_with fail
    refine bodyPost_ret (results_blk_tmp rfl _ _ rfl hk2 Tryz.underlying225 rfl (by kernel_rfl)) rfl ?_
    exact ⟨rfl, ((Below.refl _ w).alloc (Nat.le_refl _) _).trans (hK2.below (by simp) (by omega))⟩
  by_cases h6 : k = 6
  · subst h6
    go_enter Tryz.func123, Tryz.ntmps123
    go_wp2_with (refine wpList_store_blk rfl 225 (.tmp 2) (.tmp 21) rfl rfl rfl HK.out (shV (shapeL 6)) rfl (by kernel_rfl) rfl rfl ?_)
    intro w2 hk2 hK2 hz2
    go_wp2_with fail
    refine bodyPost_ret (results_blk_tmp rfl _ _ rfl hk2 Tryz.underlying225 rfl (by kernel_rfl)) rfl ?_
    exact ⟨rfl, ((Below.refl _ w).alloc (Nat.le_refl _) _).trans (hK2.below (by simp) (by omega))⟩
  by_cases h7 : k = 7
  · subst h7
    go_enter Tryz.func123, Tryz.ntmps123
    go_wp2_with (refine wpList_store_blk rfl 225 (.tmp 2) (.tmp 24) rfl rfl rfl HK.out (shV (shapeL 7)) rfl (by kernel_rfl) rfl rfl ?_)
    intro w2 hk2 hK2 hz2
    go_wp2_with fail
    refine bodyPost_ret (results_blk_tmp rfl _ _ rfl hk2 Tryz.underlying225 rfl (by kernel_rfl)) rfl ?_
    exact ⟨rfl, ((Below.refl _ w).alloc (Nat.le_refl _) _).trans (hK2.below (by simp) (by omega))⟩
  by_cases h8 : k = 8
  · subst h8
    go_enter Tryz.func123, Tryz.ntmps123
    go_wp2_with (refine wpList_store_blk rfl 225 (.tmp 2) (.tmp 27) rfl rfl rfl HK.out (shV (shapeL 8)) rfl (by kernel_rfl) rfl rfl ?_)
    intro w2 hk2 hK2 hz2
    go_wp2_with fail
    refine bodyPost_ret (results_blk_tmp rfl _ _ rfl hk2 Tryz.underlying225 rfl (by kernel_rfl)) rfl ?_
    exact ⟨rfl, ((Below.refl _ w).alloc (Nat.le_refl _) _).trans (hK2.below (by simp) (by omega))⟩
  have HS : Hid (shapeL k = (0, 0, 0)) := by simp [Hid, shapeL, *]
  unfold ShapeOut
  rw [HS.out]
  go_enter Tryz.func123, Tryz.ntmps123
  go_wp2_with (refine wpList_store_blk rfl 225 (.tmp 2) (.tmp 28) rfl rfl rfl HK.out (shV (0, 0, 0)) rfl (by kernel_rfl) rfl rfl ?_)
  intro w2 hk2 hK2 hz2
  go_wp2_with fail
  refine bodyPost_ret (results_blk_tmp rfl _ _ rfl hk2 Tryz.underlying225 rfl (by kernel_rfl)) rfl ?_
  exact ⟨rfl, ((Below.refl _ w).alloc (Nat.le_refl _) _).trans (hK2.below (by simp) (by omega))⟩
end Go.Proofs.YtepflhniomineaaGreat
