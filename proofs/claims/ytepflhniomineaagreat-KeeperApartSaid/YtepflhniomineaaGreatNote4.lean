/- note.Check, on. -/
import Derived.Test.YtepflhniomineaaGreatNote3
namespace Go.Proofs.YtepflhniomineaaGreat
open Go.RowKit
set_option maxRecDepth 100000 in
set_option maxHeartbeats 20000000 in
theorem ncheck_B (F : Nat → Prop) (n : NoteM) (p : NoteAt) (w : World) (h : NoteR w F n p) (hs : n.small) (hok : n.ok1 = true ∧ n.ok2 = true) (a9 : 16 < n.ops.length) : Calls Tryz.prog 69 #[n.v p] w (ErrIs n.err w) := by
  have H := Lib.hid h
  have HSM := Lib.hid hs
  have hbd := shapeL_bd n.kind
  have HSL : Hid (n.ok1 = (decide ((shapeL n.kind).2.1 ≠ 0) && decide (0 ≤ n.from_) && decide (n.from_ ≤ 999) && decide (0 ≤ n.to) && decide (n.to ≤ 999)) ∧ n.ok2 = (decide ((shapeL n.kind).1 ≤ n.nums.length) && decide ((n.nums.length : Int) ≤ (shapeL n.kind).2.1) && decide (((n.nums.length : Int) - (shapeL n.kind).1) % (shapeL n.kind).2.2 = 0))) := ⟨rfl, rfl⟩
  generalize hsh : shapeL n.kind = sh at hbd HSL
  obtain ⟨a, b, c⟩ := sh
  have HS := Lib.hid hsh
  simp only at hbd HSL
  clear h hs hsh
  obtain ⟨b1, b2, b3, b4, b5, b6, b7⟩ := hbd
  unfold NoteM.v
  have HOK := Lib.hid hok
  clear hok
  have hk1 := HOK.out.1
  have hk2 := HOK.out.2
  rw [HSL.out.1] at hk1
  rw [HSL.out.2] at hk2
  simp only [Bool.and_eq_true, decide_eq_true_eq] at hk1 hk2
  obtain ⟨⟨⟨⟨a1, a2⟩, a3⟩, a4⟩, a5⟩ := hk1
  obtain ⟨⟨a6, a7⟩, a8⟩ := hk2
  have a1 : ¬ b = 0 := a1
  have a2 : ¬ n.from_ < 0 := by omega
  have a3 : ¬ 999 < n.from_ := by omega
  have a4 : ¬ n.to < 0 := by omega
  have a5 : ¬ 999 < n.to := by omega
  have a6 : ¬ (n.nums.length : Int) < a := by omega
  have a7 : ¬ b < (n.nums.length : Int) := by omega
  have HG : Hid (n.err = 2) := by simp [Hid, NoteM.err, NoteM.good, NoteM.ok3, Nat.not_le.2 a9]
  rw [HG.out]
  have hbd0 : decide (b ≠ 0) = true := by simp [a1]
  have hbb : (b != 0) = true := by simp [a1]
  have b8 := b7 a1
  have b9 : ¬ c = 0 := by omega
  have b10 : (((n.nums.length : Int) - a) % c != 0) = false := by simp [a8]
  go_enter Tryz.func69, Tryz.ntmps69
  go_wp2_with fail
  refine (shapeOf_any n.kind _).mono ?_
  rintro e w1 ⟨rfl, hb1⟩
  have HB1 := Lib.hid (bstep ((Below.refl _ w).alloc (Nat.le_refl _) _) hb1)
  have hz1 := hb1.size
  simp only [World.size_alloc] at hz1
  have hlt1 : w.heap.size < w1.heap.size := by omega
  obtain ⟨k0, k1, k2, k3, k4, k5, kf⟩ := ((Blk.at_ w 30 #[.int .i64 n.kind, .int .i64 n.from_, .int .i64 n.to, .slice p.an n.nums.length p.cn, .slice p.ao n.ops.length p.co, .slice p.ae n.nent p.ce] _ rfl).below hb1 (by simp)).cells6
  clear hb1
  rw [HS.out]
  unfold shV
  go_wp2_with fail
  go_ret
  exact ⟨by simp [errV_two], HB1.out.trans ((Below.refl _ _).alloc (by omega) _)⟩
set_option maxRecDepth 100000 in
set_option maxHeartbeats 4000000 in
theorem ncheck_C1 (F : Nat → Prop) (n : NoteM) (p : NoteAt) (w : World) (h : NoteR w F n p) (hs : n.small) (hok : n.ok1 = true ∧ n.ok2 = true) (a9 : ¬ 16 < n.ops.length) (a10 : 0 < n.ops.length) (hk : ¬ n.kind = 7) (hgr : n.err = 2) : Calls Tryz.prog 69 #[n.v p] w (ErrIs n.err w) := by
  have H := Lib.hid h
  have HSM := Lib.hid hs
  have hbd := shapeL_bd n.kind
  have HSL : Hid (n.ok1 = (decide ((shapeL n.kind).2.1 ≠ 0) && decide (0 ≤ n.from_) && decide (n.from_ ≤ 999) && decide (0 ≤ n.to) && decide (n.to ≤ 999)) ∧ n.ok2 = (decide ((shapeL n.kind).1 ≤ n.nums.length) && decide ((n.nums.length : Int) ≤ (shapeL n.kind).2.1) && decide (((n.nums.length : Int) - (shapeL n.kind).1) % (shapeL n.kind).2.2 = 0))) := ⟨rfl, rfl⟩
  generalize hsh : shapeL n.kind = sh at hbd HSL
  obtain ⟨a, b, c⟩ := sh
  have HS := Lib.hid hsh
  simp only at hbd HSL
  clear h hs hsh
  obtain ⟨b1, b2, b3, b4, b5, b6, b7⟩ := hbd
  unfold NoteM.v
  have HOK := Lib.hid hok
  clear hok
  have hk1 := HOK.out.1
  have hk2 := HOK.out.2
  rw [HSL.out.1] at hk1
  rw [HSL.out.2] at hk2
  simp only [Bool.and_eq_true, decide_eq_true_eq] at hk1 hk2
  obtain ⟨⟨⟨⟨a1, a2⟩, a3⟩, a4⟩, a5⟩ := hk1
  obtain ⟨⟨a6, a7⟩, a8⟩ := hk2
  have a1 : ¬ b = 0 := a1
  have a2 : ¬ n.from_ < 0 := by omega
  have a3 : ¬ 999 < n.from_ := by omega
  have a4 : ¬ n.to < 0 := by omega
  have a5 : ¬ 999 < n.to := by omega
  have a6 : ¬ (n.nums.length : Int) < a := by omega
  have a7 : ¬ b < (n.nums.length : Int) := by omega
  have HG := Lib.hid hgr
  clear hgr
  rw [HG.out]
  have hbd0 : decide (b ≠ 0) = true := by simp [a1]
  have hbb : (b != 0) = true := by simp [a1]
  have b8 := b7 a1
  have b9 : ¬ c = 0 := by omega
  have b10 : (((n.nums.length : Int) - a) % c != 0) = false := by simp [a8]
  have b11 : (n.kind != 7) = true := by simpa using hk
  clear hk
  go_enter Tryz.func69, Tryz.ntmps69
  go_wp2_with fail
  refine (shapeOf_any n.kind _).mono ?_
  rintro e w1 ⟨rfl, hb1⟩
  have HB1 := Lib.hid (bstep ((Below.refl _ w).alloc (Nat.le_refl _) _) hb1)
  have hz1 := hb1.size
  simp only [World.size_alloc] at hz1
  have hlt1 : w.heap.size < w1.heap.size := by omega
  obtain ⟨k0, k1, k2, k3, k4, k5, kf⟩ := ((Blk.at_ w 30 #[.int .i64 n.kind, .int .i64 n.from_, .int .i64 n.to, .slice p.an n.nums.length p.cn, .slice p.ao n.ops.length p.co, .slice p.ae n.nent p.ce] _ rfl).below hb1 (by simp)).cells6
  clear hb1
  rw [HS.out]
  unfold shV
  go_wp2_with fail
  go_ret
  exact ⟨by simp [errV_two], HB1.out.trans ((Below.refl _ _).alloc (by omega) _)⟩
set_option maxRecDepth 100000 in
set_option maxHeartbeats 4000000 in
theorem ncheck_C2 (F : Nat → Prop) (n : NoteM) (p : NoteAt) (w : World) (h : NoteR w F n p) (hs : n.small) (hok : n.ok1 = true ∧ n.ok2 = true) (a9 : ¬ 16 < n.ops.length) (a10 : 0 < n.ops.length) (hk : n.kind = 7) (a12 : 16 < n.nent) (hgr : n.err = 2) : Calls Tryz.prog 69 #[n.v p] w (ErrIs n.err w) := by
  have H := Lib.hid h
  have HSM := Lib.hid hs
  have hbd := shapeL_bd n.kind
  have HSL : Hid (n.ok1 = (decide ((shapeL n.kind).2.1 ≠ 0) && decide (0 ≤ n.from_) && decide (n.from_ ≤ 999) && decide (0 ≤ n.to) && decide (n.to ≤ 999)) ∧ n.ok2 = (decide ((shapeL n.kind).1 ≤ n.nums.length) && decide ((n.nums.length : Int) ≤ (shapeL n.kind).2.1) && decide (((n.nums.length : Int) - (shapeL n.kind).1) % (shapeL n.kind).2.2 = 0))) := ⟨rfl, rfl⟩
  generalize hsh : shapeL n.kind = sh at hbd HSL
  obtain ⟨a, b, c⟩ := sh
  have HS := Lib.hid hsh
  simp only at hbd HSL
  clear h hs hsh
  obtain ⟨b1, b2, b3, b4, b5, b6, b7⟩ := hbd
  unfold NoteM.v
  have HOK := Lib.hid hok
  clear hok
  have hk1 := HOK.out.1
  have hk2 := HOK.out.2
  rw [HSL.out.1] at hk1
  rw [HSL.out.2] at hk2
  simp only [Bool.and_eq_true, decide_eq_true_eq] at hk1 hk2
  obtain ⟨⟨⟨⟨a1, a2⟩, a3⟩, a4⟩, a5⟩ := hk1
  obtain ⟨⟨a6, a7⟩, a8⟩ := hk2
  have a1 : ¬ b = 0 := a1
  have a2 : ¬ n.from_ < 0 := by omega
  have a3 : ¬ 999 < n.from_ := by omega
  have a4 : ¬ n.to < 0 := by omega
  have a5 : ¬ 999 < n.to := by omega
  have a6 : ¬ (n.nums.length : Int) < a := by omega
  have a7 : ¬ b < (n.nums.length : Int) := by omega
  have HG := Lib.hid hgr
  clear hgr
  rw [HG.out]
  have hbd0 : decide (b ≠ 0) = true := by simp [a1]
  have hbb : (b != 0) = true := by simp [a1]
  have b8 := b7 a1
  have b9 : ¬ c = 0 := by omega
  have b10 : (((n.nums.length : Int) - a) % c != 0) = false := by simp [a8]
  have b11 : (n.kind != 7) = false := by simpa using hk
  clear hk
  go_enter Tryz.func69, Tryz.ntmps69
  go_wp2_with fail
  refine (shapeOf_any n.kind _).mono ?_
  rintro e w1 ⟨rfl, hb1⟩
  have HB1 := Lib.hid (bstep ((Below.refl _ w).alloc (Nat.le_refl _) _) hb1)
  have hz1 := hb1.size
  simp only [World.size_alloc] at hz1
  have hlt1 : w.heap.size < w1.heap.size := by omega
  obtain ⟨k0, k1, k2, k3, k4, k5, kf⟩ := ((Blk.at_ w 30 #[.int .i64 n.kind, .int .i64 n.from_, .int .i64 n.to, .slice p.an n.nums.length p.cn, .slice p.ao n.ops.length p.co, .slice p.ae n.nent p.ce] _ rfl).below hb1 (by simp)).cells6
  clear hb1
  rw [HS.out]
  unfold shV
  go_wp2_with fail
  go_ret
  exact ⟨by simp [errV_two], HB1.out.trans ((Below.refl _ _).alloc (by omega) _)⟩
set_option maxRecDepth 100000 in
set_option maxHeartbeats 4000000 in
theorem ncheck_C3 (F : Nat → Prop) (n : NoteM) (p : NoteAt) (w : World) (h : NoteR w F n p) (hs : n.small) (hok : n.ok1 = true ∧ n.ok2 = true) (a9 : ¬ 16 < n.ops.length) (a10 : ¬ 0 < n.ops.length) (a12 : 16 < n.nent) (hgr : n.err = 2) : Calls Tryz.prog 69 #[n.v p] w (ErrIs n.err w) := by
  have H := Lib.hid h
  have HSM := Lib.hid hs
  have hbd := shapeL_bd n.kind
  have HSL : Hid (n.ok1 = (decide ((shapeL n.kind).2.1 ≠ 0) && decide (0 ≤ n.from_) && decide (n.from_ ≤ 999) && decide (0 ≤ n.to) && decide (n.to ≤ 999)) ∧ n.ok2 = (decide ((shapeL n.kind).1 ≤ n.nums.length) && decide ((n.nums.length : Int) ≤ (shapeL n.kind).2.1) && decide (((n.nums.length : Int) - (shapeL n.kind).1) % (shapeL n.kind).2.2 = 0))) := ⟨rfl, rfl⟩
  generalize hsh : shapeL n.kind = sh at hbd HSL
  obtain ⟨a, b, c⟩ := sh
  have HS := Lib.hid hsh
  simp only at hbd HSL
  clear h hs hsh
  obtain ⟨b1, b2, b3, b4, b5, b6, b7⟩ := hbd
  unfold NoteM.v
  have HOK := Lib.hid hok
  clear hok
  have hk1 := HOK.out.1
  have hk2 := HOK.out.2
  rw [HSL.out.1] at hk1
  rw [HSL.out.2] at hk2
  simp only [Bool.and_eq_true, decide_eq_true_eq] at hk1 hk2
  obtain ⟨⟨⟨⟨a1, a2⟩, a3⟩, a4⟩, a5⟩ := hk1
  obtain ⟨⟨a6, a7⟩, a8⟩ := hk2
  have a1 : ¬ b = 0 := a1
  have a2 : ¬ n.from_ < 0 := by omega
  have a3 : ¬ 999 < n.from_ := by omega
  have a4 : ¬ n.to < 0 := by omega
  have a5 : ¬ 999 < n.to := by omega
  have a6 : ¬ (n.nums.length : Int) < a := by omega
  have a7 : ¬ b < (n.nums.length : Int) := by omega
  have HG := Lib.hid hgr
  clear hgr
  rw [HG.out]
  have hbd0 : decide (b ≠ 0) = true := by simp [a1]
  have hbb : (b != 0) = true := by simp [a1]
  have b8 := b7 a1
  have b9 : ¬ c = 0 := by omega
  have b10 : (((n.nums.length : Int) - a) % c != 0) = false := by simp [a8]
  go_enter Tryz.func69, Tryz.ntmps69
  go_wp2_with fail
  refine (shapeOf_any n.kind _).mono ?_
  rintro e w1 ⟨rfl, hb1⟩
  have HB1 := Lib.hid (bstep ((Below.refl _ w).alloc (Nat.le_refl _) _) hb1)
  have hz1 := hb1.size
  simp only [World.size_alloc] at hz1
  have hlt1 : w.heap.size < w1.heap.size := by omega
  obtain ⟨k0, k1, k2, k3, k4, k5, kf⟩ := ((Blk.at_ w 30 #[.int .i64 n.kind, .int .i64 n.from_, .int .i64 n.to, .slice p.an n.nums.length p.cn, .slice p.ao n.ops.length p.co, .slice p.ae n.nent p.ce] _ rfl).below hb1 (by simp)).cells6
  clear hb1
  rw [HS.out]
  unfold shV
  go_wp2_with fail
  go_ret
  exact ⟨by simp [errV_two], HB1.out.trans ((Below.refl _ _).alloc (by omega) _)⟩
end Go.Proofs.YtepflhniomineaaGreat
