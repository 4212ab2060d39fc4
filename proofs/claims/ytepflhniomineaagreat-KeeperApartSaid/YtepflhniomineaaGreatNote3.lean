/- note.Check. -/
import Derived.Test.YtepflhniomineaaGreatNote2
namespace Go.Proofs.YtepflhniomineaaGreat
open Go.RowKit
structure NoteM where
  kind : Int
  from_ : Int
  to : Int
  nums : List Int
  ops : List OpM
  nent : Nat
/-- A note's value; where its slices stand. -/
structure NoteAt where
  an : Option Addr
  cn : Nat
  ao : Option Addr
  co : Nat
  ae : Option Addr
  ce : Nat
def NoteM.v (n : NoteM) (p : NoteAt) : Value := .agg #[.int .i64 n.kind, .int .i64 n.from_, .int .i64 n.to, .slice p.an n.nums.length p.cn, .slice p.ao n.ops.length p.co, .slice p.ae n.nent p.ce]
/-- What of a note is read. -/
structure NoteR (w : World) (F : Nat → Prop) (n : NoteM) (p : NoteAt) : Prop where
  nums : Rd w F 3 p.an (n.nums.map (Value.int .i64))
  ops : Rd w F 52 p.ao (n.ops.flatMap OpM.vs)
theorem NoteR.below {w w' : World} {F : Nat → Prop} {n : NoteM} {p : NoteAt} (h : NoteR w F n p) (hb : Below w.heap.size w w') : NoteR w' F n p := ⟨h.nums.below hb, h.ops.below hb⟩
def NoteM.small (n : NoteM) : Prop := (∀ x ∈ n.nums, In64 x) ∧ In64 n.kind ∧ In64 n.from_ ∧ In64 n.to ∧ n.nums.length ≤ 9223372036854775807 ∧ n.ops.length ≤ 9223372036854775807 ∧ n.nent ≤ 9223372036854775807
def NoteM.ok1 (n : NoteM) : Bool := decide ((shapeL n.kind).2.1 ≠ 0) && decide (0 ≤ n.from_) && decide (n.from_ ≤ 999) && decide (0 ≤ n.to) && decide (n.to ≤ 999)
def NoteM.ok2 (n : NoteM) : Bool := decide ((shapeL n.kind).1 ≤ n.nums.length) && decide ((n.nums.length : Int) ≤ (shapeL n.kind).2.1) && decide (((n.nums.length : Int) - (shapeL n.kind).1) % (shapeL n.kind).2.2 = 0)
def NoteM.ok3 (n : NoteM) : Bool := decide (n.ops.length ≤ 16) && (decide (n.ops.length = 0) || decide (n.kind = 7))
def NoteM.ok4 (n : NoteM) : Bool := decide (n.nent ≤ 16) && (decide (n.nent = 0) || decide (n.kind = 8))
def NoteM.good (n : NoteM) : Bool := n.ok1 && n.ok2 && n.ok3 && n.ok4 && !n.ops.any OpM.bad
def NoteM.err (n : NoteM) : Int := if n.good then 0 else 2
theorem Blk.cells6 {w : World} {g : Nat} {t : TypeId} {a0 a1 a2 a3 a4 a5 : Value} (h : Blk w g t #[a0, a1, a2, a3, a4, a5]) : w.cell? ⟨g, 0, none⟩ = some a0 ∧ w.cell? ⟨g, 1, none⟩ = some a1 ∧ w.cell? ⟨g, 2, none⟩ = some a2 ∧
    w.cell? ⟨g, 3, none⟩ = some a3 ∧ w.cell? ⟨g, 4, none⟩ = some a4 ∧ w.cell? ⟨g, 5, none⟩ = some a5 ∧ ∀ i, w.frozen? ⟨g, i, none⟩ = false :=
  ⟨h.cell 0, h.cell 1, h.cell 2, h.cell 3, h.cell 4, h.cell 5, h.frozen⟩
theorem shapeL_bd (k : Int) : 0 ≤ (shapeL k).1 ∧ (shapeL k).1 ≤ 7 ∧ 0 ≤ (shapeL k).2.1 ∧ (shapeL k).2.1 ≤ 39 ∧ 0 ≤ (shapeL k).2.2 ∧ (shapeL k).2.2 ≤ 2 ∧ ((shapeL k).2.1 ≠ 0 → 1 ≤ (shapeL k).2.2) := by
  unfold shapeL
  repeat' split
  all_goals simp
set_option maxRecDepth 100000 in
set_option maxHeartbeats 20000000 in
theorem ncheck_A (F : Nat → Prop) (n : NoteM) (p : NoteAt) (w : World) (h : NoteR w F n p) (hs : n.small) (hok : ¬ (n.ok1 = true ∧ n.ok2 = true)) : Calls Tryz.prog 69 #[n.v p] w (ErrIs n.err w) := by
  have H := Lib.hid h
  have HSM := Lib.hid hs
  have hbd := shapeL_bd n.kind
  have HSL : Hid (n.ok1 = (decide ((shapeL n.kind).2.1 ≠ 0) && decide (0 ≤ n.from_) && decide (n.from_ ≤ 999) && decide (0 ≤ n.to) && decide (n.to ≤ 999)) ∧ n.ok2 = (decide ((shapeL n.kind).1 ≤ n.nums.length) && decide ((n.nums.length : Int) ≤ (shapeL n.kind).2.1) && decide (((n.nums.length : Int) - (shapeL n.kind).1) % (shapeL n.kind).2.2 = 0))) := ⟨rfl, rfl⟩
  generalize hsh : shapeL n.kind = sh at hbd HSL
  obtain ⟨a, b, c⟩ := sh
  have HS := Lib.hid hsh
  simp only at hbd HSL
  clear h hs hsh
  obtain ⟨b1, b2, b3, b4, b5, b6, b7⟩ := hbd
  unfold NoteM.v
  by_cases a1 : b = 0
  · have HG : Hid (n.err = 2) := by simp [Hid, NoteM.err, NoteM.good, HSL.out.1, a1]
    rw [HG.out]
    subst a1
    go_enter Tryz.func69, Tryz.ntmps69
    go_wp2_with fail
    refine (shapeOf_any n.kind _).mono ?_
    rintro e w1 ⟨rfl, hb1⟩
    have HB1 := Lib.hid (bstep ((Below.refl _ w).alloc (Nat.le_refl _) _) hb1)
    have hz1 := hb1.size
    simp only [World.size_alloc] at hz1
    have hlt1 : w.heap.size < w1.heap.size := by omega
    obtain ⟨k0, k1, k2, k3, k4, k5, kf⟩ := ((Blk.at_ w 30 #[.int .i64 n.kind, .int .i64 n.from_, .int .i64 n.to, .slice p.an n.nums.length p.cn, .slice p.ao n.ops.length p.co, .slice p.ae n.nent p.ce] _ rfl).below hb1 (by simp)).cells6
    clear hb1
    rw [HS.out]
    unfold shV
    go_wp2_with fail
    go_ret
    exact ⟨by simp [errV_two], HB1.out.trans ((Below.refl _ _).alloc (by omega) _)⟩
  by_cases a2 : n.from_ < 0
  · have HG : Hid (n.err = 2) := by simp [Hid, NoteM.err, NoteM.good, HSL.out.1, Int.not_le.2 a2]
    rw [HG.out]
    have hbd0 : decide (b ≠ 0) = true := by simp [a1]
    have hbb : (b != 0) = true := by simp [a1]
    go_enter Tryz.func69, Tryz.ntmps69
    go_wp2_with fail
    refine (shapeOf_any n.kind _).mono ?_
    rintro e w1 ⟨rfl, hb1⟩
    have HB1 := Lib.hid (bstep ((Below.refl _ w).alloc (Nat.le_refl _) _) hb1)
    have hz1 := hb1.size
    simp only [World.size_alloc] at hz1
    have hlt1 : w.heap.size < w1.heap.size := by omega
    obtain ⟨k0, k1, k2, k3, k4, k5, kf⟩ := ((Blk.at_ w 30 #[.int .i64 n.kind, .int .i64 n.from_, .int .i64 n.to, .slice p.an n.nums.length p.cn, .slice p.ao n.ops.length p.co, .slice p.ae n.nent p.ce] _ rfl).below hb1 (by simp)).cells6
    clear hb1
    rw [HS.out]
    unfold shV
    go_wp2_with fail
    go_ret
    exact ⟨by simp [errV_two], HB1.out.trans ((Below.refl _ _).alloc (by omega) _)⟩
  by_cases a3 : 999 < n.from_
  · have HG : Hid (n.err = 2) := by simp [Hid, NoteM.err, NoteM.good, HSL.out.1, Int.not_le.2 a3]
    rw [HG.out]
    have hbd0 : decide (b ≠ 0) = true := by simp [a1]
    have hbb : (b != 0) = true := by simp [a1]
    go_enter Tryz.func69, Tryz.ntmps69
    go_wp2_with fail
    refine (shapeOf_any n.kind _).mono ?_
    rintro e w1 ⟨rfl, hb1⟩
    have HB1 := Lib.hid (bstep ((Below.refl _ w).alloc (Nat.le_refl _) _) hb1)
    have hz1 := hb1.size
    simp only [World.size_alloc] at hz1
    have hlt1 : w.heap.size < w1.heap.size := by omega
    obtain ⟨k0, k1, k2, k3, k4, k5, kf⟩ := ((Blk.at_ w 30 #[.int .i64 n.kind, .int .i64 n.from_, .int .i64 n.to, .slice p.an n.nums.length p.cn, .slice p.ao n.ops.length p.co, .slice p.ae n.nent p.ce] _ rfl).below hb1 (by simp)).cells6
    clear hb1
    rw [HS.out]
    unfold shV
    go_wp2_with fail
    go_ret
    exact ⟨by simp [errV_two], HB1.out.trans ((Below.refl _ _).alloc (by omega) _)⟩
  by_cases a4 : n.to < 0
  · have HG : Hid (n.err = 2) := by simp [Hid, NoteM.err, NoteM.good, HSL.out.1, Int.not_le.2 a4]
    rw [HG.out]
    have hbd0 : decide (b ≠ 0) = true := by simp [a1]
    have hbb : (b != 0) = true := by simp [a1]
    go_enter Tryz.func69, Tryz.ntmps69
    go_wp2_with fail
    refine (shapeOf_any n.kind _).mono ?_
    rintro e w1 ⟨rfl, hb1⟩
    have HB1 := Lib.hid (bstep ((Below.refl _ w).alloc (Nat.le_refl _) _) hb1)
    have hz1 := hb1.size
    simp only [World.size_alloc] at hz1
    have hlt1 : w.heap.size < w1.heap.size := by omega
    obtain ⟨k0, k1, k2, k3, k4, k5, kf⟩ := ((Blk.at_ w 30 #[.int .i64 n.kind, .int .i64 n.from_, .int .i64 n.to, .slice p.an n.nums.length p.cn, .slice p.ao n.ops.length p.co, .slice p.ae n.nent p.ce] _ rfl).below hb1 (by simp)).cells6
    clear hb1
    rw [HS.out]
    unfold shV
    go_wp2_with fail
    go_ret
    exact ⟨by simp [errV_two], HB1.out.trans ((Below.refl _ _).alloc (by omega) _)⟩
  by_cases a5 : 999 < n.to
  · have HG : Hid (n.err = 2) := by simp [Hid, NoteM.err, NoteM.good, HSL.out.1, Int.not_le.2 a5]
    rw [HG.out]
    have hbd0 : decide (b ≠ 0) = true := by simp [a1]
    have hbb : (b != 0) = true := by simp [a1]
    go_enter Tryz.func69, Tryz.ntmps69
    go_wp2_with fail
    refine (shapeOf_any n.kind _).mono ?_
    rintro e w1 ⟨rfl, hb1⟩
    have HB1 := Lib.hid (bstep ((Below.refl _ w).alloc (Nat.le_refl _) _) hb1)
    have hz1 := hb1.size
    simp only [World.size_alloc] at hz1
    have hlt1 : w.heap.size < w1.heap.size := by omega
    obtain ⟨k0, k1, k2, k3, k4, k5, kf⟩ := ((Blk.at_ w 30 #[.int .i64 n.kind, .int .i64 n.from_, .int .i64 n.to, .slice p.an n.nums.length p.cn, .slice p.ao n.ops.length p.co, .slice p.ae n.nent p.ce] _ rfl).below hb1 (by simp)).cells6
    clear hb1
    rw [HS.out]
    unfold shV
    go_wp2_with fail
    go_ret
    exact ⟨by simp [errV_two], HB1.out.trans ((Below.refl _ _).alloc (by omega) _)⟩
  by_cases a6 : (n.nums.length : Int) < a
  · have HG : Hid (n.err = 2) := by simp [Hid, NoteM.err, NoteM.good, HSL.out.2, Int.not_le.2 a6]
    rw [HG.out]
    have hbd0 : decide (b ≠ 0) = true := by simp [a1]
    have hbb : (b != 0) = true := by simp [a1]
    have b8 := b7 a1
    go_enter Tryz.func69, Tryz.ntmps69
    go_wp2_with fail
    refine (shapeOf_any n.kind _).mono ?_
    rintro e w1 ⟨rfl, hb1⟩
    have HB1 := Lib.hid (bstep ((Below.refl _ w).alloc (Nat.le_refl _) _) hb1)
    have hz1 := hb1.size
    simp only [World.size_alloc] at hz1
    have hlt1 : w.heap.size < w1.heap.size := by omega
    obtain ⟨k0, k1, k2, k3, k4, k5, kf⟩ := ((Blk.at_ w 30 #[.int .i64 n.kind, .int .i64 n.from_, .int .i64 n.to, .slice p.an n.nums.length p.cn, .slice p.ao n.ops.length p.co, .slice p.ae n.nent p.ce] _ rfl).below hb1 (by simp)).cells6
    clear hb1
    rw [HS.out]
    unfold shV
    go_wp2_with fail
    go_ret
    exact ⟨by simp [errV_two], HB1.out.trans ((Below.refl _ _).alloc (by omega) _)⟩
  by_cases a7 : b < (n.nums.length : Int)
  · have HG : Hid (n.err = 2) := by simp [Hid, NoteM.err, NoteM.good, HSL.out.2, Int.not_le.2 a7]
    rw [HG.out]
    have hbd0 : decide (b ≠ 0) = true := by simp [a1]
    have hbb : (b != 0) = true := by simp [a1]
    have b8 := b7 a1
    go_enter Tryz.func69, Tryz.ntmps69
    go_wp2_with fail
    refine (shapeOf_any n.kind _).mono ?_
    rintro e w1 ⟨rfl, hb1⟩
    have HB1 := Lib.hid (bstep ((Below.refl _ w).alloc (Nat.le_refl _) _) hb1)
    have hz1 := hb1.size
    simp only [World.size_alloc] at hz1
    have hlt1 : w.heap.size < w1.heap.size := by omega
    obtain ⟨k0, k1, k2, k3, k4, k5, kf⟩ := ((Blk.at_ w 30 #[.int .i64 n.kind, .int .i64 n.from_, .int .i64 n.to, .slice p.an n.nums.length p.cn, .slice p.ao n.ops.length p.co, .slice p.ae n.nent p.ce] _ rfl).below hb1 (by simp)).cells6
    clear hb1
    rw [HS.out]
    unfold shV
    go_wp2_with fail
    go_ret
    exact ⟨by simp [errV_two], HB1.out.trans ((Below.refl _ _).alloc (by omega) _)⟩
  by_cases a8 : ¬ ((n.nums.length : Int) - a) % c = 0
  · have HG : Hid (n.err = 2) := by simp [Hid, NoteM.err, NoteM.good, HSL.out.2, a8]
    rw [HG.out]
    have hbd0 : decide (b ≠ 0) = true := by simp [a1]
    have hbb : (b != 0) = true := by simp [a1]
    have b8 := b7 a1
    have b9 : ¬ c = 0 := by omega
    have b10 : (((n.nums.length : Int) - a) % c != 0) = true := by simp [a8]
    go_enter Tryz.func69, Tryz.ntmps69
    go_wp2_with fail
    refine (shapeOf_any n.kind _).mono ?_
    rintro e w1 ⟨rfl, hb1⟩
    have HB1 := Lib.hid (bstep ((Below.refl _ w).alloc (Nat.le_refl _) _) hb1)
    have hz1 := hb1.size
    simp only [World.size_alloc] at hz1
    have hlt1 : w.heap.size < w1.heap.size := by omega
    obtain ⟨k0, k1, k2, k3, k4, k5, kf⟩ := ((Blk.at_ w 30 #[.int .i64 n.kind, .int .i64 n.from_, .int .i64 n.to, .slice p.an n.nums.length p.cn, .slice p.ao n.ops.length p.co, .slice p.ae n.nent p.ce] _ rfl).below hb1 (by simp)).cells6
    clear hb1
    rw [HS.out]
    unfold shV
    go_wp2_with fail
    go_ret
    exact ⟨by simp [errV_two], HB1.out.trans ((Below.refl _ _).alloc (by omega) _)⟩
  have a8 := Decidable.of_not_not a8
  exfalso
  refine hok ⟨?_, ?_⟩
  · rw [HSL.out.1]; simp; omega
  · rw [HSL.out.2]; simp; omega
end Go.Proofs.YtepflhniomineaaGreat
