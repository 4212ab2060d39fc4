/- frame.Wrap of one part. -/
import Derived.Test.YtepflhniomineaaGreatFrame2
import Derived.Laws.MakeOwn
namespace Go.Proofs.YtepflhniomineaaGreat
open Go.RowKit
def frameL (p : List UInt8) : List UInt8 := lowL p.length 4 ++ lowL (sumL p).toNat 4 ++ p
theorem frameL_length (p : List UInt8) : (frameL p).length = 8 + p.length := by simp [frameL, lowL_length]; omega
/-- A slice of the call's own and an error. -/
def SliceErr (w : World) (e : TypeId) (size n : Nat) (xs : List Value) (k : Int) (en : Ending) (w' : World) : Prop :=
  ∃ A' c', en = .returned (.tuple #[.slice A' n c', errV k]) ∧ Own w' (fun k => w.heap.size ≤ k) e size A' n c' xs ∧ Below w.heap.size w w'
set_option maxRecDepth 100000 in
set_option maxHeartbeats 1000000 in
theorem wrap_any (F Fg : Nat → Prop) (Ap Af : Option Addr) (cf : Nat) (p : List UInt8) (w : World) (hp : Rd w F 5 Af (p.map bv)) (hg : Rd w Fg 87 Ap [.slice Af p.length cf]) (hm : p.length ≤ 16376) :
    Calls Tryz.prog 44 #[.slice Ap 1 1] w (SliceErr w 5 1 (8 + p.length) ((frameL p).map bv) 0) := by
  have HGR := Lib.hid hg
  obtain ⟨i0, hi, iz0, iz1, iz2⟩ := info_parts Tryz.info5
  obtain ⟨gp, op, rfl, hgl, _, hgc⟩ := hg.at_ (j := 0) (by simp)
  have hg0 := hgc 0 _ rfl
  simp only [Nat.add_zero] at hg0
  have HP := Lib.hid hp
  clear hgc hg hp
  have hmk : ∀ w, (Instr.makeSlice 87 (.int .i64 0) (.int .i64 (8 + (p.length : Int)))).run Tryz.prog w = .ok (.slice (some ⟨w.heap.size, 0, none⟩) 0 (8 + p.length)) (w.alloc (.cells (madeCells #[.int .u8 0] (8 + p.length)) 5)) := by
    intro w
    have h := run_make (P := Tryz.prog) w 87 5 i0 (.int .u8 0) Tryz.underlying87 hi iz0 .i64 .i64 0 (8 + (p.length : Int)) (by omega) (by omega) (by rw [iz2]; omega) (by omega)
    rw [iz1] at h
    have e : (8 + (p.length : Int)).toNat = 8 + p.length := by omega
    rw [e, Nat.mul_one] at h
    exact h
  go_enter Tryz.func44, Tryz.ntmps44
  go_wp2_with fail
  refine wp_loop_rounds 2 ?_
  rw [rounds_succ]
  go_wp2_with fail
  rw [rounds_succ]
  go_wp2_with fail
  have hO1 := Own.made w 5 1 (madeCells #[.int .u8 0] (8 + p.length)) 0 (8 + p.length) (by omega) (by unfold maxLen; omega) (by simp [size_madeCells])
  have HO1 := Lib.hid hO1
  clear hO1
  refine (low_any _ _ 0 (8 + p.length) [] p.length 4 _ (by simpa using HO1.out) (Few.of (by omega)) (by omega) (by omega)).mono ?_
  rintro e w1 ⟨A1, c1, rfl, hown1, hK1⟩
  have hz1 := hK1.size
  simp only [World.size_alloc] at hz1
  have hB1 : Below w.heap.size w w1 := ((Below.refl _ w).alloc (Nat.le_refl _) _).trans (hK1.below (by simp) fun k hk hS => by obtain ⟨_, a, ha, hb⟩ := hS; injection ha with ha; subst ha; simp at hb; omega)
  have HB1 := Lib.hid hB1
  have HO := Lib.hid (hown1.mono (F' := fun k => w.heap.size ≤ k) fun k _ hk => by
    rcases hk with ⟨_, a, ha, hb⟩ | hk
    · injection ha with ha; subst ha; simp at hb; omega
    · have := hk.1; simp at this; omega)
  obtain ⟨sn, hsn⟩ := Int.eq_ofNat_of_zero_le (sumL_bd p).1
  have hs2 := (sumL_bd p).2
  have hs3 : (sn : Int) < 4294967296 := by omega
  have HSN := Lib.hid hsn
  clear hsn hB1 hown1 hs2
  have hg1 : w1.cell? ⟨gp, op, none⟩ = some (.slice Af p.length cf) := (HB1.out.cell hgl).trans hg0
  go_wp2_with fail
  refine (fsum_any F Fg _ Af cf p _ (HP.out.below HB1.out) (HGR.out.below HB1.out) (Few.of (by omega))).mono ?_
  rintro e w2 ⟨rfl, rfl⟩
  rw [HSN.out]
  go_wp2_with fail
  refine (low_any _ A1 (0 + 4) c1 ([] ++ lowL p.length 4) sn 4 _ HO.out (Few.of (by omega)) (by omega) (by omega)).mono ?_
  rintro e w2 ⟨A2, c2, rfl, hown2, hK2⟩
  have hB2 : Below w.heap.size w w2 := HB1.out.trans (hK2.below (by omega) fun k hk hS => by have := ownIn_blk HO.out hS; omega)
  have HB2 := Lib.hid hB2
  have HO2 := Lib.hid (hown2.mono (F' := fun k => w.heap.size ≤ k) fun k _ hk => by
    rcases hk with hk | hk
    · exact ownIn_blk HO.out hk
    · have := hk.1; omega)
  have hz2 := hB2.size
  have hg2 : w2.cell? ⟨gp, op, none⟩ = some (.slice Af p.length cf) := (HB2.out.cell hgl).trans hg0
  clear hown2 hB2 hg1
  go_wp2_with fail
  refine wp_loop_rounds 2 ?_
  rw [rounds_succ]
  go_wp2_with (at_builtin; go_must (refine wpList_append_Own (F := fun k => w.heap.size ≤ k) (A := A2) (n := 0 + 4 + 4) (cap := c2) (xs := ([] ++ lowL p.length 4 ++ lowL sn 4).map bv) (size := 1) rfl (.tmp 41) (.tmp 42) 87 87 rfl 5 i0 (.int .u8 0) 1 Tryz.underlying87 hi iz0 iz1 iz2 rfl rfl HO2.out p.length (p.map bv) ?c1 ?c2 ?c3 ?_))
  case c1 => exact (HP.out.below HB2.out).src Tryz.underlying87 p.length cf (by simp) (by omega) (oneCell_bv _)
  case c2 => unfold maxLen; omega
  case c3 => omega
  intro A3 c3 w3 hown3 hK3 _
  have hB3 : Below w.heap.size w w3 := HB2.out.trans (hK3.below (by omega) fun k hk hS => by have := ownIn_blk HO2.out hS; omega)
  have HB3 := Lib.hid hB3
  have HO3 := Lib.hid (hown3.mono (F' := fun k => w.heap.size ≤ k) fun k _ hk => by
    rcases hk with hk | hk
    · exact hk
    · omega)
  clear hown3 hB3 hK3
  go_wp2_with fail
  rw [rounds_succ]
  go_wp2_with fail
  go_ret2
  refine ⟨A3, c3, rfl, ?_, HB3.out⟩
  have := HO3.out
  simpa [frameL, HSN.out] using this
end Go.Proofs.YtepflhniomineaaGreat
