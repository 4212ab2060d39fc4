/- slices.Clone: contracts. -/
import Derived.Test.YtepflhniomineaaGreatProg
import Derived.Test.YtepflhniomineaaGreatMem
import Derived.WalkKit
import Derived.WalkLawsBesides
import Derived.WalkSpells
import Derived.Lib.Hide
namespace Go.Proofs.YtepflhniomineaaGreat
open Go.RowKit
/-- A slice is handed back that is the call's own and holds xs. -/
def SliceOut (w : World) (e : TypeId) (size n : Nat) (xs : List Value) (en : Ending) (w' : World) : Prop :=
  ∃ A' c', en = .returned (.slice A' n c') ∧ Own w' (fun k => w.heap.size ≤ k) e size A' n c' xs ∧ Below w.heap.size w w'
theorem Tryz.info3 : (Tryz.prog.info? 3).map (fun i => (i.zero, i.size, i.bytes)) = some (some (.int .i64 0), 1, 8) := by kernel_rfl
set_option maxRecDepth 100000 in
set_option maxHeartbeats 400000 in
theorem clone_ints_any (F : Nat → Prop) (A : Option Addr) (n c : Nat) (xs : List Value) (w : World) (h : Rd w F 3 A xs) (hl : xs.length = n * 1) (h1 : ∀ u ∈ xs, u.oneCell' = true) (hb : Few n) :
    Calls Tryz.prog 106 #[.slice A n c] w (SliceOut w 3 1 n xs) := by
  obtain ⟨i0, hi, hz0, hz1, hz2⟩ := info_parts Tryz.info3
  cases A with
  | none =>
    have hx : xs = [] := by
      cases xs with
      | nil => rfl
      | cons x l => obtain ⟨g, off, ha, _⟩ := h.at_ (j := 0) (by simp); cases ha
    subst hx
    have hn : n = 0 := by simp at hl; omega
    subst hn
    have qn := fun w => Lib.run_eql_slice_nil (P := Tryz.prog) w 27 3 none 0 c 0 0 Tryz.underlying27
    go_enter Tryz.func106, Tryz.ntmps106
    go_wp2
    go_ret
    exact ⟨none, 0, rfl, Own.nil _ _ _ _ _, Below.refl _ _⟩
  | some a =>
    have HR := Lib.hid h
    clear h
    have qn := fun w => Lib.run_eql_slice_nil (P := Tryz.prog) w 27 3 (some a) n c 0 0 Tryz.underlying27
    go_enter Tryz.func106, Tryz.ntmps106
    go_wp2_with (at_builtin; refine wpList_append_Own (F := fun k => w.heap.size ≤ k) (A := some ⟨w.heap.size, 0, none⟩) (n := 0) (cap := 0) (xs := []) (size := 1) rfl (.tmp 5) (.tmp 6) 27 27 rfl 3 i0 (.int .i64 0) 8 Tryz.underlying27 hi hz0 hz1 hz2 rfl rfl (Own.nil _ _ _ _ _) n xs ?c1 ?c2 ?c3 ?_)
    case c1 => exact (HR.out.alloc _).src Tryz.underlying27 n c hl (by omega) h1
    case c2 => exact (by simpa using hb.max)
    case c3 => exact (by simpa using hb.bytes (b := 8) (by omega))
    intro A' cap' w' hown hk _
    go_wp2
    go_ret
    refine ⟨A', cap', by simp, ?_, ?_⟩
    · exact hown.mono fun k _ hk => by omega
    · exact ((Below.refl _ w).alloc (Nat.le_refl _) _).trans (hk.below (by simp) fun k _ hS => hS.1 rfl)
theorem Tryz.info5 : (Tryz.prog.info? 5).map (fun i => (i.zero, i.size, i.bytes)) = some (some (.int .u8 0), 1, 1) := by kernel_rfl
set_option maxRecDepth 100000 in
set_option maxHeartbeats 400000 in
theorem clone_bytes_any (F : Nat → Prop) (A : Option Addr) (n c : Nat) (xs : List Value) (w : World) (h : Rd w F 5 A xs) (hl : xs.length = n * 1) (h1 : ∀ u ∈ xs, u.oneCell' = true) (hb : Few n) :
    Calls Tryz.prog 83 #[.slice A n c] w (SliceOut w 5 1 n xs) := by
  obtain ⟨i0, hi, hz0, hz1, hz2⟩ := info_parts Tryz.info5
  cases A with
  | none =>
    have hx : xs = [] := by
      cases xs with
      | nil => rfl
      | cons x l => obtain ⟨g, off, ha, _⟩ := h.at_ (j := 0) (by simp); cases ha
    subst hx
    have hn : n = 0 := by simp at hl; omega
    subst hn
    have qn := fun w => Lib.run_eql_slice_nil (P := Tryz.prog) w 87 5 none 0 c 0 0 Tryz.underlying87
    go_enter Tryz.func83, Tryz.ntmps83
    go_wp2
    go_ret
    exact ⟨none, 0, rfl, Own.nil _ _ _ _ _, Below.refl _ _⟩
  | some a =>
    have HR := Lib.hid h
    clear h
    have qn := fun w => Lib.run_eql_slice_nil (P := Tryz.prog) w 87 5 (some a) n c 0 0 Tryz.underlying87
    go_enter Tryz.func83, Tryz.ntmps83
    go_wp2_with (at_builtin; refine wpList_append_Own (F := fun k => w.heap.size ≤ k) (A := some ⟨w.heap.size, 0, none⟩) (n := 0) (cap := 0) (xs := []) (size := 1) rfl (.tmp 5) (.tmp 6) 87 87 rfl 5 i0 (.int .u8 0) 1 Tryz.underlying87 hi hz0 hz1 hz2 rfl rfl (Own.nil _ _ _ _ _) n xs ?c1 ?c2 ?c3 ?_)
    case c1 => exact (HR.out.alloc _).src Tryz.underlying87 n c hl (by omega) h1
    case c2 => exact (by simpa using hb.max)
    case c3 => exact (by simpa using hb.bytes (b := 1) (by omega))
    intro A' cap' w' hown hk _
    go_wp2
    go_ret
    refine ⟨A', cap', by simp, ?_, ?_⟩
    · exact hown.mono fun k _ hk => by omega
    · exact ((Below.refl _ w).alloc (Nat.le_refl _) _).trans (hk.below (by simp) fun k _ hS => hS.1 rfl)
theorem Tryz.info52 : (Tryz.prog.info? 52).map (fun i => (i.zero, i.size, i.bytes)) = some (some (.agg #[.int .i64 0 , .int .i64 0 , .int .i64 0 , .int .i64 0 , .int .i64 0]), 5, 40) := by kernel_rfl
set_option maxRecDepth 100000 in
set_option maxHeartbeats 400000 in
theorem clone_ops_any (F : Nat → Prop) (A : Option Addr) (n c : Nat) (xs : List Value) (w : World) (h : Rd w F 52 A xs) (hl : xs.length = n * 5) (h1 : ∀ u ∈ xs, u.oneCell' = true) (hb : Few n) :
    Calls Tryz.prog 82 #[.slice A n c] w (SliceOut w 52 5 n xs) := by
  obtain ⟨i0, hi, hz0, hz1, hz2⟩ := info_parts Tryz.info52
  cases A with
  | none =>
    have hx : xs = [] := by
      cases xs with
      | nil => rfl
      | cons x l => obtain ⟨g, off, ha, _⟩ := h.at_ (j := 0) (by simp); cases ha
    subst hx
    have hn : n = 0 := by simp at hl; omega
    subst hn
    have qn := fun w => Lib.run_eql_slice_nil (P := Tryz.prog) w 28 52 none 0 c 0 0 Tryz.underlying28
    go_enter Tryz.func82, Tryz.ntmps82
    go_wp2
    go_ret
    exact ⟨none, 0, rfl, Own.nil _ _ _ _ _, Below.refl _ _⟩
  | some a =>
    have HR := Lib.hid h
    clear h
    have qn := fun w => Lib.run_eql_slice_nil (P := Tryz.prog) w 28 52 (some a) n c 0 0 Tryz.underlying28
    go_enter Tryz.func82, Tryz.ntmps82
    go_wp2_with (at_builtin; refine wpList_append_Own (F := fun k => w.heap.size ≤ k) (A := some ⟨w.heap.size, 0, none⟩) (n := 0) (cap := 0) (xs := []) (size := 5) rfl (.tmp 5) (.tmp 6) 28 28 rfl 52 i0 (.agg #[.int .i64 0 , .int .i64 0 , .int .i64 0 , .int .i64 0 , .int .i64 0]) 40 Tryz.underlying28 hi hz0 hz1 hz2 rfl rfl (Own.nil _ _ _ _ _) n xs ?c1 ?c2 ?c3 ?_)
    case c1 => exact (HR.out.alloc _).src Tryz.underlying28 n c hl (by omega) h1
    case c2 => exact (by simpa using hb.max)
    case c3 => exact (by simpa using hb.bytes (b := 40) (by omega))
    intro A' cap' w' hown hk _
    go_wp2
    go_ret
    refine ⟨A', cap', by simp, ?_, ?_⟩
    · exact hown.mono fun k _ hk => by omega
    · exact ((Below.refl _ w).alloc (Nat.le_refl _) _).trans (hk.below (by simp) fun k _ hS => hS.1 rfl)
theorem Tryz.info23 : (Tryz.prog.info? 23).map (fun i => (i.zero, i.size, i.bytes)) = some (some (.agg #[.int .i64 0 , .int .i64 0]), 2, 16) := by kernel_rfl
set_option maxRecDepth 100000 in
set_option maxHeartbeats 400000 in
theorem clone_places_any (F : Nat → Prop) (A : Option Addr) (n c : Nat) (xs : List Value) (w : World) (h : Rd w F 23 A xs) (hl : xs.length = n * 2) (h1 : ∀ u ∈ xs, u.oneCell' = true) (hb : Few n) :
    Calls Tryz.prog 143 #[.slice A n c] w (SliceOut w 23 2 n xs) := by
  obtain ⟨i0, hi, hz0, hz1, hz2⟩ := info_parts Tryz.info23
  cases A with
  | none =>
    have hx : xs = [] := by
      cases xs with
      | nil => rfl
      | cons x l => obtain ⟨g, off, ha, _⟩ := h.at_ (j := 0) (by simp); cases ha
    subst hx
    have hn : n = 0 := by simp at hl; omega
    subst hn
    have qn := fun w => Lib.run_eql_slice_nil (P := Tryz.prog) w 63 23 none 0 c 0 0 Tryz.underlying63
    go_enter Tryz.func143, Tryz.ntmps143
    go_wp2
    go_ret
    exact ⟨none, 0, rfl, Own.nil _ _ _ _ _, Below.refl _ _⟩
  | some a =>
    have HR := Lib.hid h
    clear h
    have qn := fun w => Lib.run_eql_slice_nil (P := Tryz.prog) w 63 23 (some a) n c 0 0 Tryz.underlying63
    go_enter Tryz.func143, Tryz.ntmps143
    go_wp2_with (at_builtin; refine wpList_append_Own (F := fun k => w.heap.size ≤ k) (A := some ⟨w.heap.size, 0, none⟩) (n := 0) (cap := 0) (xs := []) (size := 2) rfl (.tmp 5) (.tmp 6) 63 63 rfl 23 i0 (.agg #[.int .i64 0 , .int .i64 0]) 16 Tryz.underlying63 hi hz0 hz1 hz2 rfl rfl (Own.nil _ _ _ _ _) n xs ?c1 ?c2 ?c3 ?_)
    case c1 => exact (HR.out.alloc _).src Tryz.underlying63 n c hl (by omega) h1
    case c2 => exact (by simpa using hb.max)
    case c3 => exact (by simpa using hb.bytes (b := 16) (by omega))
    intro A' cap' w' hown hk _
    go_wp2
    go_ret
    refine ⟨A', cap', by simp, ?_, ?_⟩
    · exact hown.mono fun k _ hk => by omega
    · exact ((Below.refl _ w).alloc (Nat.le_refl _) _).trans (hk.below (by simp) fun k _ hS => hS.1 rfl)
end Go.Proofs.YtepflhniomineaaGreat
