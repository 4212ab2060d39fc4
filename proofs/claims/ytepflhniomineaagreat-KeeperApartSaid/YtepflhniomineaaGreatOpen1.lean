/- Opening: a nil tape, a tape without bytes. -/
import Derived.Test.YtepflhniomineaaGreatKeeper3
import Derived.Carry
namespace Go.Proofs.YtepflhniomineaaGreat
open Go.RowKit
set_option maxRecDepth 100000 in
theorem whole_empty (A : Option Addr) (c : Nat) (w : World) : Calls Tryz.prog 176 #[.slice A 0 c] w fun e w' => e = .returned (.int .i64 0) ∧ w = w' := by
  go_enter Tryz.func176, Tryz.ntmps176
  go_wp2
  go_ret
  exact ⟨rfl, rfl⟩
set_option maxRecDepth 100000 in
set_option maxHeartbeats 1000000 in
theorem split_empty (A : Option Addr) (c : Nat) (w : World) : Calls Tryz.prog 130 #[.slice A 0 c] w fun e w' => e = .returned (.tuple #[.slice none 0 0, .int .i64 0]) ∧ w = w' := by
  go_enter Tryz.func130, Tryz.ntmps130
  go_wp2_with fail
  refine (whole_empty A c _).mono ?_
  rintro e w1 ⟨rfl, rfl⟩
  go_wp2_with fail
  refine wp_loop_rounds 1 ?_
  rw [rounds_succ]
  go_wp2_with fail
  go_ret2
  exact ⟨rfl, rfl⟩
set_option maxRecDepth 100000 in
set_option maxHeartbeats 1000000 in
theorem dopen_nil (w : World) : Calls Tryz.prog 73 #[.pointer none] w fun e w' => e = .returned (.tuple #[.pointer none, .slice none 0 0, errV 5]) ∧ w = w' := by
  go_enter Tryz.func73, Tryz.ntmps73
  go_wp2_with fail
  refine (tdown_nil _).mono ?_
  rintro e w1 ⟨rfl, rfl⟩
  go_wp2_with fail
  go_ret3
  exact ⟨rfl, rfl⟩
/-- A diary without rows. -/
def DiaryNew (t : Nat) (fp : Nat → Prop) (T : TapeM) (w : World) (e : Ending) (w' : World) : Prop :=
  ∃ d, e = .returned (.tuple #[.pointer (some ⟨d, 0, none⟩), .slice none 0 0, .nilIface]) ∧ DiaryR w' d (newFp fp w w') ⟨T, 0, t⟩ ∧ w.heap.size ≤ d ∧ Below w.heap.size w w'
set_option maxRecDepth 100000 in
set_option maxHeartbeats 1000000 in
theorem dopen_empty (t : Nat) (fp : Nat → Prop) (T : TapeM) (w : World) (h : TapeR w t fp T) (hb : T.bytes = []) (hd : T.tr.down = false) : Calls Tryz.prog 73 #[.pointer (some ⟨t, 0, none⟩)] w (DiaryNew t fp T w) := by
  have HT := Lib.hid h
  have HB := Lib.hid hb
  have HD := Lib.hid hd
  clear h hb hd
  go_enter Tryz.func73, Tryz.ntmps73
  go_wp2_with fail
  refine (tdown_any t fp T _ HT.out).mono ?_
  rintro e w1 ⟨rfl, rfl⟩
  rw [HD.out]
  go_wp2_with fail
  refine (tread_any t fp T _ HT.out).mono ?_
  rintro e w1 ⟨A1, c1, rfl, hown1, hb1⟩
  have HB1 := Lib.hid hb1
  clear hown1 hb1
  rw [show T.bytes.length = 0 by rw [HB.out]; rfl]
  go_wp2_with fail
  refine (split_empty A1 c1 _).mono ?_
  rintro e w2 ⟨rfl, rfl⟩
  go_wp2_with fail
  go_ret3
  have hz1 := HB1.out.size
  have hT := (HT.out.below HB1.out).below ((Below.refl _ w1).alloc (Nat.le_refl _) (.cells #[.pointer (some ⟨t, 0, none⟩), .int .i64 0, .int .i64 0] 236))
  have hfp : ∀ q, fp q → q < w.heap.size := by obtain ⟨_, _, _, _, _, _, _, _, h⟩ := HT.out; exact h
  refine ⟨w1.heap.size, rfl, ⟨0, Blk.new _ _ _, hT.mono (fun q hq => ⟨.inl hq, by have := hfp q hq; omega⟩) (fun q hq => ?_), .inr ⟨hz1, by simp⟩, fun q hq => ?_⟩, hz1, HB1.out.trans ((Below.refl _ _).alloc hz1 _)⟩
  · rcases hq.1 with hq | hq
    · have := hfp q hq; simp; omega
    · exact hq.2
  · rcases hq with hq | hq
    · have := hfp q hq; simp; omega
    · exact hq.2
/-- A keeper without registers. -/
def KeeperNew (node : Int) (t : Nat) (fp : Nat → Prop) (T : TapeM) (w : World) (e : Ending) (w' : World) : Prop :=
  ∃ k, e = .returned (.tuple #[.pointer (some ⟨k, 0, none⟩), .nilIface]) ∧ KeeperR w' k (newFp fp w w') ⟨node, ⟨T, 0, t⟩, []⟩ ∧ Below w.heap.size w w'
set_option maxRecDepth 100000 in
set_option maxHeartbeats 1000000 in
theorem kopen_nil (node : Int) (w : World) (h0 : 0 ≤ node) (h1 : node ≤ 999) : Calls Tryz.prog 48 #[.int .i64 node, .pointer none] w fun e w' => e = .returned (.tuple #[.pointer none, errV 5]) ∧ w = w' := by
  have h2 : ¬ node < 0 := by omega
  have h3 : ¬ 999 < node := by omega
  go_enter Tryz.func48, Tryz.ntmps48
  go_wp2_with fail
  refine (dopen_nil _).mono ?_
  rintro e w1 ⟨rfl, rfl⟩
  rw [errV_down]
  go_wp2_with fail
  go_ret2
  exact ⟨rfl, rfl⟩
set_option maxRecDepth 100000 in
set_option maxHeartbeats 1000000 in
theorem kopen_empty (node : Int) (t : Nat) (fp : Nat → Prop) (T : TapeM) (w : World) (h : TapeR w t fp T) (hb : T.bytes = []) (hd : T.tr.down = false) (h0 : 0 ≤ node) (h1 : node ≤ 999) :
    Calls Tryz.prog 48 #[.int .i64 node, .pointer (some ⟨t, 0, none⟩)] w (KeeperNew node t fp T w) := by
  have h2 : ¬ node < 0 := by omega
  have h3 : ¬ 999 < node := by omega
  have HT := Lib.hid h
  have hfp : ∀ q, fp q → q < w.heap.size := by obtain ⟨_, _, _, _, _, _, _, _, h⟩ := h; exact h
  have HFP := Lib.hid hfp
  clear h hfp
  have hmm := @run_makeMap Tryz.prog
  go_enter Tryz.func48, Tryz.ntmps48
  go_wp2_with fail
  refine (dopen_empty t fp T _ HT.out hb hd).mono ?_
  rintro e w1 ⟨d, rfl, hD1, hdl, hb1⟩
  have HD1 := Lib.hid hD1
  have HB1 := Lib.hid hb1
  clear hD1 hb1 hb hd
  go_wp2_with fail
  refine wp_loop_rounds 1 ?_
  rw [rounds_succ]
  go_wp2_with fail
  go_ret2
  have hz1 := HB1.out.size
  have hdw : ∀ q, newFp fp w w1 q → q < w1.heap.size := fun q hq => by
    rcases hq with hq | hq
    · have := HFP.out q hq; omega
    · exact hq.2
  refine ⟨w1.heap.size + 1, rfl, ⟨d, w1.heap.size, newFp fp w w1, fun _ => False, [], Blk.at_ _ _ _ _ (by simp), ?_, ?_, trivial, .inr ⟨by omega, by simp⟩, .inr ⟨by omega, by simp; omega⟩, by omega, fun q hq => ⟨?_, ?_, ?_⟩, fun _ h => h.elim, fun q hq => ?_⟩,
    (HB1.out.trans ((Below.refl _ _).alloc hz1 _)).alloc (by simp; omega) _⟩
  · exact (HD1.out.below ((Below.refl _ _).alloc (Nat.le_refl _) _)).below ((Below.refl _ _).alloc (Nat.le_refl _) _)
  · exact ⟨#[], 0, (Below.heap_alloc _ _ _ (by simp)).trans (heap_alloc_new w1 _), rfl⟩
  · rcases hq with hq | hq
    · exact .inl hq
    · exact .inr ⟨hq.1, by simp; omega⟩
  · have := hdw q hq; omega
  · have := hdw q hq; omega
  · rcases hq with hq | hq
    · have := HFP.out q hq; simp; omega
    · exact hq.2
end Go.Proofs.YtepflhniomineaaGreat
