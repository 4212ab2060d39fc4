/- The tape's traps and steps. -/
import Derived.Test.YtepflhniomineaaGreatPrep
namespace Go.Proofs.YtepflhniomineaaGreat
open Go.RowKit
theorem due_off (g o : Nat) (w : World) (h0 : w.cell? ⟨g, o, none⟩ = some (.bool false)) :
    Calls Tryz.prog 146 #[.pointer (some ⟨g, o, none⟩)] w fun e w' => e = .returned (.bool false) ∧ w = w' := by
  go_enter Tryz.func146, Tryz.ntmps146
  go_wp2
  go_ret
  exact ⟨rfl, rfl⟩
theorem due_now (g o : Nat) (w : World) (h0 : w.cell? ⟨g, o, none⟩ = some (.bool true)) (h1 : w.cell? ⟨g, o + 1, none⟩ = some (.int .i64 0)) :
    Calls Tryz.prog 146 #[.pointer (some ⟨g, o, none⟩)] w fun e w' => e = .returned (.bool true) ∧ w = w' := by
  go_enter Tryz.func146, Tryz.ntmps146
  go_wp2
  go_ret
  exact ⟨rfl, rfl⟩
theorem due_later (g o : Nat) (l : Int) (w : World) (h0 : w.cell? ⟨g, o, none⟩ = some (.bool true)) (h1 : w.cell? ⟨g, o + 1, none⟩ = some (.int .i64 l)) (h : (l == 0) = false)
    (f1 : w.frozen? ⟨g, o + 1, none⟩ = false) :
    Calls Tryz.prog 146 #[.pointer (some ⟨g, o, none⟩)] w fun e w' => e = .returned (.bool false) ∧ w.setCell ⟨g, o + 1, none⟩ (.int .i64 (wrap64 (l - 1))) = w' := by
  go_enter Tryz.func146, Tryz.ntmps146
  go_wp2
  go_ret
  exact ⟨rfl, rfl⟩
theorem Blk.cells8 {w : World} {g : Nat} {t : TypeId} {a0 a1 a2 a3 a4 a5 a6 a7 : Value} (h : Blk w g t #[a0, a1, a2, a3, a4, a5, a6, a7]) : w.cell? ⟨g, 0, none⟩ = some a0 ∧ w.cell? ⟨g, 1, none⟩ = some a1 ∧ w.cell? ⟨g, 2, none⟩ = some a2 ∧
    w.cell? ⟨g, 3, none⟩ = some a3 ∧ w.cell? ⟨g, 4, none⟩ = some a4 ∧ w.cell? ⟨g, 5, none⟩ = some a5 ∧ w.cell? ⟨g, 6, none⟩ = some a6 ∧ w.cell? ⟨g, 7, none⟩ = some a7 ∧ ∀ i, w.frozen? ⟨g, i, none⟩ = false :=
  ⟨h.cell 0, h.cell 1, h.cell 2, h.cell 3, h.cell 4, h.cell 5, h.cell 6, h.cell 7, h.frozen⟩
/-- A tape's traps, and whether its power is gone. -/
structure Traps where
  pset : Bool
  pleft : Int
  fset : Bool
  fleft : Int
  down : Bool
def Traps.clear : Traps := ⟨false, 0, false, 0, false⟩
/-- A step: what becomes of the traps; the error's number. -/
def Traps.step (T : Traps) : Traps × Int :=
  if T.down then (T, 5)
  else if T.pset && T.pleft == 0 then ({ T with down := true }, 5)
  else
    let T1 : Traps := if T.pset then { T with pleft := wrap64 (T.pleft - 1) } else T
    if T1.fset && T1.fleft == 0 then ({ T1 with fset := false, fleft := 0 }, 6)
    else if T1.fset then ({ T1 with fleft := wrap64 (T1.fleft - 1) }, 0) else (T1, 0)
abbrev tapeCells (v0 v1 v2 : Value) (T : Traps) : Array Value := #[v0, v1, v2, .bool T.pset, .int .i64 T.pleft, .bool T.fset, .int .i64 T.fleft, .bool T.down]
def StepOut (t : Nat) (v0 v1 : Value) (T : Traps) (n : Int) (w : World) (e : Ending) (w' : World) : Prop :=
  ∃ s : Int, e = .returned (errV n) ∧ Blk w' t 146 (tapeCells v0 v1 (.int .i64 s) T) ∧ Keep (· = t) w w' ∧ w'.heap.size = w.heap.size
set_option maxRecDepth 100000 in
set_option maxHeartbeats 1000000 in
theorem step_any (t : Nat) (v0 v1 : Value) (s : Int) (T : Traps) (w : World) (hb : Blk w t 146 (tapeCells v0 v1 (.int .i64 s) T)) :
    Calls Tryz.prog 91 #[.pointer (some ⟨t, 0, none⟩)] w (StepOut t v0 v1 T.step.1 T.step.2 w) := by
  obtain ⟨pset, pleft, fset, fleft, down⟩ := T
  have HB := Lib.hid hb
  obtain ⟨c0, c1, c2, c3, c4, c5, c6, c7, cf⟩ := hb.cells8
  clear hb
  cases down
  · cases pset
    · cases fset
      · have HG : Hid ((Traps.mk false pleft false fleft false).step = (⟨false, pleft, false, fleft, false⟩, 0)) := by simp [Hid, Traps.step]
        rw [HG.out]
        go_enter Tryz.func91, Tryz.ntmps91
        go_wp2_with fail
        refine (due_off t 3 _ ?_).mono ?_
        · simpa using HB.out.cell 3
        rintro e w1 ⟨rfl, rfl⟩
        have hk1 := HB.out
        have hk2 := hk1.set_ 2 (.int .i64 (wrap64 (s + 1)))
        have HK2 := Lib.hid hk2
        clear hk2 hk1
        go_wp2_with fail
        refine (due_off t 5 _ ?_).mono ?_
        · simpa using HK2.out.cell 5
        rintro e w1 ⟨rfl, rfl⟩
        go_wp2
        go_ret
        refine ⟨wrap64 (s + 1), rfl, HK2.out, ((Keep.refl _ w).set_ 2 _), by simp⟩
      · cases hq : (fleft == 0)
        · have HG : Hid ((Traps.mk false pleft true fleft false).step = (⟨false, pleft, true, wrap64 (fleft - 1), false⟩, 0)) := by simp [Hid, Traps.step, hq]
          rw [HG.out]
          go_enter Tryz.func91, Tryz.ntmps91
          go_wp2_with fail
          refine (due_off t 3 _ ?_).mono ?_
          · simpa using HB.out.cell 3
          rintro e w1 ⟨rfl, rfl⟩
          have hk1 := HB.out
          have hk2 := hk1.set_ 2 (.int .i64 (wrap64 (s + 1)))
          have HK2 := Lib.hid hk2
          clear hk2 hk1
          go_wp2_with fail
          refine (due_later t 5 fleft _ ?_ ?_ hq ?_).mono ?_
          · simpa using HK2.out.cell 5
          · simpa using HK2.out.cell 6
          · simpa using HK2.out.frozen 6
          rintro e w1 ⟨rfl, rfl⟩
          go_wp2
          go_ret
          refine ⟨wrap64 (s + 1), rfl, HK2.out.set_ 6 (.int .i64 (wrap64 (fleft - 1))), (((Keep.refl _ w).set_ 2 _)).set_ 6 _, by simp⟩
        · obtain rfl : fleft = 0 := by simpa using hq
          clear hq
          have HG : Hid ((Traps.mk false pleft true 0 false).step = (⟨false, pleft, false, 0, false⟩, 6)) := by simp [Hid, Traps.step]
          rw [HG.out]
          go_enter Tryz.func91, Tryz.ntmps91
          go_wp2_with fail
          refine (due_off t 3 _ ?_).mono ?_
          · simpa using HB.out.cell 3
          rintro e w1 ⟨rfl, rfl⟩
          have hk1 := HB.out
          have hk2 := hk1.set_ 2 (.int .i64 (wrap64 (s + 1)))
          have HK2 := Lib.hid hk2
          clear hk2 hk1
          go_wp2_with fail
          refine (due_now t 5 _ ?_ ?_).mono ?_
          · simpa using HK2.out.cell 5
          · simpa using HK2.out.cell 6
          rintro e w1 ⟨rfl, rfl⟩
          go_wp2
          go_ret
          refine ⟨wrap64 (s + 1), rfl, (HK2.out.set_ 5 (.bool false)).set_ 6 (.int .i64 0), ((((Keep.refl _ w).set_ 2 _)).set_ 5 _).set_ 6 _, by simp⟩
    · cases hp : (pleft == 0)
      · cases fset
        · have HG : Hid ((Traps.mk true pleft false fleft false).step = (⟨true, (wrap64 (pleft - 1)), false, fleft, false⟩, 0)) := by simp [Hid, Traps.step, hp]
          rw [HG.out]
          go_enter Tryz.func91, Tryz.ntmps91
          go_wp2_with fail
          refine (due_later t 3 pleft _ ?_ ?_ hp ?_).mono ?_
          · simpa using HB.out.cell 3
          · simpa using HB.out.cell 4
          · simpa using HB.out.frozen 4
          rintro e w1 ⟨rfl, rfl⟩
          have hk1 := HB.out.set_ 4 (.int .i64 (wrap64 (pleft - 1)))
          have hk2 := hk1.set_ 2 (.int .i64 (wrap64 (s + 1)))
          have HK2 := Lib.hid hk2
          clear hk2 hk1
          go_wp2_with fail
          refine (due_off t 5 _ ?_).mono ?_
          · simpa using HK2.out.cell 5
          rintro e w1 ⟨rfl, rfl⟩
          go_wp2
          go_ret
          refine ⟨wrap64 (s + 1), rfl, HK2.out, ((keep_set w t 4 _).set_ 2 _), by simp⟩
        · cases hq : (fleft == 0)
          · have HG : Hid ((Traps.mk true pleft true fleft false).step = (⟨true, (wrap64 (pleft - 1)), true, wrap64 (fleft - 1), false⟩, 0)) := by simp [Hid, Traps.step, hp, hq]
            rw [HG.out]
            go_enter Tryz.func91, Tryz.ntmps91
            go_wp2_with fail
            refine (due_later t 3 pleft _ ?_ ?_ hp ?_).mono ?_
            · simpa using HB.out.cell 3
            · simpa using HB.out.cell 4
            · simpa using HB.out.frozen 4
            rintro e w1 ⟨rfl, rfl⟩
            have hk1 := HB.out.set_ 4 (.int .i64 (wrap64 (pleft - 1)))
            have hk2 := hk1.set_ 2 (.int .i64 (wrap64 (s + 1)))
            have HK2 := Lib.hid hk2
            clear hk2 hk1
            go_wp2_with fail
            refine (due_later t 5 fleft _ ?_ ?_ hq ?_).mono ?_
            · simpa using HK2.out.cell 5
            · simpa using HK2.out.cell 6
            · simpa using HK2.out.frozen 6
            rintro e w1 ⟨rfl, rfl⟩
            go_wp2
            go_ret
            refine ⟨wrap64 (s + 1), rfl, HK2.out.set_ 6 (.int .i64 (wrap64 (fleft - 1))), (((keep_set w t 4 _).set_ 2 _)).set_ 6 _, by simp⟩
          · obtain rfl : fleft = 0 := by simpa using hq
            clear hq
            have HG : Hid ((Traps.mk true pleft true 0 false).step = (⟨true, (wrap64 (pleft - 1)), false, 0, false⟩, 6)) := by simp [Hid, Traps.step, hp]
            rw [HG.out]
            go_enter Tryz.func91, Tryz.ntmps91
            go_wp2_with fail
            refine (due_later t 3 pleft _ ?_ ?_ hp ?_).mono ?_
            · simpa using HB.out.cell 3
            · simpa using HB.out.cell 4
            · simpa using HB.out.frozen 4
            rintro e w1 ⟨rfl, rfl⟩
            have hk1 := HB.out.set_ 4 (.int .i64 (wrap64 (pleft - 1)))
            have hk2 := hk1.set_ 2 (.int .i64 (wrap64 (s + 1)))
            have HK2 := Lib.hid hk2
            clear hk2 hk1
            go_wp2_with fail
            refine (due_now t 5 _ ?_ ?_).mono ?_
            · simpa using HK2.out.cell 5
            · simpa using HK2.out.cell 6
            rintro e w1 ⟨rfl, rfl⟩
            go_wp2
            go_ret
            refine ⟨wrap64 (s + 1), rfl, (HK2.out.set_ 5 (.bool false)).set_ 6 (.int .i64 0), ((((keep_set w t 4 _).set_ 2 _)).set_ 5 _).set_ 6 _, by simp⟩
      · obtain rfl : pleft = 0 := by simpa using hp
        clear hp
        have HG : Hid ((Traps.mk true 0 fset fleft false).step = (⟨true, 0, fset, fleft, true⟩, 5)) := rfl
        rw [HG.out]
        go_enter Tryz.func91, Tryz.ntmps91
        go_wp2_with fail
        refine (due_now t 3 _ ?_ ?_).mono ?_
        · simpa using HB.out.cell 3
        · simpa using HB.out.cell 4
        rintro e w1 ⟨rfl, rfl⟩
        go_wp2
        go_ret
        exact ⟨s, rfl, HB.out.set_ 7 (.bool true), keep_set w t 7 _, by simp⟩
  · have HG : Hid ((Traps.mk pset pleft fset fleft true).step = (⟨pset, pleft, fset, fleft, true⟩, 5)) := rfl
    rw [HG.out]
    go_enter Tryz.func91, Tryz.ntmps91
    go_wp2
    go_ret
    exact ⟨s, rfl, HB.out.set_ 7 (.bool true), keep_set w t 7 _, by simp⟩
end Go.Proofs.YtepflhniomineaaGreat
