/- The references' Same: registers; notes without operations and entries. -/
import Derived.Test.YtepflhniomineaaGreatKeeper3
import Derived.Test.YtepflhniomineaaGreatNote3
import Derived.Deep.QuietTactic
import Derived.BigQuiet
namespace Go.Proofs.YtepflhniomineaaGreat
open Go.RowKit
def Bal.eqB (a b : Bal) : Bool := a.n == b.n && (a.node == b.node && (a.life == b.life && true))
theorem neq_bal {a b : Bal} {x y : Bool} (h : a.eqB b = x) (hy : y = !x) (w : World) : (binOp .neq 103 a.v b.v).run Tryz.prog w = .ok (.bool y) w := by
  subst hy
  rw [← h]
  exact run_neq_ballot _ _ _ _ _ _ w
theorem Bal.eqB_iff (a b : Bal) : a.eqB b = true ↔ a = b := by
  obtain ⟨a1, a2, a3⟩ := a
  obtain ⟨b1, b2, b3⟩ := b
  simp [Bal.eqB]
def Reg.sameB (r s : Reg) : Bool := r.promised.eqB s.promised && r.accepted.eqB s.accepted && decide (r.value = s.value)
theorem Reg.sameB_iff (r s : Reg) : r.sameB s = true ↔ r = s := by
  obtain ⟨a, b, c⟩ := r
  obtain ⟨a', b', c'⟩ := s
  simp [Reg.sameB, Bal.eqB_iff, and_assoc]
theorem Reg.sameB_self (r : Reg) : r.sameB r = true := (r.sameB_iff r).2 rfl
/-- Two boxed registers and their numbers. -/
def TwoRegs (w : World) (b1 b2 : Nat) (r s : Reg) (A B : Option Addr) (c d : Nat) : Prop :=
  Blk w b1 105 #[.int .i64 r.promised.n, .int .i64 r.promised.node, .int .i64 r.promised.life, .int .i64 r.accepted.n, .int .i64 r.accepted.node, .int .i64 r.accepted.life, .slice A r.value.length c] ∧
  Blk w b2 105 #[.int .i64 s.promised.n, .int .i64 s.promised.node, .int .i64 s.promised.life, .int .i64 s.accepted.n, .int .i64 s.accepted.node, .int .i64 s.accepted.life, .slice B s.value.length d] ∧
  Rd w (fun _ => True) 3 A (r.value.map (Value.int .i64)) ∧ Rd w (fun _ => True) 3 B (s.value.map (Value.int .i64))
theorem TwoRegs.drewN {w : World} {b1 b2 : Nat} {r s : Reg} {A B : Option Addr} {c d : Nat} (h : TwoRegs w b1 b2 r s A B c d) (n : Nat) : TwoRegs (w.drewN n) b1 b2 r s A B c d :=
  ⟨h.1.drewN n, h.2.1.drewN n, h.2.2.1.drewN n, h.2.2.2.drewN n⟩
theorem two_regs (F G : Nat → Prop) (r s : Reg) (A B : Option Addr) (c d : Nat) (w : World) (hr : Rd w F 3 A (r.value.map (Value.int .i64))) (hs : Rd w G 3 B (s.value.map (Value.int .i64))) :
    TwoRegs ((w.alloc (.cells #[.int .i64 r.promised.n, .int .i64 r.promised.node, .int .i64 r.promised.life, .int .i64 r.accepted.n, .int .i64 r.accepted.node, .int .i64 r.accepted.life, .slice A r.value.length c] 105)).alloc
      (.cells #[.int .i64 s.promised.n, .int .i64 s.promised.node, .int .i64 s.promised.life, .int .i64 s.accepted.n, .int .i64 s.accepted.node, .int .i64 s.accepted.life, .slice B s.value.length d] 105)) w.heap.size (w.heap.size + 1) r s A B c d :=
  ⟨(Blk.new w _ _).alloc _, Blk.at_ _ _ _ _ (by simp), (hr.any.alloc _).alloc _, (hs.any.alloc _).alloc _⟩
set_option maxRecDepth 100000 in
set_option maxHeartbeats 4000000 in
theorem same09_any (F G : Nat → Prop) (r s : Reg) (A B : Option Addr) (c d : Nat) (w : World) (hr : Rd w F 3 A (r.value.map (Value.int .i64))) (hs : Rd w G 3 B (s.value.map (Value.int .i64)))
    (hm : r.value.length ≤ 5000) (_ : s.value.length ≤ 5000) : Calls Tryz.prog 53 #[r.v A c, s.v B d] w (BoolIs (r.sameB s) w) := by
  have HT := Lib.hid (two_regs F G r s A B c d w hr hs)
  clear hr hs
  cases h1 : r.promised.eqB s.promised
  · have hq := neq_bal h1 (y := true) rfl
    have HR : Hid (r.sameB s = false) := by unfold Hid Reg.sameB; rw [h1]; rfl
    clear h1
    rw [HR.out]
    go_enter Tryz.func53, Tryz.ntmps53
    go_wp2_with fail
    go_ret
    exact ⟨by simp, ((Below.refl _ w).alloc (Nat.le_refl _) _).alloc (by simp) _⟩
  · cases h2 : r.accepted.eqB s.accepted
    · have hq := neq_bal h1 (y := false) rfl
      have hq2 := neq_bal h2 (y := true) rfl
      have HR : Hid (r.sameB s = false) := by unfold Hid Reg.sameB; rw [h1, h2]; rfl
      clear h1 h2
      rw [HR.out]
      go_enter Tryz.func53, Tryz.ntmps53
      go_wp2_with fail
      go_ret
      exact ⟨by simp, ((Below.refl _ w).alloc (Nat.le_refl _) _).alloc (by simp) _⟩
    · have hq := neq_bal h1 (y := false) rfl
      have hq2 := neq_bal h2 (y := false) rfl
      have HR : Hid (r.sameB s = decide (r.value = s.value)) := by unfold Hid Reg.sameB; rw [h1, h2]; rfl
      clear h1 h2
      by_cases hl : r.value.length = s.value.length
      · have hb : (((r.value.length : Nat) : Int) != ((s.value.length : Nat) : Int)) = false := by simp [hl]
        have HL := Lib.hid hl
        clear hl
        go_enter Tryz.func53, Tryz.ntmps53
        go_wp2_with fail
        clear hq hq2 hb
        go_loopw [5] (fun i wr => ∃ k : Nat, k ≤ r.value.length ∧ i = .int .i64 k ∧ Hid (r.value.take k = s.value.take k ∧ TwoRegs wr w.heap.size (w.heap.size + 1) r s A B c d ∧ Below w.heap.size w wr)) (fun i _ => r.value.length - (intOf i).toNat)
        case atStart => exact ⟨0, Nat.zero_le _, rfl, rfl, HT.out, ((Below.refl _ w).alloc (Nat.le_refl _) _).alloc (by simp) _⟩
        case round =>
          obtain ⟨k, hk, rfl, HI⟩ := hrel
          obtain ⟨a0, a1, a2, a3, a4, a5, a6, af⟩ := HI.out.2.1.1.cells7
          obtain ⟨b0, b1, b2, b3, b4, b5, b6, bf⟩ := HI.out.2.1.2.1.cells7
          clear a0 a1 a2 a3 a4 a5 b0 b1 b2 b3 b4 b5
          by_cases hlt : k < r.value.length
          · have hlt2 : k < s.value.length := by rw [← HL.out]; exact hlt
            obtain ⟨g, off, rfl, hgl, _, hgc⟩ := HI.out.2.1.2.2.1.at_ (j := k) (by simpa using hlt)
            obtain ⟨g2, off2, rfl, hgl2, _, hgc2⟩ := HI.out.2.1.2.2.2.at_ (j := k) (by simpa using hlt2)
            have hc := hgc k (.int .i64 (r.value[k])) (by simp [hlt])
            have hc2 := hgc2 k (.int .i64 (s.value[k])) (by simp [hlt2])
            have hki : (k : Int) < (r.value.length : Int) := by omega
            have hki2 : (k : Int) < (s.value.length : Int) := by omega
            clear hgc hgc2
            by_cases he : r.value[k] = s.value[k]
            · have HS : Hid (r.value.take (k + 1) = s.value.take (k + 1)) := by
                unfold Hid
                rw [List.take_succ_eq_append_getElem hlt, List.take_succ_eq_append_getElem hlt2, he, HI.out.1]
              have hbe : (r.value[k] != s.value[k]) = false := by simp [he]
              clear he
              go_wp2_with fail
              go_quiet (fail)
              go_wp2_with fail
              go_roundw
              case rel => exact ⟨k + 1, by omega, by go_num, HS.out, HI.out.2.1.drewN _, below_drewN HI.out.2.2 _⟩
              case measure => simp [intOf]; omega
            · have hbe : (r.value[k] != s.value[k]) = true := by simpa using he
              have HS : Hid (r.sameB s = false) := by
                unfold Hid
                rw [HR.out]
                refine decide_eq_false fun e => he ?_
                simp only [e]
              clear he
              rw [HS.out]
              go_wp2_with fail
              go_quiet (fail)
              go_wp2_with fail
              go_ret
              exact ⟨by simp, below_drewN HI.out.2.2 _⟩
          · have hkn : k = r.value.length := by omega
            subst hkn
            have HS : Hid (r.sameB s = true) := by
              unfold Hid
              rw [HR.out]
              refine decide_eq_true ?_
              have h := HI.out.1
              rw [List.take_length] at h
              rw [h, HL.out, List.take_length]
            go_wp2_with fail
            go_ret
            exact ⟨by rw [HS.out]; rfl, HI.out.2.2⟩
      · have hb : (((r.value.length : Nat) : Int) != ((s.value.length : Nat) : Int)) = true := by simp; omega
        have HS : Hid (r.sameB s = false) := by
          unfold Hid
          rw [HR.out]
          exact decide_eq_false fun e => hl (by rw [e])
        clear hl
        rw [HS.out]
        go_enter Tryz.func53, Tryz.ntmps53
        go_wp2_with fail
        go_ret
        exact ⟨by simp, ((Below.refl _ w).alloc (Nat.le_refl _) _).alloc (by simp) _⟩
/-- Two boxed notes without operations and entries, of the same numbers. -/
def TwoNotes (w : World) (b1 b2 : Nat) (kd fr dest : Int) (nums : List Int) (A B : Option Addr) (c d : Nat) : Prop :=
  Blk w b1 30 #[.int .i64 kd, .int .i64 fr, .int .i64 dest, .slice A nums.length c, .slice none 0 0, .slice none 0 0] ∧
  Blk w b2 30 #[.int .i64 kd, .int .i64 fr, .int .i64 dest, .slice B nums.length d, .slice none 0 0, .slice none 0 0] ∧
  Rd w (fun _ => True) 3 A (nums.map (Value.int .i64)) ∧ Rd w (fun _ => True) 3 B (nums.map (Value.int .i64))
theorem TwoNotes.drewN {w : World} {b1 b2 : Nat} {kd fr dest : Int} {nums : List Int} {A B : Option Addr} {c d : Nat} (h : TwoNotes w b1 b2 kd fr dest nums A B c d) (n : Nat) : TwoNotes (w.drewN n) b1 b2 kd fr dest nums A B c d :=
  ⟨h.1.drewN n, h.2.1.drewN n, h.2.2.1.drewN n, h.2.2.2.drewN n⟩
theorem two_notes (F G : Nat → Prop) (kd fr dest : Int) (nums : List Int) (A B : Option Addr) (c d : Nat) (w : World) (hr : Rd w F 3 A (nums.map (Value.int .i64))) (hs : Rd w G 3 B (nums.map (Value.int .i64))) :
    TwoNotes ((w.alloc (.cells #[.int .i64 kd, .int .i64 fr, .int .i64 dest, .slice A nums.length c, .slice none 0 0, .slice none 0 0] 30)).alloc (.cells #[.int .i64 kd, .int .i64 fr, .int .i64 dest, .slice B nums.length d, .slice none 0 0, .slice none 0 0] 30))
      w.heap.size (w.heap.size + 1) kd fr dest nums A B c d :=
  ⟨(Blk.new w _ _).alloc _, Blk.at_ _ _ _ _ (by simp), (hr.any.alloc _).alloc _, (hs.any.alloc _).alloc _⟩
set_option maxRecDepth 100000 in
set_option maxHeartbeats 4000000 in
theorem same05_eq (F G : Nat → Prop) (kd fr dest : Int) (nums : List Int) (A B : Option Addr) (c d : Nat) (w : World) (hr : Rd w F 3 A (nums.map (Value.int .i64))) (hs : Rd w G 3 B (nums.map (Value.int .i64))) (hm : nums.length ≤ 5000) :
    Calls Tryz.prog 14 #[.agg #[.int .i64 kd, .int .i64 fr, .int .i64 dest, .slice A nums.length c, .slice none 0 0, .slice none 0 0], .agg #[.int .i64 kd, .int .i64 fr, .int .i64 dest, .slice B nums.length d, .slice none 0 0, .slice none 0 0]] w (BoolIs true w) := by
  have HT := Lib.hid (two_notes F G kd fr dest nums A B c d w hr hs)
  clear hr hs
  go_enter Tryz.func14, Tryz.ntmps14
  go_wp2_with fail
  go_loopw [5] (fun i wr => ∃ k : Nat, k ≤ nums.length ∧ i = .int .i64 k ∧ Hid (TwoNotes wr w.heap.size (w.heap.size + 1) kd fr dest nums A B c d ∧ Below w.heap.size w wr)) (fun i _ => nums.length - (intOf i).toNat)
  case atStart => exact ⟨0, Nat.zero_le _, rfl, HT.out, ((Below.refl _ w).alloc (Nat.le_refl _) _).alloc (by simp) _⟩
  case round =>
    obtain ⟨k, hk, rfl, HI⟩ := hrel
    obtain ⟨a0, a1, a2, a3, a4, a5, af⟩ := HI.out.1.1.cells6
    obtain ⟨b0, b1, b2, b3, b4, b5, bf⟩ := HI.out.1.2.1.cells6
    clear a0 a1 a2 b0 b1 b2
    by_cases hlt : k < nums.length
    · obtain ⟨g, off, rfl, hgl, _, hgc⟩ := HI.out.1.2.2.1.at_ (j := k) (by simpa using hlt)
      obtain ⟨g2, off2, rfl, hgl2, _, hgc2⟩ := HI.out.1.2.2.2.at_ (j := k) (by simpa using hlt)
      have hc := hgc k (.int .i64 (nums[k])) (by simp [hlt])
      have hc2 := hgc2 k (.int .i64 (nums[k])) (by simp [hlt])
      have hki : (k : Int) < (nums.length : Int) := by omega
      clear hgc hgc2
      go_wp2_with fail
      go_quiet (fail)
      go_wp2_with fail
      go_roundw
      case rel => exact ⟨k + 1, by omega, by go_num, HI.out.1.drewN _, below_drewN HI.out.2 _⟩
      case measure => simp [intOf]; omega
    · have hkn : k = nums.length := by omega
      subst hkn
      go_wp2_with fail
      refine wp_loop_rounds 1 ?_
      rw [rounds_succ]
      go_wp2_with fail
      refine wp_loop_rounds 1 ?_
      rw [rounds_succ]
      go_wp2_with fail
      go_ret
      exact ⟨by simp, HI.out.2⟩
end Go.Proofs.YtepflhniomineaaGreat
