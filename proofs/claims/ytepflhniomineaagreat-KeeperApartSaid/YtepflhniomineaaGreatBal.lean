/- Ballots and registers: contracts. -/
import Derived.Test.YtepflhniomineaaGreatCmp
import Derived.Test.YtepflhniomineaaGreatNum
import Derived.Test.YtepflhniomineaaGreatEqs
import Derived.Deep.RegionHeld3
import Derived.Deep.QuietTactic
import Derived.BigQuiet
namespace Go.Proofs.YtepflhniomineaaGreat
open Go.RowKit

structure Bal where
  n : Int
  node : Int
  life : Int
deriving DecidableEq
abbrev Bal.v (b : Bal) : Value := .agg #[.int .i64 b.n, .int .i64 b.node, .int .i64 b.life]
def Bal.cmp (a b : Bal) : Int := orL [cmpI a.n b.n, cmpI a.node b.node, cmpI a.life b.life]
set_option maxHeartbeats 400000 in
theorem bcompare_any (a b : Bal) (w : World) : Calls Tryz.prog 190 #[a.v, b.v] w fun e w' => e = .returned (.int .i64 (a.cmp b)) ∧ Below w.heap.size w w' := by
  go_enter Tryz.func190, Tryz.ntmps190
  go_wp2_with fail
  go_region_held3 (fun w' => ∀ p : Addr, p.block < w.heap.size + 2 → w'.cell? p = ((w.alloc (.cells #[.int .i64 a.n, .int .i64 a.node, .int .i64 a.life] 103)).alloc (.cells #[.int .i64 b.n, .int .i64 b.node, .int .i64 b.life] 103)).cell? p)
    (first | (intro p hp; simp only [World.cell?_drew]; exact World.cell?_alloc_lt _ _ _ (by simp; omega)) | go_keep)
    (first
      | (go_at_call 122; refine (compare_any _ _ _).mono ?_; rintro e w' ⟨rfl, rfl⟩)
      | (go_at_call 121; refine (or_any _ _ (fun _ => True) [cmpI a.n b.n, cmpI a.node b.node, cmpI a.life b.life] _ ?_ ?_).mono ?_; exact Rd.drew (Rd.new _ _ _ _ (by simp)); (simp); rintro e w' ⟨rfl, rfl⟩))
  go_wp2
  go_ret
  exact ⟨rfl, by simpa using ((((Below.refl _ w).alloc (Nat.le_refl _) _).alloc (by simp) _).alloc (by simp; omega) _).drew⟩

set_option maxHeartbeats 400000 in
theorem bless_any (a b : Bal) (w : World) : Calls Tryz.prog 153 #[a.v, b.v] w fun e w' => e = .returned (.bool (decide (a.cmp b < 0))) ∧ Below w.heap.size w w' := by
  go_enter Tryz.func153, Tryz.ntmps153
  go_wp2_with (go_at_call 190; refine (bcompare_any a b _).mono ?_; rintro e w' ⟨rfl, hb⟩)
  go_ret
  exact ⟨rfl, ((((Below.refl _ w).alloc (Nat.le_refl _) _).alloc (by simp) _).trans (hb.mono (by simp; omega)))⟩

/-- All numbers of a ballot are int's. -/
def Bal.wf (b : Bal) : Prop := In64 b.n ∧ In64 b.node ∧ In64 b.life
def Bal.sound (b : Bal) : Bool := decide (0 ≤ b.n ∧ 0 ≤ b.node ∧ 0 ≤ b.life)
theorem ret_bool {a b : Bool} (h : a = b) : Ending.returned (.bool a) = .returned (.bool b) := by rw [h]
theorem sound_bits {b : Bal} (h : b.wf) : decide (0 ≤ bits .or .i64 (bits .or .i64 b.n b.node) b.life) = b.sound := by
  unfold Bal.sound
  simp only [or_nonneg (in64_bits _ _ _) h.2.2, or_nonneg h.1 h.2.1, and_assoc]
set_option maxHeartbeats 400000 in
theorem bsound_any (b : Bal) (w : World) (hb : b.wf) : Calls Tryz.prog 187 #[b.v] w fun e w' => e = .returned (.bool b.sound) ∧ Below w.heap.size w w' := by
  have H := Lib.hid (sound_bits hb)
  clear hb
  go_enter Tryz.func187, Tryz.ntmps187
  go_wp2
  go_ret
  exact ⟨ret_bool H.out, (Below.refl _ w).alloc (Nat.le_refl _) _⟩

/-- A register. -/
structure Reg where
  promised : Bal
  accepted : Bal
  value : List Int
def Reg.wf (r : Reg) : Prop := r.promised.wf ∧ r.accepted.wf ∧ ∀ x ∈ r.value, In64 x
abbrev Reg.v (r : Reg) (A : Option Addr) (c : Nat) : Value :=
  .agg #[.int .i64 r.promised.n, .int .i64 r.promised.node, .int .i64 r.promised.life, .int .i64 r.accepted.n, .int .i64 r.accepted.node, .int .i64 r.accepted.life, .slice A r.value.length c]
def Bal.none (b : Bal) : Bool := b.n == 0 && (b.node == 0 && (b.life == 0 && true))
def Reg.good (r : Reg) : Bool := r.promised.sound && r.accepted.sound && !(decide (r.promised.cmp r.accepted < 0)) && decide (r.value.length ≤ 32) && !(r.accepted.none && decide (0 < r.value.length))
theorem eql_none (b : Bal) (w : World) : (binOp .eql 103 b.v (.agg #[.int .i64 0, .int .i64 0, .int .i64 0])).run Tryz.prog w = .ok (.bool b.none) w := run_eql_ballot _ _ _ _ _ _ _
set_option maxHeartbeats 1000000 in
theorem bgood_any (r : Reg) (A : Option Addr) (c : Nat) (w : World) (hr : r.wf) : Calls Tryz.prog 148 #[r.v A c] w fun e w' => e = .returned (.bool r.good) ∧ Below w.heap.size w w' := by
  have HR := Lib.hid hr
  clear hr
  have hq := eql_none r.accepted
  cases h1 : r.promised.sound
  · have HG : Hid (r.good = false) := by simp [Hid, Reg.good, h1]
    go_enter Tryz.func148, Tryz.ntmps148
    go_wp2_with (first | (go_at_call 187; refine (bsound_any _ _ ?_).mono ?_; exact HR.out.1; rintro e w1 ⟨rfl, hb1⟩))
    go_ret
    exact ⟨ret_bool HG.out.symm, ((Below.refl _ w).alloc (Nat.le_refl _) _).trans (hb1.mono (by simp))⟩
  · cases h2 : r.accepted.sound
    · have HG : Hid (r.good = false) := by simp [Hid, Reg.good, h1, h2]
      go_enter Tryz.func148, Tryz.ntmps148
      go_wp2_with fail
      refine (bsound_any r.promised _ HR.out.1).mono ?_; rintro e w1 ⟨rfl, hb1⟩; have hB1 := hb1; obtain ⟨hc1, hf1⟩ := bcell hB1
      go_wp2_with fail
      refine (bsound_any r.accepted _ HR.out.2.1).mono ?_; rintro e w2 ⟨rfl, hb2⟩; have hB2 := bstep hB1 hb2; clear hc1 hf1; obtain ⟨hc2, hf2⟩ := bcell hB2
      go_wp2_with fail
      go_ret
      exact ⟨ret_bool HG.out.symm, bstep ((Below.refl _ w).alloc (Nat.le_refl _) _) hB2⟩
    · cases h3 : decide (r.promised.cmp r.accepted < 0)
      · rcases Nat.lt_or_ge 32 r.value.length with h4 | h4
        · have HG : Hid (r.good = false) := by simp [Hid, Reg.good, h1, h2, h3] <;> omega
          go_enter Tryz.func148, Tryz.ntmps148
          go_wp2_with fail
          refine (bsound_any r.promised _ HR.out.1).mono ?_; rintro e w1 ⟨rfl, hb1⟩; have hB1 := hb1; obtain ⟨hc1, hf1⟩ := bcell hB1
          go_wp2_with fail
          refine (bsound_any r.accepted _ HR.out.2.1).mono ?_; rintro e w2 ⟨rfl, hb2⟩; have hB2 := bstep hB1 hb2; clear hc1 hf1; obtain ⟨hc2, hf2⟩ := bcell hB2
          go_wp2_with fail
          refine (bless_any r.promised r.accepted _).mono ?_; rintro e w3 ⟨rfl, hb3⟩; have hB3 := bstep hB2 hb3; clear hc2 hf2; obtain ⟨hc3, hf3⟩ := bcell hB3
          go_wp2_with fail
          go_ret
          exact ⟨ret_bool HG.out.symm, bstep ((Below.refl _ w).alloc (Nat.le_refl _) _) hB3⟩
        · cases h5 : r.accepted.none
          · have HG : Hid (r.good = true) := by simp [Hid, Reg.good, h1, h2, h3, h4, h5]
            rw [h5] at hq
            go_enter Tryz.func148, Tryz.ntmps148
            go_wp2_with fail
            refine (bsound_any r.promised _ HR.out.1).mono ?_; rintro e w1 ⟨rfl, hb1⟩; have hB1 := hb1; obtain ⟨hc1, hf1⟩ := bcell hB1
            go_wp2_with fail
            refine (bsound_any r.accepted _ HR.out.2.1).mono ?_; rintro e w2 ⟨rfl, hb2⟩; have hB2 := bstep hB1 hb2; clear hc1 hf1; obtain ⟨hc2, hf2⟩ := bcell hB2
            go_wp2_with fail
            refine (bless_any r.promised r.accepted _).mono ?_; rintro e w3 ⟨rfl, hb3⟩; have hB3 := bstep hB2 hb3; clear hc2 hf2; obtain ⟨hc3, hf3⟩ := bcell hB3
            go_wp2_with fail
            go_ret
            exact ⟨ret_bool HG.out.symm, bstep ((Below.refl _ w).alloc (Nat.le_refl _) _) hB3⟩
          · rcases Nat.eq_zero_or_pos r.value.length with h6 | h6
            · have HG : Hid (r.good = true) := by simp [Hid, Reg.good, h1, h2, h3, h5, h6]
              rw [h5] at hq
              have h7 : (0 < r.value.length) = False := by simp [h6]
              clear h6
              go_enter Tryz.func148, Tryz.ntmps148
              go_wp2_with fail
              refine (bsound_any r.promised _ HR.out.1).mono ?_; rintro e w1 ⟨rfl, hb1⟩; have hB1 := hb1; obtain ⟨hc1, hf1⟩ := bcell hB1
              go_wp2_with fail
              refine (bsound_any r.accepted _ HR.out.2.1).mono ?_; rintro e w2 ⟨rfl, hb2⟩; have hB2 := bstep hB1 hb2; clear hc1 hf1; obtain ⟨hc2, hf2⟩ := bcell hB2
              go_wp2_with fail
              refine (bless_any r.promised r.accepted _).mono ?_; rintro e w3 ⟨rfl, hb3⟩; have hB3 := bstep hB2 hb3; clear hc2 hf2; obtain ⟨hc3, hf3⟩ := bcell hB3
              go_wp2_with fail
              go_ret
              exact ⟨ret_bool HG.out.symm, bstep ((Below.refl _ w).alloc (Nat.le_refl _) _) hB3⟩
            · have HG : Hid (r.good = false) := by simp [Hid, Reg.good, h1, h2, h3, h4, h5, h6]
              rw [h5] at hq
              go_enter Tryz.func148, Tryz.ntmps148
              go_wp2_with fail
              refine (bsound_any r.promised _ HR.out.1).mono ?_; rintro e w1 ⟨rfl, hb1⟩; have hB1 := hb1; obtain ⟨hc1, hf1⟩ := bcell hB1
              go_wp2_with fail
              refine (bsound_any r.accepted _ HR.out.2.1).mono ?_; rintro e w2 ⟨rfl, hb2⟩; have hB2 := bstep hB1 hb2; clear hc1 hf1; obtain ⟨hc2, hf2⟩ := bcell hB2
              go_wp2_with fail
              refine (bless_any r.promised r.accepted _).mono ?_; rintro e w3 ⟨rfl, hb3⟩; have hB3 := bstep hB2 hb3; clear hc2 hf2; obtain ⟨hc3, hf3⟩ := bcell hB3
              go_wp2_with fail
              go_ret
              exact ⟨ret_bool HG.out.symm, bstep ((Below.refl _ w).alloc (Nat.le_refl _) _) hB3⟩
      · have HG : Hid (r.good = false) := by simp [Hid, Reg.good, h1, h2, h3]
        go_enter Tryz.func148, Tryz.ntmps148
        go_wp2_with fail
        refine (bsound_any r.promised _ HR.out.1).mono ?_; rintro e w1 ⟨rfl, hb1⟩; have hB1 := hb1; obtain ⟨hc1, hf1⟩ := bcell hB1
        go_wp2_with fail
        refine (bsound_any r.accepted _ HR.out.2.1).mono ?_; rintro e w2 ⟨rfl, hb2⟩; have hB2 := bstep hB1 hb2; clear hc1 hf1; obtain ⟨hc2, hf2⟩ := bcell hB2
        go_wp2_with fail
        refine (bless_any r.promised r.accepted _).mono ?_; rintro e w3 ⟨rfl, hb3⟩; have hB3 := bstep hB2 hb3; clear hc2 hf2; obtain ⟨hc3, hf3⟩ := bcell hB3
        go_wp2_with fail
        go_ret
        exact ⟨ret_bool HG.out.symm, bstep ((Below.refl _ w).alloc (Nat.le_refl _) _) hB3⟩
end Go.Proofs.YtepflhniomineaaGreat
