/- ballot.asked, Prepare, Accept: contracts. -/
import Derived.Test.YtepflhniomineaaGreatBal
import Derived.Test.YtepflhniomineaaGreatClone
import Derived.Test.YtepflhniomineaaGreatStore
namespace Go.Proofs.YtepflhniomineaaGreat
open Go.RowKit
/-- An error by its number; 0: none. -/
def errV (n : Int) : Value := if n = 0 then .nilIface else .iface 43 (.int .i64 n)
theorem errV_zero : errV 0 = .nilIface := rfl
theorem errV_two : errV 2 = .iface 43 (.int .i64 2) := rfl
theorem errV_stale : errV 11 = .iface 43 (.int .i64 11) := rfl
def Reg.asked (r : Reg) (b : Bal) : Bool := r.good && b.sound && !b.none

/-- It hands back the error of this number and turns nothing that was there. -/
def ErrIs (n : Int) (w : World) (e : Ending) (w' : World) : Prop := e = .returned (errV n) ∧ Below w.heap.size w w'
def Reg.askedErr (r : Reg) (b : Bal) : Int := if r.asked b then 0 else 2

set_option maxRecDepth 100000 in
set_option maxHeartbeats 1000000 in
theorem asked_any (r : Reg) (A : Option Addr) (c : Nat) (b : Bal) (w : World) (hr : r.wf) (hb : b.wf) :
    Calls Tryz.prog 152 #[r.v A c, b.v] w (ErrIs (r.askedErr b) w) := by
  have HR := Lib.hid hr
  have HB := Lib.hid hb
  clear hr hb
  have hq := eql_none b
  cases h1 : r.good
  · have HG : Hid (r.askedErr b = 2) := by simp [Hid, Reg.askedErr, Reg.asked, h1]
    go_enter Tryz.func152, Tryz.ntmps152
    go_wp2_with fail
    refine (bgood_any r A c _ HR.out).mono ?_; rintro e w1 ⟨rfl, hb1⟩; have hB1 := hb1; obtain ⟨hc1, hf1⟩ := bcell hB1
    go_wp2_with fail
    go_ret
    exact ⟨by rw [HG.out]; rfl, bstep (((Below.refl _ w).alloc (Nat.le_refl _) _).alloc (by simp) _) hB1⟩
  · cases h2 : b.sound
    · have HG : Hid (r.askedErr b = 2) := by simp [Hid, Reg.askedErr, Reg.asked, h1, h2]
      go_enter Tryz.func152, Tryz.ntmps152
      go_wp2_with fail
      refine (bgood_any r A c _ HR.out).mono ?_; rintro e w1 ⟨rfl, hb1⟩; have hB1 := hb1; obtain ⟨hc1, hf1⟩ := bcell hB1
      go_wp2_with fail
      refine (bsound_any b _ HB.out).mono ?_; rintro e w2 ⟨rfl, hb2⟩; have hB2 := bstep hB1 hb2; clear hc1 hf1; obtain ⟨hc2, hf2⟩ := bcell hB2
      go_wp2_with fail
      go_ret
      exact ⟨by rw [HG.out]; rfl, bstep (((Below.refl _ w).alloc (Nat.le_refl _) _).alloc (by simp) _) hB2⟩
    · cases h3 : b.none
      · rw [h3] at hq
        have HG : Hid (r.askedErr b = 0) := by simp [Hid, Reg.askedErr, Reg.asked, h1, h2, h3]
        go_enter Tryz.func152, Tryz.ntmps152
        go_wp2_with fail
        refine (bgood_any r A c _ HR.out).mono ?_; rintro e w1 ⟨rfl, hb1⟩; have hB1 := hb1; obtain ⟨hc1, hf1⟩ := bcell hB1
        go_wp2_with fail
        refine (bsound_any b _ HB.out).mono ?_; rintro e w2 ⟨rfl, hb2⟩; have hB2 := bstep hB1 hb2; clear hc1 hf1; obtain ⟨hc2, hf2⟩ := bcell hB2
        go_wp2_with fail
        go_ret
        exact ⟨by rw [HG.out]; rfl, bstep (((Below.refl _ w).alloc (Nat.le_refl _) _).alloc (by simp) _) hB2⟩
      · rw [h3] at hq
        have HG : Hid (r.askedErr b = 2) := by simp [Hid, Reg.askedErr, Reg.asked, h1, h2, h3]
        go_enter Tryz.func152, Tryz.ntmps152
        go_wp2_with fail
        refine (bgood_any r A c _ HR.out).mono ?_; rintro e w1 ⟨rfl, hb1⟩; have hB1 := hb1; obtain ⟨hc1, hf1⟩ := bcell hB1
        go_wp2_with fail
        refine (bsound_any b _ HB.out).mono ?_; rintro e w2 ⟨rfl, hb2⟩; have hB2 := bstep hB1 hb2; clear hc1 hf1; obtain ⟨hc2, hf2⟩ := bcell hB2
        go_wp2_with fail
        go_ret
        exact ⟨by rw [HG.out]; rfl, bstep (((Below.refl _ w).alloc (Nat.le_refl _) _).alloc (by simp) _) hB2⟩

def Reg.zero : Reg := ⟨⟨0, 0, 0⟩, ⟨0, 0, 0⟩, []⟩
/-- A register and an error are handed back. -/
def RegOut (r : Reg) (n : Int) (w : World) (e : Ending) (w' : World) : Prop :=
  ∃ A' c', e = .returned (.tuple #[r.v A' c', errV n]) ∧ r.value.length ≤ c' ∧ Rd w' (fun k => w.heap.size ≤ k) 3 A' (r.value.map (Value.int .i64)) ∧ Below w.heap.size w w'
def Reg.prep (r : Reg) (b : Bal) : Reg × Int :=
  if r.asked b then if r.promised.cmp b < 0 then (⟨b, r.accepted, r.value⟩, 0) else (Reg.zero, 11) else (Reg.zero, 2)
set_option maxRecDepth 100000 in
set_option maxHeartbeats 1000000 in
theorem prepare_any (r : Reg) (A : Option Addr) (c : Nat) (F : Nat → Prop) (b : Bal) (w : World) (hr : r.wf) (hb : b.wf) (hA : Rd w F 3 A (r.value.map (Value.int .i64))) (hF : Few r.value.length) :
    Calls Tryz.prog 100 #[r.v A c, b.v] w (RegOut (r.prep b).1 (r.prep b).2 w) := by
  have HR := Lib.hid hr
  have HB := Lib.hid hb
  have HA := Lib.hid hA
  clear hr hb hA
  cases h1 : r.asked b
  · have HE : Hid (r.askedErr b = 2) := by simp [Hid, Reg.askedErr, h1]
    have HG : Hid (r.prep b = (Reg.zero, 2)) := by simp [Hid, Reg.prep, h1]
    rw [HG.out]
    go_enter Tryz.func100, Tryz.ntmps100
    go_wp2_with fail
    refine (asked_any r A c b _ HR.out HB.out).mono ?_; rintro e w1 ⟨rfl, hb1⟩; have hB1 := hb1; obtain ⟨hc1, hf1⟩ := bcell hB1
    rw [HE.out, errV_two]
    have hz1 : w1.heap.size ≥ w.heap.size + 1 + 1 + 1 := by simpa using hB1.size
    have HK := Lib.hid (Blk.below (Blk.at_ _ _ _ (w.heap.size + 1 + 1) (by simp)) hB1 (by simp))
    go_wp2_with (refine wpList_store_blk rfl 105 (.tmp 4) (.tmp 12) rfl rfl rfl HK.out (Reg.zero.v none 0) rfl (by kernel_rfl) rfl rfl ?_)
    intro w2 hk2 hK2 hz2
    go_wp2_with fail
    refine bodyPost_ret (results_blk_tmp rfl _ _ rfl hk2 Tryz.underlying105 rfl (by kernel_rfl)) rfl ?_
    refine ⟨none, 0, rfl, by simp [Reg.zero], Rd.nil _ _ _ _, ?_⟩
    exact (bstep ((((Below.refl _ w).alloc (Nat.le_refl _) _).alloc (by simp) _).alloc (by simp; omega) _) hB1).trans (hK2.below (by omega) (by omega))
  · have HE : Hid (r.askedErr b = 0) := by simp [Hid, Reg.askedErr, h1]
    cases h2 : decide (r.promised.cmp b < 0)
    · have HG : Hid (r.prep b = (Reg.zero, 11)) := by simp [Hid, Reg.prep, h1]; simpa using h2
      rw [HG.out]
      go_enter Tryz.func100, Tryz.ntmps100
      go_wp2_with fail
      refine (asked_any r A c b _ HR.out HB.out).mono ?_; rintro e w1 ⟨rfl, hb1⟩; have hB1 := hb1; obtain ⟨hc1, hf1⟩ := bcell hB1
      rw [HE.out, errV_zero]
      go_wp2_with fail
      refine (bless_any r.promised b _).mono ?_; rintro e w2 ⟨rfl, hb2⟩; have hB2 := bstep hB1 hb2; clear hc1 hf1; obtain ⟨hc2, hf2⟩ := bcell hB2
      have hz2 : w2.heap.size ≥ w.heap.size + 1 + 1 + 1 := by simpa using hB2.size
      have HK := Lib.hid (Blk.below (Blk.at_ _ _ _ (w.heap.size + 1 + 1) (by simp)) hB2 (by simp))
      go_wp2_with (refine wpList_store_blk rfl 105 (.tmp 4) (.tmp 19) rfl rfl rfl HK.out (Reg.zero.v none 0) rfl (by kernel_rfl) rfl rfl ?_)
      intro w3 hk3 hK3 hz3
      go_wp2_with fail
      refine bodyPost_ret (results_blk_tmp rfl _ _ rfl hk3 Tryz.underlying105 rfl (by kernel_rfl)) rfl ?_
      refine ⟨none, 0, rfl, by simp [Reg.zero], Rd.nil _ _ _ _, ?_⟩
      exact (bstep ((((Below.refl _ w).alloc (Nat.le_refl _) _).alloc (by simp) _).alloc (by simp; omega) _) hB2).trans (hK3.below (by omega) (by omega))
    · have HG : Hid (r.prep b = (⟨b, r.accepted, r.value⟩, 0)) := by simp [Hid, Reg.prep, h1]; simpa using h2
      rw [HG.out]
      go_enter Tryz.func100, Tryz.ntmps100
      go_wp2_with fail
      refine (asked_any r A c b _ HR.out HB.out).mono ?_; rintro e w1 ⟨rfl, hb1⟩; have hB1 := hb1; obtain ⟨hc1, hf1⟩ := bcell hB1
      rw [HE.out, errV_zero]
      go_wp2_with fail
      refine (bless_any r.promised b _).mono ?_; rintro e w2 ⟨rfl, hb2⟩; have hB2 := bstep hB1 hb2; clear hc1 hf1; obtain ⟨hc2, hf2⟩ := bcell hB2
      have hz2 : w2.heap.size ≥ w.heap.size + 1 + 1 + 1 := by simpa using hB2.size
      have HK := Lib.hid (Blk.below (Blk.at_ _ _ _ (w.heap.size + 1 + 1) (by simp)) hB2 (by simp))
      go_wp2_with fail
      have hlt2 : w.heap.size + 1 + 1 < w2.heap.size := by omega
      go_region_held3 (fun w' => ∀ p : Addr, p.block < w.heap.size + 2 → w'.cell? p = w2.cell? p)
        (first | (with_reducible exact fun p _ => World.cell?_drew _ p) | (with_reducible exact fun p hp => (hb3.cell (by simp; omega)).trans (World.cell?_drew _ p)) | (with_reducible exact fun p hp => ((chain7 HK3.out _ _ _ _ _ _ _).2.cell (by have := hb3.size; simp at this; omega) (by omega)).trans ((hb3.cell (by simp; omega)).trans (World.cell?_drew _ p))))
        (first
          | (go_at_call 106; refine (clone_ints_any F A r.value.length c (r.value.map (Value.int .i64)) _ ?_ ?_ ?_ ?_).mono ?_; exact ((((HA.out.alloc _).alloc _).alloc _).below hB2).drew; (simp); (simp [Value.oneCell']); exact hF; rintro e w3 ⟨A', c', rfl, hown, hb3⟩; have HK3 := Lib.hid (Blk.below HK.out.drew hb3 (by simp; omega)); obtain ⟨k0, k1, k2, k3, k4, k5, k6, kf⟩ := HK3.out.cells7))
      have hz3 : w3.heap.size ≥ w2.heap.size := by simpa using hb3.size
      obtain ⟨hk4, hK4⟩ := chain7 HK3.out (.int .i64 b.n) (.int .i64 b.node) (.int .i64 b.life) (.int .i64 r.accepted.n) (.int .i64 r.accepted.node) (.int .i64 r.accepted.life) (.slice A' r.value.length c')
      go_wp2_with fail
      refine bodyPost_ret (results_blk_tmp rfl _ _ rfl hk4 Tryz.underlying105 rfl (by kernel_rfl)) rfl ?_
      refine ⟨A', c', rfl, hown.2.1, (hown.rd.keep hK4 fun k _ hk => ?_).mono fun k _ hk => ?_, ?_⟩
      · simp at hk; omega
      · simp at hk; omega
      · exact (bstep (bstep ((((Below.refl _ w).alloc (Nat.le_refl _) _).alloc (by simp) _).alloc (by simp; omega) _) hB2).drew hb3).trans (hK4.below (by omega) (by omega))

def Reg.acc (r : Reg) (b : Bal) (l : List Int) : Reg × Int :=
  if r.asked b then if 32 < l.length then (Reg.zero, 2) else if b.cmp r.promised < 0 then (Reg.zero, 11) else (⟨b, b, l⟩, 0) else (Reg.zero, 2)
set_option maxRecDepth 100000 in
set_option maxHeartbeats 2000000 in
theorem accept_any (r : Reg) (A : Option Addr) (c : Nat) (F : Nat → Prop) (b : Bal) (l : List Int) (A2 : Option Addr) (c2 : Nat) (w : World) (hr : r.wf) (hb : b.wf) (hA : Rd w F 3 A2 (l.map (Value.int .i64))) (hF : Few l.length) :
    Calls Tryz.prog 101 #[r.v A c, b.v, .slice A2 l.length c2] w (RegOut (r.acc b l).1 (r.acc b l).2 w) := by
  have HR := Lib.hid hr
  have HB := Lib.hid hb
  have HA := Lib.hid hA
  clear hr hb hA
  cases h1 : r.asked b
  · have HE : Hid (r.askedErr b = 2) := by simp [Hid, Reg.askedErr, h1]
    have HG : Hid (r.acc b l = (Reg.zero, 2)) := by simp [Hid, Reg.acc, h1]
    rw [HG.out]
    go_enter Tryz.func101, Tryz.ntmps101
    go_wp2_with fail
    refine (asked_any r A c b _ HR.out HB.out).mono ?_; rintro e w1 ⟨rfl, hb1⟩; have hB1 := hb1; obtain ⟨hc1, hf1⟩ := bcell hB1
    rw [HE.out, errV_two]
    have hz1 : w1.heap.size ≥ w.heap.size + 1 + 1 + 1 := by simpa using hB1.size
    have HK := Lib.hid (Blk.below (Blk.at_ _ _ _ (w.heap.size + 1 + 1) (by simp)) hB1 (by simp))
    go_wp2_with (refine wpList_store_blk rfl 105 (.tmp 6) (.tmp 15) rfl rfl rfl HK.out (Reg.zero.v none 0) rfl (by kernel_rfl) rfl rfl ?_)
    intro w2 hk2 hK2 hz2
    go_wp2_with fail
    refine bodyPost_ret (results_blk_tmp rfl _ _ rfl hk2 Tryz.underlying105 rfl (by kernel_rfl)) rfl ?_
    refine ⟨none, 0, rfl, by simp [Reg.zero], Rd.nil _ _ _ _, ?_⟩
    exact (bstep ((((Below.refl _ w).alloc (Nat.le_refl _) _).alloc (by simp) _).alloc (by simp; omega) _) hB1).trans (hK2.below (by omega) (by omega))
  · have HE : Hid (r.askedErr b = 0) := by simp [Hid, Reg.askedErr, h1]
    rcases Nat.lt_or_ge 32 l.length with h3 | h3
    · have HG : Hid (r.acc b l = (Reg.zero, 2)) := by simp [Hid, Reg.acc, h1, h3]
      rw [HG.out]
      go_enter Tryz.func101, Tryz.ntmps101
      go_wp2_with fail
      refine (asked_any r A c b _ HR.out HB.out).mono ?_; rintro e w1 ⟨rfl, hb1⟩; have hB1 := hb1; obtain ⟨hc1, hf1⟩ := bcell hB1
      rw [HE.out, errV_zero]
      have hz1 : w1.heap.size ≥ w.heap.size + 1 + 1 + 1 := by simpa using hB1.size
      have HK := Lib.hid (Blk.below (Blk.at_ _ _ _ (w.heap.size + 1 + 1) (by simp)) hB1 (by simp))
      go_wp2_with (refine wpList_store_blk rfl 105 (.tmp 6) (.tmp 21) rfl rfl rfl HK.out (Reg.zero.v none 0) rfl (by kernel_rfl) rfl rfl ?_)
      intro w2 hk2 hK2 hz2
      go_wp2_with fail
      refine bodyPost_ret (results_blk_tmp rfl _ _ rfl hk2 Tryz.underlying105 rfl (by kernel_rfl)) rfl ?_
      refine ⟨none, 0, rfl, by simp [Reg.zero], Rd.nil _ _ _ _, ?_⟩
      exact (bstep ((((Below.refl _ w).alloc (Nat.le_refl _) _).alloc (by simp) _).alloc (by simp; omega) _) hB1).trans (hK2.below (by omega) (by omega))
    · cases h2 : decide (b.cmp r.promised < 0)
      · have HG : Hid (r.acc b l = (⟨b, b, l⟩, 0)) := by
          have h2' := of_decide_eq_false h2
          simp only [Hid, Reg.acc, h1, if_true]
          rw [if_neg (by omega), if_neg h2']
        rw [HG.out]
        go_enter Tryz.func101, Tryz.ntmps101
        go_wp2_with fail
        refine (asked_any r A c b _ HR.out HB.out).mono ?_; rintro e w1 ⟨rfl, hb1⟩; have hB1 := hb1; obtain ⟨hc1, hf1⟩ := bcell hB1
        rw [HE.out, errV_zero]
        go_wp2_with fail
        refine (bless_any b r.promised _).mono ?_; rintro e w2 ⟨rfl, hb2⟩; have hB2 := bstep hB1 hb2; clear hc1 hf1; obtain ⟨hc2, hf2⟩ := bcell hB2
        have hz2 : w2.heap.size ≥ w.heap.size + 1 + 1 + 1 := by simpa using hB2.size
        have HK := Lib.hid (Blk.below (Blk.at_ _ _ _ (w.heap.size + 1 + 1) (by simp)) hB2 (by simp))
        go_wp2_with fail
        have hlt2 : w.heap.size + 1 + 1 < w2.heap.size := by omega
        go_region_held3 (fun w' => ∀ p : Addr, p.block < w.heap.size + 2 → w'.cell? p = w2.cell? p)
          (first | (with_reducible exact fun p _ => World.cell?_drew _ p) | (with_reducible exact fun p hp => (hb3.cell (by simp; omega)).trans (World.cell?_drew _ p)) | (with_reducible exact fun p hp => ((chain7 HK3.out _ _ _ _ _ _ _).2.cell (by have := hb3.size; simp at this; omega) (by omega)).trans ((hb3.cell (by simp; omega)).trans (World.cell?_drew _ p))))
          (first
            | (go_at_call 106; refine (clone_ints_any F A2 l.length c2 (l.map (Value.int .i64)) _ ?_ ?_ ?_ ?_).mono ?_; exact ((((HA.out.alloc _).alloc _).alloc _).below hB2).drew; (simp); (simp [Value.oneCell']); exact hF; rintro e w3 ⟨A', c', rfl, hown, hb3⟩; have HK3 := Lib.hid (Blk.below HK.out.drew hb3 (by simp; omega)); obtain ⟨k0, k1, k2, k3, k4, k5, k6, kf⟩ := HK3.out.cells7))
        have hz3 : w3.heap.size ≥ w2.heap.size := by simpa using hb3.size
        obtain ⟨hk4, hK4⟩ := chain7 HK3.out (.int .i64 b.n) (.int .i64 b.node) (.int .i64 b.life) (.int .i64 b.n) (.int .i64 b.node) (.int .i64 b.life) (.slice A' l.length c')
        go_wp2_with fail
        refine bodyPost_ret (results_blk_tmp rfl _ _ rfl hk4 Tryz.underlying105 rfl (by kernel_rfl)) rfl ?_
        refine ⟨A', c', rfl, hown.2.1, (hown.rd.keep hK4 fun k _ hk => ?_).mono fun k _ hk => ?_, ?_⟩
        · simp at hk; omega
        · simp at hk; omega
        · exact (bstep (bstep ((((Below.refl _ w).alloc (Nat.le_refl _) _).alloc (by simp) _).alloc (by simp; omega) _) hB2).drew hb3).trans (hK4.below (by omega) (by omega))
      · have HG : Hid (r.acc b l = (Reg.zero, 11)) := by
          have h2' := of_decide_eq_true h2
          simp only [Hid, Reg.acc, h1, if_true]
          rw [if_neg (by omega), if_pos h2']
        rw [HG.out]
        go_enter Tryz.func101, Tryz.ntmps101
        go_wp2_with fail
        refine (asked_any r A c b _ HR.out HB.out).mono ?_; rintro e w1 ⟨rfl, hb1⟩; have hB1 := hb1; obtain ⟨hc1, hf1⟩ := bcell hB1
        rw [HE.out, errV_zero]
        go_wp2_with fail
        refine (bless_any b r.promised _).mono ?_; rintro e w2 ⟨rfl, hb2⟩; have hB2 := bstep hB1 hb2; clear hc1 hf1; obtain ⟨hc2, hf2⟩ := bcell hB2
        have hz2 : w2.heap.size ≥ w.heap.size + 1 + 1 + 1 := by simpa using hB2.size
        have HK := Lib.hid (Blk.below (Blk.at_ _ _ _ (w.heap.size + 1 + 1) (by simp)) hB2 (by simp))
        go_wp2_with (refine wpList_store_blk rfl 105 (.tmp 6) (.tmp 28) rfl rfl rfl HK.out (Reg.zero.v none 0) rfl (by kernel_rfl) rfl rfl ?_)
        intro w3 hk3 hK3 hz3
        go_wp2_with fail
        refine bodyPost_ret (results_blk_tmp rfl _ _ rfl hk3 Tryz.underlying105 rfl (by kernel_rfl)) rfl ?_
        refine ⟨none, 0, rfl, by simp [Reg.zero], Rd.nil _ _ _ _, ?_⟩
        exact (bstep ((((Below.refl _ w).alloc (Nat.le_refl _) _).alloc (by simp) _).alloc (by simp; omega) _) hB2).trans (hK3.below (by omega) (by omega))
end Go.Proofs.YtepflhniomineaaGreat
