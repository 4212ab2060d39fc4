/- slices.Grow from nothing, slices.Concat of int slices. -/
import Derived.Test.YtepflhniomineaaGreatTape3
import Derived.Laws.AppendOwn
import Derived.Lib.AppendZeros
namespace Go.Proofs.YtepflhniomineaaGreat
open Go.RowKit
set_option maxRecDepth 100000 in
set_option maxHeartbeats 1000000 in
theorem grow_any (n : Nat) (w : World) (hn : n ≤ 6000) :
    Calls Tryz.prog 191 #[.slice none 0 0, .int .i64 n] w (SliceOut w 3 1 0 []) := by
  obtain ⟨i0, hi, iz0, iz1, iz2⟩ := info_parts Tryz.info3
  rcases Nat.eq_zero_or_pos n with h0 | h0
  · subst h0
    go_enter Tryz.func191, Tryz.ntmps191
    go_wp2
    go_ret
    exact ⟨none, 0, rfl, Own.nil _ _ _ _ _, Below.refl _ _⟩
  · have hr := Lib.run_append_nil_zeros (P := Tryz.prog) w 27 3 27 3 i0 (.int .i64 0) .i64 .i64 Tryz.underlying27 Tryz.underlying3 hi iz0 n h0 (by rw [iz1]; omega) (by omega) (by rw [iz2]; omega)
    have hge := grownCap_ge w n 0 3
    have hcm : grownCap w n 0 3 ≤ maxLen := grownCap_le_maxLen w n 0 3 (by unfold maxLen; omega)
    have hcm' : (grownCap w n 0 3 : Nat) ≤ 9223372036854775807 := by unfold maxLen at hcm; omega
    generalize hgc : grownCap w n 0 3 = gc at hr hge hcm hcm'
    go_enter Tryz.func191, Tryz.ntmps191
    go_wp2_with (at_builtin; go_must (refine Lib.wpList_append_run _ rfl (.tmp 20) (.tmp 21) 27 3 rfl _ _ rfl rfl _ _ hr ?_))
    go_wp2
    go_ret
    refine ⟨some ⟨w.heap.size, 0, none⟩, gc, by simp, ?_, ?_⟩
    · refine ⟨by simp, Nat.zero_le _, hcm, .inr ⟨w.heap.size, _, rfl, Nat.le_refl _, heap_alloc_new w.drew _, ?_, by simp⟩⟩
      simp [size_zeroCells]; omega
    · exact (Below.refl _ w).drew.alloc (Nat.le_refl _) _
/-- A part: where it stands, its capacity, its numbers. -/
def pv (p : Option Addr × Nat × List Int) : Value := .slice p.1 p.2.2.length p.2.1
def catL (Ps : List (Option Addr × Nat × List Int)) : List Int := Ps.flatMap (·.2.2)
theorem catL_take (Ps : List (Option Addr × Nat × List Int)) (k : Nat) (h : k < Ps.length) : catL (Ps.take (k + 1)) = catL (Ps.take k) ++ Ps[k].2.2 := by
  unfold catL
  rw [List.take_succ_eq_append_getElem h, List.flatMap_append]
  simp only [List.flatMap_cons, List.flatMap_nil, List.append_nil]
theorem catL_le (Ps : List (Option Addr × Nat × List Int)) (k : Nat) : (catL (Ps.take k)).length ≤ (catL Ps).length := by
  have h : (catL (Ps.take k ++ Ps.drop k)).length = (catL (Ps.take k)).length + (catL (Ps.drop k)).length := by unfold catL; rw [List.flatMap_append, List.length_append]
  rw [List.take_append_drop] at h
  omega
theorem oneCell_int (l : List Int) : ∀ u ∈ l.map (Value.int .i64), u.oneCell' = true := by
  intro u hu
  simp at hu
  obtain ⟨a, _, rfl⟩ := hu
  rfl
set_option maxRecDepth 100000 in
set_option maxHeartbeats 1000000 in
theorem concat_any (F Fg : Nat → Prop) (Ag : Option Addr) (cg : Nat) (Ps : List (Option Addr × Nat × List Int)) (w : World) (hg : Rd w Fg 27 Ag (Ps.map pv))
    (hp : ∀ p ∈ Ps, Rd w F 3 p.1 (p.2.2.map (Value.int .i64))) (hm : (catL Ps).length ≤ 6000) (hl : Ps.length ≤ 6000) :
    Calls Tryz.prog 156 #[.slice Ag Ps.length cg] w (SliceOut w 3 1 (catL Ps).length ((catL Ps).map (Value.int .i64))) := by
  obtain ⟨i0, hi, iz0, iz1, iz2⟩ := info_parts Tryz.info3
  have HG := Lib.hid hg
  have HP := Lib.hid hp
  clear hg hp
  go_enter Tryz.func156, Tryz.ntmps156
  go_wp2
  go_loop [3, 11] (fun s i => ∃ k : Nat, k ≤ Ps.length ∧ i = .int .i64 k ∧ s = .int .i64 (catL (Ps.take k)).length) (fun _ i => Ps.length - (intOf i).toNat)
  case atStart => exact ⟨0, Nat.zero_le _, rfl, rfl⟩
  case round =>
    obtain ⟨k, hk, rfl, rfl⟩ := hrel
    by_cases hlt : k < Ps.length
    · obtain ⟨g, off, rfl, _, _, hc⟩ := HG.out.at_ (j := k) (by simpa using hlt)
      have hck := hc k (pv Ps[k]) (by simp [hlt])
      unfold pv at hck
      clear hc
      have hcl := catL_le Ps k
      have hcl1 := catL_le Ps (k + 1)
      have hct := catL_take Ps k hlt
      have hct2 : (catL (Ps.take (k + 1))).length = (catL (Ps.take k)).length + Ps[k].2.2.length := by rw [hct]; simp
      clear hct
      go_wp2
      go_round
      case rel => exact ⟨k + 1, by omega, by go_num, by rw [hct2]; go_num⟩
      case measure => simp [intOf]; omega
    · have hkn : k = Ps.length := by omega
      subst hkn
      have HT : Hid (catL (Ps.take Ps.length) = catL Ps) := by unfold Hid; rw [List.take_length]
      rw [HT.out]
      go_wp2_with fail
      refine (grow_any _ _ hm).mono ?_
      rintro e w1 ⟨A1, c1, rfl, hown1, hb1⟩
      have HO1 := Lib.hid hown1
      have HB1 := Lib.hid hb1
      clear hown1 hb1
      go_wp2
      go_loopw [6, 27] (fun o i wr => ∃ (k : Nat) (A' : Option Addr) (c' : Nat), k ≤ Ps.length ∧ i = .int .i64 k ∧ o = .slice A' (catL (Ps.take k)).length c' ∧ Hid (Own wr (fun q => w.heap.size ≤ q) 3 1 A' (catL (Ps.take k)).length c' ((catL (Ps.take k)).map (Value.int .i64)) ∧ Below w.heap.size w wr)) (fun _ i _ => Ps.length - (intOf i).toNat)
      case atStart => exact ⟨0, A1, c1, Nat.zero_le _, rfl, rfl, by simpa [catL] using HO1.out, HB1.out⟩
      case round =>
        obtain ⟨k, A', c', hk, rfl, rfl, HR⟩ := hrel
        by_cases hlt : k < Ps.length
        · obtain ⟨g, off, rfl, hgl, _, hc⟩ := HG.out.at_ (j := k) (by simpa using hlt)
          have hck := hc k (pv Ps[k]) (by simp [hlt])
          rw [← HR.out.2.cell (p := ⟨g, off + k, none⟩) hgl] at hck
          unfold pv at hck
          clear hc
          have hcl := catL_le Ps k
          have hcl1 := catL_le Ps (k + 1)
          have hct := Lib.hid (catL_take Ps k hlt)
          have hct2 : (catL (Ps.take (k + 1))).length = (catL (Ps.take k)).length + Ps[k].2.2.length := by rw [hct.out]; simp
          go_wp2_with (at_builtin; go_must (refine wpList_append_Own (F := fun q => w.heap.size ≤ q) (A := A') (n := (catL (Ps.take k)).length) (cap := c') (xs := (catL (Ps.take k)).map (Value.int .i64)) (size := 1) rfl (.tmp 31) (.tmp 32) 27 27 rfl 3 i0 (.int .i64 0) 8 Tryz.underlying27 hi iz0 iz1 iz2 rfl rfl HR.out.1 Ps[k].2.2.length (Ps[k].2.2.map (Value.int .i64)) ?c1 ?c2 ?c3 ?_))
          case c1 => exact ((HP.out _ (List.getElem_mem hlt)).below HR.out.2).src Tryz.underlying27 _ _ (by simp) (by omega) (oneCell_int _)
          case c2 => unfold maxLen; omega
          case c3 => omega
          intro A2 c2 w2 hown2 hK2 _
          have hz2 := HR.out.2.size
          have HB2 := Lib.hid (HR.out.2.trans (hK2.below hz2 fun q hq hS => by have := ownIn_blk HR.out.1 hS; omega))
          have HO2 := Lib.hid (hown2.mono (F' := fun q => w.heap.size ≤ q) fun q _ hF => by
            rcases hF with hF | hF
            · exact hF
            · omega)
          clear hown2 hK2
          go_wp2
          go_roundw
          case rel =>
            refine ⟨k + 1, A2, c2, by omega, by go_num, by rw [hct2], ?_, HB2.out⟩
            have := HO2.out
            rw [← hct2] at this
            rw [hct.out] at this ⊢
            simpa using this
          case measure => simp [intOf]; omega
        · have hkn : k = Ps.length := by omega
          subst hkn
          go_wp2
          go_ret
          have := HR.out
          rw [List.take_length] at this
          exact ⟨A', c', by simp, this.1, this.2⟩
end Go.Proofs.YtepflhniomineaaGreat
