/- The tape: Append of one part, Sync. -/
import Derived.Test.YtepflhniomineaaGreatTape2
namespace Go.Proofs.YtepflhniomineaaGreat
open Go.RowKit
def TapeM.append (T : TapeM) (p : List UInt8) : TapeM × Int :=
  if 1048576 < T.bytes.length + p.length then (T, 7)
  else if T.tr.step.2 = 0 then ({ T with bytes := T.bytes ++ p, tr := T.tr.step.1 }, 0) else ({ T with tr := T.tr.step.1 }, T.tr.step.2)
def TapeM.sync (T : TapeM) : TapeM × Int :=
  if T.tr.step.2 = 0 then ({ T with sure := T.bytes.length, tr := T.tr.step.1 }, 0) else ({ T with tr := T.tr.step.1 }, T.tr.step.2)
def TapeOut (t : Nat) (fp : Nat → Prop) (T : TapeM) (n : Int) (w : World) (e : Ending) (w' : World) : Prop :=
  e = .returned (errV n) ∧ TapeR w' t (newFp fp w w') T ∧ Keep fp w w'
theorem step_err (T : Traps) : T.step.2 = 0 ∨ T.step.2 = 5 ∨ T.step.2 = 6 := by
  obtain ⟨a, b, c, d, e⟩ := T
  unfold Traps.step
  cases e
  · cases a
    · cases c
      · simp
      · cases h : (d == 0) <;> simp [h]
    · cases h1 : (b == 0)
      · cases c
        · simp
        · cases h : (d == 0) <;> simp [h]
      · simp
  · simp
theorem errV_down : errV 5 = .iface 43 (.int .i64 5) := rfl
theorem errV_disk : errV 6 = .iface 43 (.int .i64 6) := rfl
theorem errV_full : errV 7 = .iface 43 (.int .i64 7) := rfl
set_option maxRecDepth 100000 in
set_option maxHeartbeats 1000000 in
theorem tsync_any (t : Nat) (fp : Nat → Prop) (T : TapeM) (w : World) (h : TapeR w t fp T) :
    Calls Tryz.prog 178 #[.pointer (some ⟨t, 0, none⟩)] w (TapeOut t fp T.sync.1 T.sync.2 w) := by
  obtain ⟨A, c, s, h1, h2, h3, h4, h5, h6⟩ := h
  have H1 := Lib.hid h1
  have H2 := Lib.hid h2
  clear h1 h2
  rcases step_err T.tr with h0 | h0 | h0
  · have HG : Hid (T.sync = ({ T with sure := T.bytes.length, tr := T.tr.step.1 }, 0)) := by simp [Hid, TapeM.sync, h0]
    have HE := Lib.hid h0
    clear h0
    rw [HG.out]
    go_enter Tryz.func178, Tryz.ntmps178
    go_wp2_with fail
    refine (step_any t _ _ s T.tr w H1.out).mono ?_
    rintro e w1 ⟨s1, rfl, hk1, hK1, hz1⟩
    have HK := Lib.hid hk1
    obtain ⟨c0, c1, c2, c3, c4, c5, c6, c7, cf⟩ := hk1.cells8
    clear hk1
    rw [HE.out, errV_zero]
    go_wp2
    go_ret
    have hK : Keep (· = t) w (w1.setCell ⟨t, 1, none⟩ (.int .i64 T.bytes.length)) := hK1.set_ 1 _
    refine ⟨rfl, ⟨A, c, s1, HK.out.set_ 1 (.int .i64 T.bytes.length), ?_, h3, Nat.le_refl _, .inl h5, ?_⟩, hK.mono fun k _ hk => hk ▸ h5⟩
    · exact (H2.out.keep hK fun k _ hk => hk.2).mono fun k _ hk => ⟨.inl hk.1, hk.2⟩
    · rintro k (hk | hk)
      · have := h6 k hk; simp; omega
      · omega
  all_goals
    have HG : Hid (T.sync = ({ T with tr := T.tr.step.1 }, T.tr.step.2)) := by simp [Hid, TapeM.sync, h0]
    have HE := Lib.hid h0
    clear h0
    rw [HG.out]
    go_enter Tryz.func178, Tryz.ntmps178
    go_wp2_with fail
    refine (step_any t _ _ s T.tr w H1.out).mono ?_
    rintro e w1 ⟨s1, rfl, hk1, hK1, hz1⟩
    rw [HE.out]
    first | rw [errV_down] | rw [errV_disk]
    go_wp2
    go_ret
    refine ⟨by rw [HE.out]; rfl, ⟨A, c, s1, hk1, ?_, h3, h4, .inl h5, ?_⟩, hK1.mono fun k _ hk => hk ▸ h5⟩
    · exact (H2.out.keep hK1 fun k _ hk => hk.2).mono fun k _ hk => ⟨.inl hk.1, hk.2⟩
    · rintro k (hk | hk)
      · have := h6 k hk; omega
      · omega

theorem ownIn_blk {w : World} {F : Nat → Prop} {e size : Nat} {A : Option Addr} {n cap : Nat} {xs : List Value} (h : Own w F e size A n cap xs) {k : Nat} (hk : ownIn A cap k) : F k := by
  obtain ⟨_, _, _, h0 | ⟨g, cur, rfl, hF, _⟩⟩ := h
  · exact absurd h0 hk.1
  · obtain ⟨_, a, ha, rfl⟩ := hk
    injection ha with ha
    subst ha
    exact hF
set_option maxRecDepth 100000 in
set_option maxHeartbeats 2000000 in
theorem tappend_any (t : Nat) (fp Fq Fg : Nat → Prop) (T : TapeM) (p : List UInt8) (Af : Option Addr) (cf : Nat) (Ap : Option Addr) (w : World) (h : TapeR w t fp T)
    (hp : Rd w Fq 5 Af (p.map bv)) (hd : ∀ k, Fq k → ¬ fp k) (hg : Rd w Fg 87 Ap [.slice Af p.length cf]) (hdg : ∀ k, Fg k → ¬ fp k) (hf : Few p.length) :
    Calls Tryz.prog 46 #[.pointer (some ⟨t, 0, none⟩), .slice Ap 1 1] w (TapeOut t fp (T.append p).1 (T.append p).2 w) := by
  have HT := Lib.hid h
  obtain ⟨A, c, s, h1, h2, h3, h4, h5, h6⟩ := h
  have H1 := Lib.hid h1
  have H2 := Lib.hid h2
  have HP := Lib.hid hp
  have HD := Lib.hid hd
  obtain ⟨gp, op, rfl, hgl, hgF, hgc⟩ := hg.at_ (j := 0) (by simp)
  have HGT : Hid (gp ≠ t) := fun e => hdg gp hgF (by rw [e]; exact h5)
  have hg0 := hgc 0 _ rfl
  simp only [Nat.add_zero] at hg0
  clear h1 h2 hp hd hgc hg hdg hgF
  obtain ⟨i0, hi, iz0, iz1, iz2⟩ := info_parts Tryz.info5
  have hfl : p.length ≤ 16777216 := hf
  have h3' : T.bytes.length ≤ 1048576 := h3
  by_cases hfull : 1048576 < T.bytes.length + p.length
  · have HG : Hid (T.append p = (T, 7)) := by simp [Hid, TapeM.append, hfull]
    rw [HG.out]
    go_enter Tryz.func46, Tryz.ntmps46
    go_wp2_with fail
    refine (tlength_any t fp T _ HT.out).mono ?_
    rintro e w1 ⟨rfl, rfl⟩
    go_wp2_with fail
    refine wp_loop_rounds 1 ?_
    rw [rounds_succ]
    go_wp2_with fail
    go_ret
    exact ⟨rfl, (HT.out).mono (fun _ h => .inl h) (fun k hk => by rcases hk with hk | hk; exact h6 k hk; omega), Keep.refl _ _⟩
  · rcases step_err T.tr with h0 | h0 | h0
    · have HG : Hid (T.append p = ({ T with bytes := T.bytes ++ p, tr := T.tr.step.1 }, 0)) := by simp [Hid, TapeM.append, hfull, h0]
      have HE := Lib.hid h0
      clear h0
      rw [HG.out]
      go_enter Tryz.func46, Tryz.ntmps46
      go_wp2_with fail
      refine (tlength_any t fp T _ HT.out).mono ?_
      rintro e w1 ⟨rfl, rfl⟩
      go_wp2_with fail
      refine wp_loop_rounds 2 ?_
      rw [rounds_succ]
      go_wp2_with fail
      rw [rounds_succ]
      go_wp2_with fail
      refine (step_any t _ _ s T.tr w H1.out).mono ?_
      rintro e w1 ⟨s1, rfl, hk1, hK1, hz1⟩
      have HKB := Lib.hid hk1
      obtain ⟨c0, c1, c2, c3, c4, c5, c6, c7, cf'⟩ := hk1.cells8
      clear hk1
      rw [HE.out, errV_zero]
      have hgt := HGT.out
      have hg1 : w1.cell? ⟨gp, op, none⟩ = some (.slice Af p.length cf) := (hK1.cell hgl hgt).trans hg0
      go_wp2_with fail
      refine wp_loop_rounds 2 ?_
      rw [rounds_succ]
      have HO := Lib.hid (H2.out.keep hK1 fun k _ hk => hk.2)
      have HS := Lib.hid (HP.out.keep hK1 fun k _ hk (e : k = t) => HD.out k hk (e ▸ h5))
      have hnt : ∀ k, ownIn A c k → fp k ∧ k ≠ t := fun k hk => ownIn_blk H2.out hk
      have HNT := Lib.hid hnt
      clear hnt
      go_wp2_with (at_builtin; go_must (refine wpList_append_Own (F := fun k => fp k ∧ k ≠ t) (A := A) (n := T.bytes.length) (cap := c) (xs := T.bytes.map bv) (size := 1) rfl (.tmp 42) (.tmp 43) 87 87 rfl 5 i0 (.int .u8 0) 1 Tryz.underlying87 hi iz0 iz1 iz2 rfl rfl HO.out p.length (p.map bv) ?c1 ?c2 ?c3 ?_))
      case c1 => exact HS.out.src Tryz.underlying87 p.length cf (by simp) (by omega) (oneCell_bv _)
      case c2 => unfold maxLen; omega
      case c3 => omega
      intro A' c' w2 hown hK2 _
      have hkb2 := HKB.out.keep hK2 fun hk => (HNT.out t hk).2 rfl
      have HKB2 := Lib.hid hkb2
      obtain ⟨d0, d1, d2, d3, d4, d5, d6, d7, df⟩ := hkb2.cells8
      have hz2' := hK2.size
      clear hkb2 c0 c1 c2 c3 c4 c5 c6 c7 cf'
      go_wp2_with fail
      rw [rounds_succ]
      go_wp2_with fail
      go_ret
      have hK : Keep fp w (w2.setCell ⟨t, 0, none⟩ (.slice A' (T.bytes.length + p.length) c')) :=
        ((hK1.mono (S' := fp) fun k _ hk => hk ▸ h5).trans hK2 fun k _ hk => (HNT.out k hk).1).setCell (.inl h5) _
      refine ⟨rfl, ⟨A', c', s1, by simpa using HKB2.out.set_ 0 (.slice A' (T.bytes.length + p.length) c'), ?_, by unfold MaxT; simp; omega, by simp; omega, .inl h5, ?_⟩, hK⟩
      · have ho := (hown.keep (keep_set w2 t 0 (.slice A' (T.bytes.length + p.length) c')) fun k _ hk => ?_).mono (F' := fun k => newFp fp w (w2.setCell ⟨t, 0, none⟩ (.slice A' (T.bytes.length + p.length) c')) k ∧ k ≠ t) fun k hl hk => ?_
        · simpa using ho
        · rcases hk with hk | hk
          · exact hk.2
          · have := h6 t h5; omega
        · rcases hk with hk | hk
          · exact ⟨.inl hk.1, hk.2⟩
          · have := h6 t h5
            exact ⟨.inr ⟨by omega, by simpa using hl⟩, by omega⟩
      · rintro k (hk | hk)
        · have := h6 k hk; simp; omega
        · exact hk.2
    · have HG : Hid (T.append p = ({ T with tr := T.tr.step.1 }, T.tr.step.2)) := by simp [Hid, TapeM.append, hfull, h0]
      have HE := Lib.hid h0
      clear h0
      rw [HG.out]
      go_enter Tryz.func46, Tryz.ntmps46
      go_wp2_with fail
      refine (tlength_any t fp T _ HT.out).mono ?_
      rintro e w1 ⟨rfl, rfl⟩
      go_wp2_with fail
      refine wp_loop_rounds 2 ?_
      rw [rounds_succ]
      go_wp2_with fail
      rw [rounds_succ]
      go_wp2_with fail
      refine (step_any t _ _ s T.tr w H1.out).mono ?_
      rintro e w1 ⟨s1, rfl, hk1, hK1, hz1⟩
      rw [HE.out]
      first | rw [errV_down] | rw [errV_disk]
      go_wp2_with fail
      go_ret
      refine ⟨by rw [HE.out]; rfl, ⟨A, c, s1, hk1, ?_, h3, h4, .inl h5, ?_⟩, hK1.mono fun k _ hk => hk ▸ h5⟩
      · exact (H2.out.keep hK1 fun k _ hk => hk.2).mono fun k _ hk => ⟨.inl hk.1, hk.2⟩
      · rintro k (hk | hk)
        · have := h6 k hk; omega
        · omega
    · have HG : Hid (T.append p = ({ T with tr := T.tr.step.1 }, T.tr.step.2)) := by simp [Hid, TapeM.append, hfull, h0]
      have HE := Lib.hid h0
      clear h0
      rw [HG.out]
      go_enter Tryz.func46, Tryz.ntmps46
      go_wp2_with fail
      refine (tlength_any t fp T _ HT.out).mono ?_
      rintro e w1 ⟨rfl, rfl⟩
      go_wp2_with fail
      refine wp_loop_rounds 2 ?_
      rw [rounds_succ]
      go_wp2_with fail
      rw [rounds_succ]
      go_wp2_with fail
      refine (step_any t _ _ s T.tr w H1.out).mono ?_
      rintro e w1 ⟨s1, rfl, hk1, hK1, hz1⟩
      rw [HE.out]
      first | rw [errV_down] | rw [errV_disk]
      go_wp2_with fail
      go_ret
      refine ⟨by rw [HE.out]; rfl, ⟨A, c, s1, hk1, ?_, h3, h4, .inl h5, ?_⟩, hK1.mono fun k _ hk => hk ▸ h5⟩
      · exact (H2.out.keep hK1 fun k _ hk => hk.2).mono fun k _ hk => ⟨.inl hk.1, hk.2⟩
      · rintro k (hk | hk)
        · have := h6 k hk; omega
        · omega
end Go.Proofs.YtepflhniomineaaGreat
