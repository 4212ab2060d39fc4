/- The diary: Add. -/
import Derived.Test.YtepflhniomineaaGreatTape4
import Derived.Test.YtepflhniomineaaGreatFrame6
namespace Go.Proofs.YtepflhniomineaaGreat
open Go.RowKit
structure DiaryM where
  tape : TapeM
  rows : Nat
  t : Nat
/-- The diary at block d; its tape is at block D.t; all its blocks lie in fp. -/
def DiaryR (w : World) (d : Nat) (fp : Nat → Prop) (D : DiaryM) : Prop :=
  ∃ n, Blk w d 236 #[.pointer (some ⟨D.t, 0, none⟩), .int .i64 D.rows, .int .i64 n] ∧ TapeR w D.t (fun k => fp k ∧ k ≠ d) D.tape ∧ fp d ∧ ∀ k, fp k → k < w.heap.size
def DiaryM.add (D : DiaryM) (p : List UInt8) : DiaryM × Int :=
  if 16376 < p.length then (D, 7)
  else if (D.tape.append (frameL p)).2 = 0 then
    if (D.tape.append (frameL p)).1.sync.2 = 0 then (⟨(D.tape.append (frameL p)).1.sync.1, D.rows + 1, D.t⟩, 0)
    else (⟨(D.tape.append (frameL p)).1.sync.1.cut, D.rows, D.t⟩, (D.tape.append (frameL p)).1.sync.2)
  else (⟨(D.tape.append (frameL p)).1.cut, D.rows, D.t⟩, (D.tape.append (frameL p)).2)
def DiaryOut (d : Nat) (fp : Nat → Prop) (D : DiaryM) (n : Int) (w : World) (e : Ending) (w' : World) : Prop :=
  e = .returned (errV n) ∧ DiaryR w' d (newFp fp w w') D ∧ Keep fp w w'
theorem DiaryR.keep {w w' : World} {d : Nat} {fp S : Nat → Prop} {D : DiaryM} (h : DiaryR w d fp D) (hk : Keep S w w') (hd : ∀ k, fp k → ¬ S k) : DiaryR w' d fp D := by
  obtain ⟨n, h1, h2, h3, h4⟩ := h
  exact ⟨n, h1.keep hk (hd d h3), h2.keep hk fun k hF => hd k hF.1, h3, fun k hF => Nat.lt_of_lt_of_le (h4 k hF) hk.size⟩
theorem DiaryR.below {w w' : World} {d : Nat} {fp : Nat → Prop} {D : DiaryM} (h : DiaryR w d fp D) (hk : Below w.heap.size w w') : DiaryR w' d fp D := h.keep (Keep.of_below (S := fun _ => False) hk) fun _ _ h => h
theorem DiaryR.mono {w : World} {d : Nat} {fp fp' : Nat → Prop} {D : DiaryM} (h : DiaryR w d fp D) (hm : ∀ k, fp k → fp' k) (hl : ∀ k, fp' k → k < w.heap.size) : DiaryR w d fp' D := by
  obtain ⟨n, h1, h2, h3, h4⟩ := h
  exact ⟨n, h1, h2.mono (fun k hF => ⟨hm k hF.1, hF.2⟩) (fun k hF => hl k hF.1), hm d h3, hl⟩
theorem errV_ne {n : Int} (h : n ≠ 0) : errV n = .iface 43 (.int .i64 n) := by unfold errV; rw [if_neg h]
theorem Blk.cells3 {w : World} {g : Nat} {t : TypeId} {a0 a1 a2 : Value} (h : Blk w g t #[a0, a1, a2]) : w.cell? ⟨g, 0, none⟩ = some a0 ∧ w.cell? ⟨g, 1, none⟩ = some a1 ∧ w.cell? ⟨g, 2, none⟩ = some a2 ∧ ∀ i, w.frozen? ⟨g, i, none⟩ = false :=
  ⟨h.cell 0, h.cell 1, h.cell 2, h.frozen⟩
/-- What a part of a state may write to, told by the whole's footprint. -/
def partFp (fp : Nat → Prop) (d : Nat) (w w1 : World) : Nat → Prop := fun k => newFp fp w w1 k ∧ k ≠ d
theorem tape_norm {w w1 w2 : World} {fp P : Nat → Prop} {t d : Nat} {T : TapeM} (hz : w.heap.size ≤ w1.heap.size) (hz2 : w1.heap.size ≤ w2.heap.size) (hd : d < w.heap.size) (hfp : ∀ k, fp k → k < w.heap.size)
    (hP : ∀ k, P k → partFp fp d w w1 k) (hT : TapeR w2 t (newFp P w1 w2) T) : TapeR w2 t (partFp fp d w w2) T := by
  refine hT.mono (fun k hk => ?_) (fun k hk => ?_)
  · rcases hk with hk | hk
    · obtain ⟨h1, h2⟩ := hP k hk
      rcases h1 with h1 | h1
      · exact ⟨.inl h1, h2⟩
      · exact ⟨.inr ⟨h1.1, by omega⟩, h2⟩
    · exact ⟨.inr ⟨by omega, hk.2⟩, by omega⟩
  · rcases hk.1 with h | h
    · have := hfp k h; omega
    · exact h.2
theorem keep_norm {w w1 w2 : World} {fp : Nat → Prop} {d : Nat} (h : Keep fp w w1) (k : Keep (partFp fp d w w1) w1 w2) : Keep fp w w2 :=
  h.trans k fun b hb hS => by
    rcases hS.1 with h | h
    · exact h
    · omega
theorem diary_fin {w w3 : World} {fp : Nat → Prop} {t d rows : Nat} {n : Int} {T : TapeM} (hd : fp d) (hfp : ∀ k, fp k → k < w.heap.size) (hz : w.heap.size ≤ w3.heap.size)
    (hb : Blk w3 d 236 #[.pointer (some ⟨t, 0, none⟩), .int .i64 rows, .int .i64 n]) (hT : TapeR w3 t (partFp fp d w w3) T) : DiaryR w3 d (newFp fp w w3) ⟨T, rows, t⟩ :=
  ⟨n, hb, hT, .inl hd, fun k hk => by
    rcases hk with h | h
    · have := hfp k h; omega
    · exact h.2⟩
set_option maxRecDepth 100000 in
set_option maxHeartbeats 2000000 in
theorem dadd_any (d : Nat) (fp F : Nat → Prop) (D : DiaryM) (p : List UInt8) (Ap : Option Addr) (cp : Nat) (w : World) (h : DiaryR w d fp D) (hp : Rd w F 5 Ap (p.map bv)) (hm : p.length ≤ 16376) (hr : D.rows ≤ 100000) :
    Calls Tryz.prog 137 #[.pointer (some ⟨d, 0, none⟩), .slice Ap p.length cp] w (DiaryOut d fp (D.add p).1 (D.add p).2 w) := by
  have HD := Lib.hid h
  obtain ⟨n, h1, h2, h3, h4⟩ := h
  have H1 := Lib.hid h1
  have H2 := Lib.hid h2
  have HP := Lib.hid hp
  clear h1 h2 hp
  go_enter Tryz.func137, Tryz.ntmps137
  go_wp2_with fail
  refine (wrap_any F (fun _ => True) _ Ap cp p _ (HP.out.alloc _) (Rd.new _ _ _ _ rfl) hm).mono ?_
  rintro e w1 ⟨A1, c1, rfl, hown1, hb1⟩
  have HB1 := Lib.hid (((Below.refl _ w).alloc (Nat.le_refl _) (.cells #[.slice Ap p.length cp] 87)).trans (hb1.mono (by simp)))
  have hz1 := HB1.out.size
  have HO1 := Lib.hid (hown1.mono (F' := fun k => w.heap.size ≤ k) fun k _ hk => by simp at hk; omega)
  have HK1 := Lib.hid (Blk.below H1.out HB1.out (h4 d h3))
  obtain ⟨c0, c1', c2, cf⟩ := HK1.out.cells3
  have HT1 := Lib.hid ((H2.out.below HB1.out).below ((Below.refl _ w1).alloc (Nat.le_refl _) (.cells #[.slice A1 (8 + p.length) c1] 87)))
  have hlt := h4 d h3
  have HL := Lib.hid (frameL_length p)
  clear hown1 hb1
  rw [errV_zero]
  go_wp2_with fail
  have HR1 := Lib.hid ((HO1.out.rd.alloc (.cells #[.slice A1 (8 + p.length) c1] 87)).mono (F' := fun k => w.heap.size ≤ k) fun _ _ h => h)
  have HG1 := Lib.hid (Rd.new_ge w1 87 [.slice A1 (8 + p.length) c1])
  rw [← HL.out] at HT1 HR1 HG1 ⊢
  have HW2 := Lib.hid (HB1.out.trans (((Below.refl _ w1).alloc (Nat.le_refl _) (.cells #[.slice A1 (frameL p).length c1] 87)).mono hz1))
  have hfp0 : ∀ k, fp k ∧ k ≠ d → partFp fp d w (w1.alloc (.cells #[.slice A1 (frameL p).length c1] 87)) k := fun k hk => ⟨.inl hk.1, hk.2⟩
  refine (tappend_any D.t (fun k => fp k ∧ k ≠ d) (fun k => w.heap.size ≤ k) (fun k => w1.heap.size ≤ k) D.tape (frameL p) A1 c1 _ _ HT1.out HR1.out (fun k hk hS => by have := h4 k hS.1; omega) HG1.out (fun k hk hS => by have := h4 k hS.1; omega) (Few.of (by rw [HL.out]; omega))).mono ?_
  rintro e w2 ⟨rfl, hT2, hK2⟩
  have hz2 := hK2.size
  simp only [World.size_alloc] at hz2
  have HT2 := Lib.hid (tape_norm (fp := fp) (d := d) (by simp; omega) hK2.size hlt h4 hfp0 hT2)
  have HK2 := Lib.hid (keep_norm (d := d) (Keep.of_below (S := fp) HW2.out) (hK2.mono fun k _ hk => hfp0 k hk))
  have HD2 := Lib.hid ((HK1.out.alloc (.cells #[.slice A1 (frameL p).length c1] 87)).keep hK2 fun hk => hk.2 rfl)
  obtain ⟨d0, d1, d2, df⟩ := HD2.out.cells3
  clear hT2 hK2 c0 c1' c2 cf
  by_cases he : (D.tape.append (frameL p)).2 = 0
  · have HE := Lib.hid he
    clear he
    rw [HE.out, errV_zero]
    go_wp2_with fail
    refine (tsync_any D.t _ _ _ HT2.out).mono ?_
    rintro e w3 ⟨rfl, hT3, hK3⟩
    have hz3 := hK3.size
    have HT3 := Lib.hid (tape_norm (fp := fp) (d := d) (by omega) hK3.size hlt h4 (fun k hk => hk) hT3)
    have HK3 := Lib.hid (keep_norm (d := d) HK2.out hK3)
    have HD3 := Lib.hid (HD2.out.keep hK3 fun hk => hk.2 rfl)
    obtain ⟨e0, e1, e2, ef⟩ := HD3.out.cells3
    clear hT3 hK3 d0 d1 d2 df
    by_cases he : (D.tape.append (frameL p)).1.sync.2 = 0
    · have HE2 := Lib.hid he
      clear he
      have HG : Hid (D.add p = (⟨(D.tape.append (frameL p)).1.sync.1, D.rows + 1, D.t⟩, 0)) := by
        unfold Hid DiaryM.add
        rw [if_neg (by omega), if_pos HE.out, if_pos HE2.out]
      rw [HE2.out, errV_zero]
      go_wp2_with fail
      go_ret
      rw [HG.out]
      have hb4 := (HD3.out.set_ 1 (.int .i64 (D.rows + 1 : Nat))).set_ 2 (.int .i64 (wrap64 (n + (frameL p).length)))
      have hK4 : Keep fp w ((w3.setCell ⟨d, 1, none⟩ (.int .i64 (D.rows + 1 : Nat))).setCell ⟨d, 2, none⟩ (.int .i64 (wrap64 (n + (frameL p).length)))) := (HK3.out.setCell (.inl h3) _).setCell (.inl h3) _
      have hT5 := HT3.out.keep (((Keep.refl (· = d) w3).setCell (p := ⟨d, 1, none⟩) (.inl rfl) (.int .i64 (D.rows + 1 : Nat))).setCell (p := ⟨d, 2, none⟩) (.inl rfl) (.int .i64 (wrap64 (n + (frameL p).length)))) fun k hk => hk.2
      unfold partFp newFp at hT5
      exact ⟨rfl, diary_fin h3 h4 hK4.size (by simpa using hb4) (by unfold partFp newFp; simpa using hT5), hK4⟩
    · have HE2 := Lib.hid he
      clear he
      have HG : Hid (D.add p = (⟨(D.tape.append (frameL p)).1.sync.1.cut, D.rows, D.t⟩, (D.tape.append (frameL p)).1.sync.2)) := by
        unfold Hid DiaryM.add
        rw [if_neg (by omega), if_pos HE.out, if_neg HE2.out]
      rw [errV_ne HE2.out]
      go_wp2_with fail
      refine (tcut_any D.t _ _ _ HT3.out).mono ?_
      rintro e w4 ⟨rfl, hT4, hK4⟩
      have HT4 := Lib.hid (tape_norm (fp := fp) (d := d) (by omega) hK4.size hlt h4 (fun k hk => hk) hT4)
      have HK4 := Lib.hid (keep_norm (d := d) HK3.out hK4)
      have HD4 := Lib.hid (HD3.out.keep hK4 fun hk => hk.2 rfl)
      go_wp2_with fail
      go_ret
      rw [HG.out]
      exact ⟨by rw [errV_ne HE2.out]; rfl, diary_fin h3 h4 HK4.out.size HD4.out HT4.out, HK4.out⟩
  · have HE := Lib.hid he
    clear he
    have HG : Hid (D.add p = (⟨(D.tape.append (frameL p)).1.cut, D.rows, D.t⟩, (D.tape.append (frameL p)).2)) := by
      unfold Hid DiaryM.add
      rw [if_neg (by omega), if_neg HE.out]
    rw [errV_ne HE.out]
    go_wp2_with fail
    refine (tcut_any D.t _ _ _ HT2.out).mono ?_
    rintro e w4 ⟨rfl, hT4, hK4⟩
    have HT4 := Lib.hid (tape_norm (fp := fp) (d := d) (by omega) hK4.size hlt h4 (fun k hk => hk) hT4)
    have HK4 := Lib.hid (keep_norm (d := d) HK2.out hK4)
    have HD4 := Lib.hid (HD2.out.keep hK4 fun hk => hk.2 rfl)
    go_wp2_with fail
    go_ret
    rw [HG.out]
    exact ⟨by rw [errV_ne HE.out]; rfl, diary_fin h3 h4 HK4.out.size HD4.out HT4.out, HK4.out⟩
end Go.Proofs.YtepflhniomineaaGreat
