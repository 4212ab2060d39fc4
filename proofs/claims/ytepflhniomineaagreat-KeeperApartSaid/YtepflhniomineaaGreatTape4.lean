/- The tape: Cut. -/
import Derived.Test.YtepflhniomineaaGreatTape3
namespace Go.Proofs.YtepflhniomineaaGreat
open Go.RowKit
def TapeM.cut (T : TapeM) : TapeM := if T.tr.down then T else { T with bytes := T.bytes.take T.sure }
def TapeVoid (t : Nat) (fp : Nat → Prop) (T : TapeM) (w : World) (e : Ending) (w' : World) : Prop :=
  e = .returned (.tuple #[]) ∧ TapeR w' t (newFp fp w w') T ∧ Keep fp w w'
theorem Own.cut {w : World} {F : Nat → Prop} {e size : Nat} {A : Option Addr} {n cap : Nat} {xs : List Value} (h : Own w F e size A n cap xs) {k : Nat} (hk : k ≤ n) : Own w F e size A k k (xs.take (k * size)) := by
  obtain ⟨h1, h2, h3, h4⟩ := h
  have hm := Nat.mul_le_mul_right size hk
  have hm2 := Nat.mul_le_mul_right size h2
  refine ⟨by rw [List.length_take, h1]; exact Nat.min_eq_left hm, Nat.le_refl _, by omega, ?_⟩
  rcases h4 with h4 | ⟨g, cur, rfl, hF, h6, h7, h8⟩
  · exact .inl (by omega)
  · refine .inr ⟨g, cur, rfl, hF, h6, by omega, ?_⟩
    rw [← h8, List.take_take, Nat.min_eq_left hm]
set_option maxRecDepth 100000 in
set_option maxHeartbeats 1000000 in
theorem tcut_any (t : Nat) (fp : Nat → Prop) (T : TapeM) (w : World) (h : TapeR w t fp T) :
    Calls Tryz.prog 179 #[.pointer (some ⟨t, 0, none⟩)] w (TapeVoid t fp T.cut w) := by
  have HT := Lib.hid h
  obtain ⟨A, c, s, h1, h2, h3, h4, h5, h6⟩ := h
  have H1 := Lib.hid h1
  have H2 := Lib.hid h2
  obtain ⟨c0, c1, c2, c3, c4, c5, c6, c7, cf⟩ := h1.cells8
  clear h1 h2
  cases hd : T.tr.down
  · have HG : Hid (T.cut = { T with bytes := T.bytes.take T.sure }) := by simp [Hid, TapeM.cut, hd]
    rw [HG.out]
    have hcap := H2.out.2.1
    have hk1 : (0 : Int) ≤ T.sure := by omega
    have hk2 : (T.sure : Int) ≤ c := by omega
    go_enter Tryz.func179, Tryz.ntmps179
    go_wp2_with fail
    refine (tdown_any t fp T _ HT.out).mono ?_
    rintro e w1 ⟨rfl, rfl⟩
    go_wp2_with fail
    go_region
    go_wp2
    go_end0
    have hK : Keep (· = t) w (w.setCell ⟨t, 0, none⟩ (.slice A T.sure T.sure)).drew := (keep_set w t 0 _).drew
    have hl : (T.bytes.take T.sure).length = T.sure := by simp; omega
    refine ⟨rfl, ⟨A, T.sure, s, ?_, ?_, ?_, by simp; omega, .inl h5, ?_⟩, hK.mono fun k _ hk => hk ▸ h5⟩
    · rw [hl]; exact (H1.out.set_ 0 (.slice A T.sure T.sure)).drew
    · have h7 := ((H2.out.cut h4).keep hK fun k _ hk => hk.2).mono (F' := fun k => newFp fp w (w.setCell ⟨t, 0, none⟩ (.slice A T.sure T.sure)).drew k ∧ k ≠ t) fun k _ hk => ⟨.inl hk.1, hk.2⟩
      rw [hl]
      simpa [List.map_take] using h7
    · show (T.bytes.take T.sure).length ≤ 1048576
      have h3' : T.bytes.length ≤ 1048576 := h3
      omega
    · rintro k (hk | hk)
      · have := h6 k hk; simpa using this
      · exact hk.2
  · have HG : Hid (T.cut = T) := by simp [Hid, TapeM.cut, hd]
    rw [HG.out]
    go_enter Tryz.func179, Tryz.ntmps179
    go_wp2_with fail
    refine (tdown_any t fp T _ HT.out).mono ?_
    rintro e w1 ⟨rfl, rfl⟩
    go_wp2_with fail
    go_end0
    exact ⟨rfl, HT.out.mono (fun _ h => .inl h) (fun k hk => by rcases hk with hk | hk; exact h6 k hk; omega), Keep.refl _ _⟩
end Go.Proofs.YtepflhniomineaaGreat
