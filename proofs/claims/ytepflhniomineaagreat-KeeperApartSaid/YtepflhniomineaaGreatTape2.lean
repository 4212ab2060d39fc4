/- The tape: New, Down, Read, length, Sync, Append of one part. -/
import Derived.Test.YtepflhniomineaaGreatTape1
namespace Go.Proofs.YtepflhniomineaaGreat
open Go.RowKit
abbrev bv (b : UInt8) : Value := .int .u8 b.toNat
structure TapeM where
  bytes : List UInt8
  sure : Nat
  tr : Traps
def MaxT (n : Nat) : Prop := n ≤ 1048576
/-- The tape at block t; all its blocks lie in fp. -/
def TapeR (w : World) (t : Nat) (fp : Nat → Prop) (T : TapeM) : Prop :=
  ∃ A c s, Blk w t 146 (tapeCells (.slice A T.bytes.length c) (.int .i64 T.sure) (.int .i64 s) T.tr) ∧ Own w (fun k => fp k ∧ k ≠ t) 5 1 A T.bytes.length c (T.bytes.map bv) ∧
    MaxT T.bytes.length ∧ T.sure ≤ T.bytes.length ∧ fp t ∧ ∀ k, fp k → k < w.heap.size
def newFp (fp : Nat → Prop) (w w' : World) : Nat → Prop := fun k => fp k ∨ (w.heap.size ≤ k ∧ k < w'.heap.size)
theorem TapeR.keep {w w' : World} {t : Nat} {fp S : Nat → Prop} {T : TapeM} (h : TapeR w t fp T) (hk : Keep S w w') (hd : ∀ k, fp k → ¬ S k) : TapeR w' t fp T := by
  obtain ⟨A, c, s, h1, h2, h3, h4, h5, h6⟩ := h
  exact ⟨A, c, s, h1.keep hk (hd t h5), h2.keep hk fun k _ hF => hd k hF.1, h3, h4, h5, fun k hF => Nat.lt_of_lt_of_le (h6 k hF) hk.size⟩
theorem TapeR.below {w w' : World} {t : Nat} {fp : Nat → Prop} {T : TapeM} (h : TapeR w t fp T) (hk : Below w.heap.size w w') : TapeR w' t fp T := h.keep (Keep.of_below (S := fun _ => False) hk) fun _ _ h => h
theorem TapeR.mono {w : World} {t : Nat} {fp fp' : Nat → Prop} {T : TapeM} (h : TapeR w t fp T) (hm : ∀ k, fp k → fp' k) (hl : ∀ k, fp' k → k < w.heap.size) : TapeR w t fp' T := by
  obtain ⟨A, c, s, h1, h2, h3, h4, h5, h6⟩ := h
  exact ⟨A, c, s, h1, h2.mono fun k _ hF => ⟨hm k hF.1, hF.2⟩, h3, h4, hm t h5, hl⟩

set_option maxRecDepth 100000 in
theorem tnew_any (w : World) : Calls Tryz.prog 23 #[] w fun e w' => e = .returned (.pointer (some ⟨w.heap.size, 0, none⟩)) ∧ w.alloc (.cells (tapeCells (.slice none 0 0) (.int .i64 0) (.int .i64 0) ⟨false, 0, false, 0, false⟩) 146) = w' := by
  go_enter Tryz.func23, Tryz.ntmps23
  go_wp2
  go_ret
  exact ⟨rfl, rfl⟩
theorem tape_new (w : World) : TapeR (w.alloc (.cells (tapeCells (.slice none 0 0) (.int .i64 0) (.int .i64 0) ⟨false, 0, false, 0, false⟩) 146)) w.heap.size (· = w.heap.size) ⟨[], 0, ⟨false, 0, false, 0, false⟩⟩ :=
  ⟨none, 0, 0, Blk.new _ _ _, Own.nil _ _ _ _ _, by simp [MaxT], by simp, rfl, fun k hk => by simp [hk]⟩
set_option maxRecDepth 100000 in
theorem tdown_any (t : Nat) (fp : Nat → Prop) (T : TapeM) (w : World) (h : TapeR w t fp T) :
    Calls Tryz.prog 57 #[.pointer (some ⟨t, 0, none⟩)] w fun e w' => e = .returned (.bool T.tr.down) ∧ w = w' := by
  obtain ⟨A, c, s, h1, _⟩ := h
  obtain ⟨c0, c1, c2, c3, c4, c5, c6, c7, cf⟩ := h1.cells8
  clear h1
  go_enter Tryz.func57, Tryz.ntmps57
  go_wp2
  go_ret
  exact ⟨rfl, rfl⟩
theorem tdown_nil (w : World) : Calls Tryz.prog 57 #[.pointer none] w fun e w' => e = .returned (.bool true) ∧ w = w' := by
  go_enter Tryz.func57, Tryz.ntmps57
  go_wp2
  go_ret
  exact ⟨rfl, rfl⟩
set_option maxRecDepth 100000 in
theorem tlength_any (t : Nat) (fp : Nat → Prop) (T : TapeM) (w : World) (h : TapeR w t fp T) :
    Calls Tryz.prog 90 #[.pointer (some ⟨t, 0, none⟩)] w fun e w' => e = .returned (.int .i64 T.bytes.length) ∧ w = w' := by
  obtain ⟨A, c, s, h1, _⟩ := h
  obtain ⟨c0, c1, c2, c3, c4, c5, c6, c7, cf⟩ := h1.cells8
  clear h1
  go_enter Tryz.func90, Tryz.ntmps90
  go_wp2
  go_ret
  exact ⟨rfl, rfl⟩
theorem oneCell_bv (l : List UInt8) : ∀ u ∈ l.map bv, u.oneCell' = true := by
  intro u hu
  obtain ⟨b, _, rfl⟩ := List.mem_map.1 hu
  rfl
theorem MaxT.few {n : Nat} (h : MaxT n) : Few n := by unfold MaxT at h; unfold Few; omega
set_option maxRecDepth 100000 in
theorem tread_any (t : Nat) (fp : Nat → Prop) (T : TapeM) (w : World) (h : TapeR w t fp T) :
    Calls Tryz.prog 129 #[.pointer (some ⟨t, 0, none⟩)] w (SliceOut w 5 1 T.bytes.length (T.bytes.map bv)) := by
  obtain ⟨A, c, s, h1, h2, h3, _⟩ := h
  obtain ⟨c0, c1, c2, c3, c4, c5, c6, c7, cf⟩ := h1.cells8
  clear h1
  go_enter Tryz.func129, Tryz.ntmps129
  go_wp2_with fail
  refine (clone_bytes_any _ A _ c _ _ h2.rd (by simp) (oneCell_bv _) h3.few).mono ?_
  rintro e w1 ⟨A', c', rfl, hown, hb⟩
  go_wp2_with fail
  go_ret
  exact ⟨A', c', rfl, hown, hb⟩
end Go.Proofs.YtepflhniomineaaGreat
