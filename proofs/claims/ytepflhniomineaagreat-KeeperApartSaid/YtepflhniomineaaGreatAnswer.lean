/- keeper.answer, note.Ballot. -/
import Derived.Test.YtepflhniomineaaGreatRow
import Derived.Test.YtepflhniomineaaGreatNote2
import Derived.Laws.CopyOwn
namespace Go.Proofs.YtepflhniomineaaGreat
open Go.RowKit
/-- One note is handed back. -/
def NoteOut (kind from_ to : Int) (nums : List Int) (w : World) (en : Ending) (w' : World) : Prop :=
  ∃ g A' c', en = .returned (.slice (some ⟨g, 0, none⟩) 1 1) ∧ Blk w' g 30 #[.int .i64 kind, .int .i64 from_, .int .i64 to, .slice A' nums.length c', .slice none 0 0, .slice none 0 0] ∧
    w.heap.size ≤ g ∧ Rd w' (fun k => w.heap.size ≤ k) 3 A' (nums.map (Value.int .i64)) ∧ nums.length ≤ c' ∧ Below w.heap.size w w'
set_option maxRecDepth 100000 in
set_option maxHeartbeats 1000000 in
theorem answer_any (F Fg : Nat → Prop) (kd fr to kind : Int) (v3 v4 v5 : Value) (Ag : Option Addr) (cg : Nat) (Ps : List (Option Addr × Nat × List Int)) (w : World) (hg : Rd w Fg 27 Ag (Ps.map pv))
    (hp : ∀ p ∈ Ps, Rd w F 3 p.1 (p.2.2.map (Value.int .i64))) (hm : (catL Ps).length ≤ 6000) (hl : Ps.length ≤ 6000) :
    Calls Tryz.prog 103 #[.agg #[.int .i64 kd, .int .i64 fr, .int .i64 to, v3, v4, v5], .int .i64 kind, .slice Ag Ps.length cg] w (NoteOut kind to fr (catL Ps) w) := by
  have HG := Lib.hid hg
  have HP := Lib.hid hp
  clear hg hp
  go_enter Tryz.func103, Tryz.ntmps103
  go_wp2_with fail
  go_region_held3 (fun w' => ∀ p : Addr, p.block < w.heap.size + 1 → w'.cell? p = (w.alloc (.cells #[.int .i64 kd, .int .i64 fr, .int .i64 to, v3, v4, v5] 30)).cell? p)
    (first | (with_reducible exact fun p _ => World.cell?_drew _ p) | (with_reducible exact fun p hp => (hb1.cell (by simp; omega)).trans (World.cell?_drew _ p)) | (with_reducible exact fun p hp => (World.cell?_alloc_lt _ _ _ (by have := hb1.size; simp at this; omega)).trans ((hb1.cell (by simp; omega)).trans (World.cell?_drew _ p))))
    (first
      | (go_at_call 156; refine (concat_any F Fg Ag cg Ps _ ?_ ?_ ?_ ?_).mono ?_; exact (HG.out.alloc _).drew; exact (fun p hp => ((HP.out p hp).alloc _).drew); exact hm; exact hl; rintro e w1 ⟨A', c', rfl, hown, hb1⟩))
  have HB := Lib.hid (bstep ((Below.refl _ w).alloc (Nat.le_refl _) (.cells #[.int .i64 kd, .int .i64 fr, .int .i64 to, v3, v4, v5] 30)).drew hb1)
  have HO := Lib.hid hown
  have hz := HB.out.size
  clear hown hb1
  go_wp2
  go_ret
  refine ⟨w1.heap.size, A', c', rfl, Blk.new _ _ _, hz, ?_, HO.out.2.1, HB.out.trans ((Below.refl _ _).alloc hz _)⟩
  refine (HO.out.rd.alloc _).mono fun k _ hk => ?_
  simp at hk; omega
set_option maxRecDepth 100000 in
set_option maxHeartbeats 1000000 in
theorem nballot_any (F : Nat → Prop) (A : Option Addr) (c : Nat) (l : List Int) (w : World) (h : Rd w F 3 A (l.map (Value.int .i64))) (hl : 3 ≤ l.length) (b : Bal) (hb : l.take 3 = [b.n, b.node, b.life]) :
    Calls Tryz.prog 99 #[.slice A l.length c] w fun e w' => e = .returned b.v ∧ Below w.heap.size w w' := by
  go_enter Tryz.func99, Tryz.ntmps99
  have hx : (l.map (Value.int .i64)).take 3 = [.int .i64 b.n, .int .i64 b.node, .int .i64 b.life] := by rw [← List.map_take, hb]; rfl
  obtain ⟨g, off, rfl, hlt, _, hc⟩ := h.at_ (j := 0) (by simp; omega)
  have hs : ∀ j v, [Value.int .i64 b.n, .int .i64 b.node, .int .i64 b.life][j]? = some v → w.cell? ⟨g, off + j, none⟩ = some v := by
    intro j v hj
    rw [← hx, List.getElem?_take] at hj
    split at hj
    · exact hc j v hj
    · cases hj
  have HSRC := Lib.hid hs
  have hm : Nat.min l.length 3 = 3 := Nat.min_eq_right hl
  have HM := Lib.hid hm
  clear hb hx hc hs hm h
  go_wp2_with (refine wpList_copy_splice rfl (.tmp 4) (.tmp 5) 27 27 rfl 3 Tryz.underlying27 (by kernel_rfl) (some ⟨w.heap.size + 1, 0, none⟩) (some ⟨g, off, none⟩) 3 3 l.length c rfl rfl (w.heap.size + 1) 0 [.int .i64 0, .int .i64 0, .int .i64 0] 250 ?c1 [.int .i64 b.n, .int .i64 b.node, .int .i64 b.life] HM.out.symm ?c2 (by simp) (by simp [Value.oneCell']) (w.heap.size + 1) (w.alloc (.cells #[.int .i64 0, .int .i64 0, .int .i64 0] 103)) ?c3 (Nat.le_refl _) ?_)
  case c1 => exact Blk.at_ _ _ _ _ (by simp)
  case c2 =>
    exact HSRC.out
  case c3 => exact (Below.refl _ _).alloc (by simp) _
  intro w1 hh hb1
  have hk1 : Blk w1 (w.heap.size + 1) 250 #[.int .i64 b.n, .int .i64 b.node, .int .i64 b.life] := by unfold Blk; simpa [splice, Hid] using hh
  have hk0 := (Blk.at_ w 103 #[.int .i64 0, .int .i64 0, .int .i64 0] w.heap.size rfl).below hb1 (by omega)
  have HK0 := Lib.hid hk0
  have HB1 := Lib.hid (((Below.refl _ w).alloc (Nat.le_refl _) (.cells #[.int .i64 0, .int .i64 0, .int .i64 0] 103)).trans (hb1.mono (by omega)))
  obtain ⟨k0, k1, k2, kf⟩ := hk1.cells3
  clear hk1 hk0 hb1 hh
  go_wp2_with (refine wpList_store_blk rfl 103 (.tmp 2) (.tmp 13) rfl rfl rfl HK0.out b.v rfl (by kernel_rfl) rfl rfl ?_)
  intro w2 hk2 hK2 hz2
  go_wp2_with fail
  refine bodyPost_ret (results_blk rfl _ _ rfl hk2 Tryz.underlying103 rfl (by kernel_rfl)) rfl ?_
  exact ⟨rfl, HB1.out.trans (hK2.below (by have := HB1.out.size; omega) (by omega))⟩
end Go.Proofs.YtepflhniomineaaGreat
