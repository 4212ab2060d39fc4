/- The keeper: Register, Rows. -/
import Derived.Test.YtepflhniomineaaGreatKeeper2
namespace Go.Proofs.YtepflhniomineaaGreat
open Go.RowKit
theorem zero_register (w : World) : (zeroValue 105).run Tryz.prog w = .ok (Reg.zero.v none 0) w := by
  have h : (Tryz.prog.info? 105).bind (·.zero) = some (Reg.zero.v none 0) := by kernel_rfl
  cases hi : Tryz.prog.info? 105 with
  | none => rw [hi] at h; cases h
  | some i =>
    rw [hi] at h
    have hz : i.zero = some (Reg.zero.v none 0) := h
    simp [zeroValue, typeInfo, hi, hz]
theorem MapKV.below {w w' : World} {m : Nat} {L : List (Int × Value)} (h : MapKV w m L) (hb : Below w.heap.size w w') : MapKV w' m L := h.keep (Keep.of_below (S := fun _ => False) hb) fun h => h
/-- A register is handed back; its numbers stand in blocks of its own. -/
def RegIs (r : Reg) (w : World) (e : Ending) (w' : World) : Prop :=
  ∃ A' c', e = .returned (r.v A' c') ∧ r.value.length ≤ c' ∧ Rd w' (fun k => w.heap.size ≤ k) 3 A' (r.value.map (Value.int .i64)) ∧ Below w.heap.size w w'
set_option maxRecDepth 100000 in
set_option maxHeartbeats 2000000 in
theorem register_any (k : Nat) (fp : Nat → Prop) (K : KeeperM) (key : Int) (w : World) (h : KeeperR w k fp K) (hm : (lookR K.regs key).value.length ≤ 5000) :
    Calls Tryz.prog 54 #[.pointer (some ⟨k, 0, none⟩), .int .i64 key] w (RegIs (lookR K.regs key) w) := by
  obtain ⟨d, m, fd, fr, L, h1, h2, h3, h4, h5, h6, h7, h8, h9, h10⟩ := h
  have hkl := h10 k h5
  obtain ⟨q0, q1, q2, qf⟩ := h1.cells3
  obtain ⟨A, c, hv, hrd⟩ := h4.look key
  have hlk := run_lookup_kv (P := Tryz.prog) (h3.below ((Below.refl _ w).alloc (Nat.le_refl _) (.cells #[.int .i64 0, .int .i64 0, .int .i64 0, .int .i64 0, .int .i64 0, .int .i64 0, .slice none 0 0] 105))) Tryz.underlying179 Tryz.underlying3 (zero_register _) key
  rw [hv] at hlk
  have HRD := Lib.hid hrd
  clear h1 h2 h3 h4 h5 h6 h7 h8 h9 h10 hv hrd
  generalize lookR K.regs key = r at *
  go_enter Tryz.func54, Tryz.ntmps54
  go_wp2_with fail
  refine (clone_ints_any fr A r.value.length c (r.value.map (Value.int .i64)) _ ?_ (by simp) (oneCell_int _) (Few.of (by omega))).mono ?_
  · exact (HRD.out.alloc _).alloc _
  rintro e w1 ⟨A', c', rfl, hown, hb1⟩
  have hz1 : w.heap.size + 1 + 1 ≤ w1.heap.size := by have := hb1.size; simpa using this
  have hk0 := (((Blk.at_ w 105 #[.int .i64 0, .int .i64 0, .int .i64 0, .int .i64 0, .int .i64 0, .int .i64 0, .slice none 0 0] w.heap.size rfl).alloc (.cells #[.int .i64 r.promised.n, .int .i64 r.promised.node, .int .i64 r.promised.life, .int .i64 r.accepted.n, .int .i64 r.accepted.node, .int .i64 r.accepted.life, .slice A r.value.length c] 105)).below hb1 (by simp; omega))
  have hk1 := (Blk.at_ (w.alloc (.cells #[.int .i64 0, .int .i64 0, .int .i64 0, .int .i64 0, .int .i64 0, .int .i64 0, .slice none 0 0] 105)) 105 #[.int .i64 r.promised.n, .int .i64 r.promised.node, .int .i64 r.promised.life, .int .i64 r.accepted.n, .int .i64 r.accepted.node, .int .i64 r.accepted.life, .slice A r.value.length c] (w.heap.size + 1) (by simp)).below hb1 (by simp)
  have HK0 := Lib.hid (hk0.far (p := ⟨w.heap.size + 1, 6, none⟩) (by simp) (.slice A' r.value.length c'))
  have HB1 := Lib.hid (bstep (((Below.refl _ w).alloc (Nat.le_refl _) (.cells #[.int .i64 0, .int .i64 0, .int .i64 0, .int .i64 0, .int .i64 0, .int .i64 0, .slice none 0 0] 105)).alloc (by simp) (.cells #[.int .i64 r.promised.n, .int .i64 r.promised.node, .int .i64 r.promised.life, .int .i64 r.accepted.n, .int .i64 r.accepted.node, .int .i64 r.accepted.life, .slice A r.value.length c] 105)) hb1)
  have HO := Lib.hid hown
  obtain ⟨k0, k1, k2, k3, k4, k5, k6, kf⟩ := hk1.cells7
  clear hown hb1 hk0 hk1 hlk
  go_wp2_with (refine wpList_store_blk rfl 105 (.tmp 4) (.tmp 19) rfl rfl rfl HK0.out (r.v A' c') rfl (by kernel_rfl) rfl rfl ?_)
  intro w2 hk2 hK2 hz2
  go_wp2_with fail
  refine bodyPost_ret (results_blk rfl _ _ rfl hk2 Tryz.underlying105 rfl (by kernel_rfl)) rfl ?_
  have hKs : Keep (fun q => q = w.heap.size + 1 ∨ q = w.heap.size) w1 w2 := ((Keep.refl (fun q => q = w.heap.size + 1 ∨ q = w.heap.size) w1).setCell (p := ⟨w.heap.size + 1, 6, none⟩) (.inl (.inl rfl)) _).trans hK2 fun q _ hq => .inr hq
  refine ⟨A', c', rfl, HO.out.2.1, (HO.out.rd.keep hKs fun q _ hq hS => ?_).mono fun q _ hq => ?_, HB1.out.trans (hKs.below (by omega) fun q hq hS => by omega)⟩
  · simp at hq; omega
  · simp at hq; omega
set_option maxRecDepth 100000 in
set_option maxHeartbeats 1000000 in
theorem register_nil (key : Int) (w : World) :
    Calls Tryz.prog 54 #[.pointer none, .int .i64 key] w (RegIs Reg.zero w) := by
  have HK := Lib.hid (Blk.at_ w 105 #[.int .i64 0, .int .i64 0, .int .i64 0, .int .i64 0, .int .i64 0, .int .i64 0, .slice none 0 0] _ rfl)
  go_enter Tryz.func54, Tryz.ntmps54
  go_wp2_with (refine wpList_store_blk rfl 105 (.tmp 4) (.tmp 8) rfl rfl rfl HK.out (Reg.zero.v none 0) rfl (by kernel_rfl) rfl rfl ?_)
  intro w2 hk2 hK2 hz2
  go_wp2_with fail
  refine bodyPost_ret (results_blk rfl _ _ rfl hk2 Tryz.underlying105 rfl (by kernel_rfl)) rfl ?_
  exact ⟨none, 0, rfl, by simp [Reg.zero], Rd.nil _ _ _ _, ((Below.refl _ w).alloc (Nat.le_refl _) _).trans (hK2.below (by simp) (by omega))⟩
set_option maxRecDepth 100000 in
set_option maxHeartbeats 1000000 in
theorem rows_any (k : Nat) (fp : Nat → Prop) (K : KeeperM) (w : World) (h : KeeperR w k fp K) :
    Calls Tryz.prog 50 #[.pointer (some ⟨k, 0, none⟩)] w fun e w' => e = .returned (.int .i64 K.d.rows) ∧ w = w' := by
  obtain ⟨d, m, fd, fr, L, h1, h2, h3, h4, h5, h6, h7, h8, h9, h10⟩ := h
  have HD := Lib.hid h2
  obtain ⟨q0, q1, q2, qf⟩ := h1.cells3
  clear h1 h2 h3 h4 h5 h6 h7 h8 h9 h10
  go_enter Tryz.func50, Tryz.ntmps50
  go_wp2_with fail
  refine (dlen_any d fd K.d _ HD.out).mono ?_
  rintro e w1 ⟨rfl, rfl⟩
  go_wp2
  go_ret
  exact ⟨rfl, rfl⟩
set_option maxRecDepth 100000 in
set_option maxHeartbeats 1000000 in
theorem rows_nil (w : World) :
    Calls Tryz.prog 50 #[.pointer none] w fun e w' => e = .returned (.int .i64 0) ∧ w = w' := by
  go_enter Tryz.func50, Tryz.ntmps50
  go_wp2
  go_ret
  exact ⟨rfl, rfl⟩
end Go.Proofs.YtepflhniomineaaGreat
