/- Handle: notes that are not for it. -/
import Derived.Test.YtepflhniomineaaGreatOpen1
import Derived.Test.YtepflhniomineaaGreatNote7
import Derived.Test.YtepflhniomineaaGreatIs
import Derived.Test.YtepflhniomineaaGreatSteps
namespace Go.Proofs.YtepflhniomineaaGreat
open Go.RowKit
def NilNotes (w : World) (e : Ending) (w' : World) : Prop := e = .returned (.slice none 0 0) ∧ Below w.heap.size w w'
theorem ncheck_bad (F : Nat → Prop) (n : NoteM) (p : NoteAt) (w : World) (h : NoteR w F n p) (hs : n.small) (hg : n.good = false) : Calls Tryz.prog 69 #[n.v p] w fun e w' => e = .returned (.iface 43 (.int .i64 2)) ∧ Below w.heap.size w w' := by
  have HE : n.err = 2 := by simp [NoteM.err, hg]
  refine (ncheck_any F n p w h hs).mono ?_
  rw [HE]
  exact fun e w' h => h
theorem ncheck_ok (F : Nat → Prop) (n : NoteM) (p : NoteAt) (w : World) (h : NoteR w F n p) (hs : n.small) (hg : n.good = true) : Calls Tryz.prog 69 #[n.v p] w fun e w' => e = .returned .nilIface ∧ Below w.heap.size w w' := by
  have HE : n.err = 0 := by simp [NoteM.err, hg]
  refine (ncheck_any F n p w h hs).mono ?_
  rw [HE]
  exact fun e w' h => h
set_option maxRecDepth 100000 in
set_option maxHeartbeats 2000000 in
theorem handle_nil (n : NoteM) (p : NoteAt) (w : World) : Calls Tryz.prog 52 #[.pointer none, n.v p] w (NilNotes w) := by
  unfold NoteM.v
  go_enter Tryz.func52, Tryz.ntmps52
  go_wp2_with fail
  go_quiet (fail)
  go_wp2_with fail
  go_ret
  exact ⟨rfl, below_drewN ((Below.refl _ w).alloc (Nat.le_refl _) _) _⟩
set_option maxRecDepth 100000 in
set_option maxHeartbeats 2000000 in
theorem handle_to (k : Nat) (fp : Nat → Prop) (K : KeeperM) (n : NoteM) (p : NoteAt) (w : World) (h : KeeperR w k fp K) (hto : ¬ n.to = K.node) : Calls Tryz.prog 52 #[.pointer (some ⟨k, 0, none⟩), n.v p] w (NilNotes w) := by
  obtain ⟨d, m, fd, fr, L, h1, h2, h3, h4, h5, h6, h7, h8, h9, h10⟩ := h
  have hkl := h10 k h5
  obtain ⟨q0, q1, q2, qf⟩ := h1.cells3
  clear h1 h2 h3 h4 h5 h6 h7 h8 h9 h10
  have hb : (n.to != K.node) = true := by simpa using hto
  clear hto
  unfold NoteM.v
  go_enter Tryz.func52, Tryz.ntmps52
  go_wp2_with fail
  go_quiet (fail)
  go_wp2_with fail
  go_ret
  exact ⟨rfl, below_drewN ((Below.refl _ w).alloc (Nat.le_refl _) _) _⟩
set_option maxRecDepth 100000 in
set_option maxHeartbeats 2000000 in
theorem handle_form (k : Nat) (fp F : Nat → Prop) (K : KeeperM) (n : NoteM) (p : NoteAt) (w : World) (h : KeeperR w k fp K) (hn : NoteR w F n p) (hs : n.small) (hto : n.to = K.node) (hg : n.good = false) : Calls Tryz.prog 52 #[.pointer (some ⟨k, 0, none⟩), n.v p] w (NilNotes w) := by
  obtain ⟨d, m, fd, fr, L, h1, h2, h3, h4, h5, h6, h7, h8, h9, h10⟩ := h
  have hkl := h10 k h5
  obtain ⟨q0, q1, q2, qf⟩ := h1.cells3
  clear h1 h2 h3 h4 h5 h6 h7 h8 h9 h10
  have hb : (n.to != K.node) = false := by simpa using hto
  have HN := Lib.hid hn
  have HS := Lib.hid hs
  have HE := Lib.hid hg
  clear hto hg hn hs
  have HV : Hid (n.v p = .agg #[.int .i64 n.kind, .int .i64 n.from_, .int .i64 n.to, .slice p.an n.nums.length p.cn, .slice p.ao n.ops.length p.co, .slice p.ae n.nent p.ce]) := rfl
  rw [HV.out]
  go_enter Tryz.func52, Tryz.ntmps52
  go_wp2_with fail
  refine wp_region_held_drew (S := fun w' => ∀ q : Addr, q.block < w.heap.size + 1 → w'.cell? q = (w.alloc (.cells #[.int .i64 n.kind, .int .i64 n.from_, .int .i64 n.to, .slice p.an n.nums.length p.cn, .slice p.ao n.ops.length p.co, .slice p.ae n.nent p.ce] 30)).cell? q) (by kernel_rfl) ?_ (fun hHeld => ?_)
  · (try dsimp only); exact fun q _ => World.cell?_drew _ q
  refine take_lit (i := 0) (v := ?_) rfl (by kernel_rfl) (by kernel_rfl) (by kernel_rfl) (fun _ _ _ h => h) (Or.inl ⟨by rfl, ?_⟩) (by assumption) ?_
  rotate_left
  · intro w hSw; (try dsimp only at hSw); go_simp; (try with_reducible rfl)
  try simp only [Act.put, List.setIfInBounds_toArray, List.set_cons_zero, List.set_cons_succ]
  refine take_lit (i := 1) (v := ?_) rfl (by kernel_rfl) (by kernel_rfl) (by kernel_rfl) (fun _ _ _ h => h) (Or.inl ⟨by rfl, ?_⟩) (by assumption) ?_
  rotate_left
  · intro w hSw; (try dsimp only at hSw); go_simp; (try with_reducible rfl)
  try simp only [Act.put, List.setIfInBounds_toArray, List.set_cons_zero, List.set_cons_succ]
  refine take_lit (i := 2) (v := ?_) rfl (by kernel_rfl) (by kernel_rfl) (by kernel_rfl) (fun _ _ _ h => h) (Or.inl ⟨by rfl, ?_⟩) (by assumption) ?_
  rotate_left
  · intro w hSw; (try dsimp only at hSw); go_simp; (try with_reducible rfl)
  try simp only [Act.put, List.setIfInBounds_toArray, List.set_cons_zero, List.set_cons_succ]
  refine take_lit (i := 3) (v := ?_) rfl (by kernel_rfl) (by kernel_rfl) (by kernel_rfl) (fun _ _ _ h => h) (Or.inl ⟨by rfl, ?_⟩) (by assumption) ?_
  rotate_left
  · intro w hSw; (try dsimp only at hSw); go_simp; (try with_reducible rfl)
  try simp only [Act.put, List.setIfInBounds_toArray, List.set_cons_zero, List.set_cons_succ]
  refine take_lit (i := 4) (v := ?_) rfl (by kernel_rfl) (by kernel_rfl) (by kernel_rfl) (fun _ _ _ h => h) (Or.inl ⟨by rfl, ?_⟩) (by assumption) ?_
  rotate_left
  · intro w hSw; (try dsimp only at hSw); go_simp; (try with_reducible rfl)
  try simp only [Act.put, List.setIfInBounds_toArray, List.set_cons_zero, List.set_cons_succ]
  refine take_lit (i := 5) (v := ?_) rfl (by kernel_rfl) (by kernel_rfl) (by kernel_rfl) (fun _ _ _ h => h) (Or.inl ⟨by rfl, ?_⟩) (by assumption) ?_
  rotate_left
  · intro w hSw; (try dsimp only at hSw); go_simp; (try with_reducible rfl)
  try simp only [Act.put, List.setIfInBounds_toArray, List.set_cons_zero, List.set_cons_succ]
  refine take_lit (i := 6) (v := ?_) rfl (by kernel_rfl) (by kernel_rfl) (by kernel_rfl) (fun _ _ _ h => h) (Or.inl ⟨by rfl, ?_⟩) (by assumption) ?_
  rotate_left
  · intro w hSw; (try dsimp only at hSw); go_simp; (try with_reducible rfl)
  try simp only [Act.put, List.setIfInBounds_toArray, List.set_cons_zero, List.set_cons_succ]
  refine take_lit (i := 7) (v := ?_) rfl (by kernel_rfl) (by kernel_rfl) (by kernel_rfl) (fun _ _ _ h => h) (Or.inl ⟨by rfl, ?_⟩) (by assumption) ?_
  rotate_left
  · intro w hSw; (try dsimp only at hSw); go_simp; (try with_reducible rfl)
  try simp only [Act.put, List.setIfInBounds_toArray, List.set_cons_zero, List.set_cons_succ]
  refine take_lit (i := 8) (v := ?_) rfl (by kernel_rfl) (by kernel_rfl) (by kernel_rfl) (fun _ _ _ h => h) (Or.inl ⟨by rfl, ?_⟩) (by assumption) ?_
  rotate_left
  · intro w hSw; (try dsimp only at hSw); go_simp; (try with_reducible rfl)
  try simp only [Act.put, List.setIfInBounds_toArray, List.set_cons_zero, List.set_cons_succ]
  refine take_lit (i := 9) (v := ?_) rfl (by kernel_rfl) (by kernel_rfl) (by kernel_rfl) (fun _ _ _ h => h) (Or.inl ⟨by rfl, ?_⟩) (by assumption) ?_
  rotate_left
  · intro w hSw; (try dsimp only at hSw); go_simp; (try with_reducible rfl)
  try simp only [Act.put, List.setIfInBounds_toArray, List.set_cons_zero, List.set_cons_succ]
  refine take_lit (i := 10) (v := ?_) rfl (by kernel_rfl) (by kernel_rfl) (by kernel_rfl) (fun _ _ _ h => h) (Or.inl ⟨by rfl, ?_⟩) (by assumption) ?_
  rotate_left
  · intro w hSw; (try dsimp only at hSw); go_simp; (try with_reducible rfl)
  try simp only [Act.put, List.setIfInBounds_toArray, List.set_cons_zero, List.set_cons_succ]
  refine take_lit (i := 11) (v := ?_) rfl (by kernel_rfl) (by kernel_rfl) (by kernel_rfl) (fun _ _ _ h => h) (Or.inl ⟨by rfl, ?_⟩) (by assumption) ?_
  rotate_left
  · intro w hSw; (try dsimp only at hSw); go_simp; (try with_reducible rfl)
  try simp only [Act.put, List.setIfInBounds_toArray, List.set_cons_zero, List.set_cons_succ]
  refine take_lit (i := 12) (v := ?_) rfl (by kernel_rfl) (by kernel_rfl) (by kernel_rfl) (fun _ _ _ h => h) (Or.inl ⟨by rfl, ?_⟩) (by assumption) ?_
  rotate_left
  · intro w hSw; (try dsimp only at hSw); go_simp; (try with_reducible rfl)
  try simp only [Act.put, List.setIfInBounds_toArray, List.set_cons_zero, List.set_cons_succ]
  refine wpAnyH_ready (rs := [13]) (by kernel_rfl) (by simp) ?_
  refine cons_lit rfl (fun K hK => ?_) ?_
  rotate_left
  · exact AllReadyH.nil
  go_simp
  refine (ncheck_bad F n p _ ⟨(HN.out.nums.alloc _).drew, (HN.out.ops.alloc _).drew⟩ HS.out HE.out).mono ?_
  rintro e w1 ⟨rfl, hb1⟩
  go_wp2_with fail
  refine hK.out _ _ ?_ (fun hHeld => ?_)
  · (try dsimp only); exact fun q hq => (hb1.cell (by simp; omega)).trans (World.cell?_drew _ q)
  clear hK K
  try simp only [Act.put, List.setIfInBounds_toArray, List.set_cons_zero, List.set_cons_succ]
  refine take_lit (i := 14) (v := ?_) rfl (by kernel_rfl) (by kernel_rfl) (by kernel_rfl) (fun _ _ _ h => h) (Or.inl ⟨by rfl, ?_⟩) (by assumption) ?_
  rotate_left
  · intro w hSw; (try dsimp only at hSw); go_simp; (try with_reducible rfl)
  try simp only [Act.put, List.setIfInBounds_toArray, List.set_cons_zero, List.set_cons_succ]
  refine take_lit (i := 15) (v := ?_) rfl (by kernel_rfl) (by kernel_rfl) (by kernel_rfl) (fun _ _ _ h => h) (Or.inl ⟨by rfl, ?_⟩) (by assumption) ?_
  rotate_left
  · intro w hSw; (try dsimp only at hSw); go_simp; (try with_reducible rfl)
  try simp only [Act.put, List.setIfInBounds_toArray, List.set_cons_zero, List.set_cons_succ]
  refine take_lit (i := 16) (v := ?_) rfl (by kernel_rfl) (by kernel_rfl) (by kernel_rfl) (fun _ _ _ h => h) (Or.inl ⟨by rfl, ?_⟩) (by assumption) ?_
  rotate_left
  · intro w hSw; (try dsimp only at hSw); go_simp; (try with_reducible rfl)
  try simp only [Act.put, List.setIfInBounds_toArray, List.set_cons_zero, List.set_cons_succ]
  refine take_lit (i := 17) (v := undef) rfl (by kernel_rfl) (by kernel_rfl) (by kernel_rfl) (fun _ _ _ h => h) (Or.inr ⟨by rfl, rfl⟩) (by assumption) ?_
  try simp only [Act.put, List.setIfInBounds_toArray, List.set_cons_zero, List.set_cons_succ]
  refine take_lit (i := 18) (v := undef) rfl (by kernel_rfl) (by kernel_rfl) (by kernel_rfl) (fun _ _ _ h => h) (Or.inr ⟨by rfl, rfl⟩) (by assumption) ?_
  try simp only [Act.put, List.setIfInBounds_toArray, List.set_cons_zero, List.set_cons_succ]
  refine take_lit (i := 19) (v := undef) rfl (by kernel_rfl) (by kernel_rfl) (by kernel_rfl) (fun _ _ _ h => h) (Or.inr ⟨by rfl, rfl⟩) (by assumption) ?_
  try simp only [Act.put, List.setIfInBounds_toArray, List.set_cons_zero, List.set_cons_succ]
  refine take_lit (i := 20) (v := undef) rfl (by kernel_rfl) (by kernel_rfl) (by kernel_rfl) (fun _ _ _ h => h) (Or.inr ⟨by rfl, rfl⟩) (by assumption) ?_
  try simp only [Act.put, List.setIfInBounds_toArray, List.set_cons_zero, List.set_cons_succ]
  refine take_lit (i := 21) (v := undef) rfl (by kernel_rfl) (by kernel_rfl) (by kernel_rfl) (fun _ _ _ h => h) (Or.inr ⟨by rfl, rfl⟩) (by assumption) ?_
  try simp only [Act.put, List.setIfInBounds_toArray, List.set_cons_zero, List.set_cons_succ]
  refine take_lit (i := 22) (v := undef) rfl (by kernel_rfl) (by kernel_rfl) (by kernel_rfl) (fun _ _ _ h => h) (Or.inr ⟨by rfl, rfl⟩) (by assumption) ?_
  try simp only [Act.put, List.setIfInBounds_toArray, List.set_cons_zero, List.set_cons_succ]
  refine take_lit (i := 23) (v := undef) rfl (by kernel_rfl) (by kernel_rfl) (by kernel_rfl) (fun _ _ _ h => h) (Or.inr ⟨by rfl, rfl⟩) (by assumption) ?_
  try simp only [Act.put, List.setIfInBounds_toArray, List.set_cons_zero, List.set_cons_succ]
  refine take_lit (i := 24) (v := undef) rfl (by kernel_rfl) (by kernel_rfl) (by kernel_rfl) (fun _ _ _ h => h) (Or.inr ⟨by rfl, rfl⟩) (by assumption) ?_
  try simp only [Act.put, List.setIfInBounds_toArray, List.set_cons_zero, List.set_cons_succ]
  refine take_lit (i := 25) (v := ?_) rfl (by kernel_rfl) (by kernel_rfl) (by kernel_rfl) (fun _ _ _ h => h) (Or.inl ⟨by rfl, ?_⟩) (by assumption) ?_
  rotate_left
  · intro w hSw; (try dsimp only at hSw); go_simp; (try with_reducible rfl)
  try simp only [Act.put, List.setIfInBounds_toArray, List.set_cons_zero, List.set_cons_succ]
  refine wpAnyH_done (by kernel_rfl) ?_ _
  go_wp2_with fail
  go_ret
  exact ⟨rfl, bstep ((Below.refl _ w).alloc (Nat.le_refl _) _).drew hb1⟩
set_option maxRecDepth 100000 in
set_option maxHeartbeats 2000000 in
theorem handle_kind (k : Nat) (fp F : Nat → Prop) (K : KeeperM) (n : NoteM) (p : NoteAt) (w : World) (h : KeeperR w k fp K) (hn : NoteR w F n p) (hs : n.small) (hto : n.to = K.node) (hg : n.good = true) (hk1 : ¬ n.kind = 1) (hk3 : ¬ n.kind = 3) :
    Calls Tryz.prog 52 #[.pointer (some ⟨k, 0, none⟩), n.v p] w (NilNotes w) := by
  obtain ⟨d, m, fd, fr, L, h1, h2, h3, h4, h5, h6, h7, h8, h9, h10⟩ := h
  have hkl := h10 k h5
  obtain ⟨q0, q1, q2, qf⟩ := h1.cells3
  clear h1 h2 h3 h4 h5 h6 h7 h8 h9 h10
  have hb : (n.to != K.node) = false := by simpa using hto
  have hb1 : (n.kind != 1) = true := by simpa using hk1
  have hb3 : (n.kind != 3) = true := by simpa using hk3
  have HN := Lib.hid hn
  have HS := Lib.hid hs
  have HE := Lib.hid hg
  clear hto hg hn hs hk1 hk3
  have HV : Hid (n.v p = .agg #[.int .i64 n.kind, .int .i64 n.from_, .int .i64 n.to, .slice p.an n.nums.length p.cn, .slice p.ao n.ops.length p.co, .slice p.ae n.nent p.ce]) := rfl
  rw [HV.out]
  go_enter Tryz.func52, Tryz.ntmps52
  go_wp2_with fail
  go_region_held3 (fun w' => ∀ q : Addr, q.block < w.heap.size + 1 → w'.cell? q = (w.alloc (.cells #[.int .i64 n.kind, .int .i64 n.from_, .int .i64 n.to, .slice p.an n.nums.length p.cn, .slice p.ao n.ops.length p.co, .slice p.ae n.nent p.ce] 30)).cell? q)
    (first | (with_reducible exact fun q _ => World.cell?_drew _ q) | (with_reducible exact fun q hq => (hb1.cell (by simp; omega)).trans (World.cell?_drew _ q)))
    (first
      | (go_at_call 69; refine (ncheck_ok F n p _ ?_ ?_ ?_).mono ?_; exact ⟨(HN.out.nums.alloc _).drew, (HN.out.ops.alloc _).drew⟩; exact HS.out; exact HE.out; rintro e w1 ⟨rfl, hb1⟩))
  go_wp2_with fail
  go_ret
  exact ⟨rfl, bstep ((Below.refl _ w).alloc (Nat.le_refl _) _).drew hb1⟩
end Go.Proofs.YtepflhniomineaaGreat
