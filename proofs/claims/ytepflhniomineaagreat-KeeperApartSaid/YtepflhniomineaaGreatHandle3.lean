/- Handle: Prepare. -/
import Derived.Test.YtepflhniomineaaGreatHandleD
import Derived.Deep.CutRange
namespace Go.Proofs.YtepflhniomineaaGreat
open Go.RowKit
set_option maxRecDepth 100000 in
set_option maxHeartbeats 8000000 in
theorem handle_prep (k : Nat) (fp F : Nat → Prop) (K : KeeperM) (n : NoteM) (p : NoteAt) (key : Int) (b : Bal) (rest : List Int) (w : World) (h : KeeperR w k fp K) (hn : NoteR w F n p) (hs : n.small) (hto : n.to = K.node) (hg : n.good = true) (hk1 : n.kind = 1)
    (hnum : n.nums = key :: b.n :: b.node :: b.life :: rest) (hcap : n.nums.length ≤ p.cn) (hkey : 0 ≤ key ∧ key ≤ 99) (hbw : b.wf) (hreg : (lookR K.regs key).wf ∧ (lookR K.regs key).value.length ≤ 32) (hrows : K.d.rows ≤ 200) (hFd : ∀ q, F q → ¬ fp q) :
    Calls Tryz.prog 52 #[.pointer (some ⟨k, 0, none⟩), n.v p] w (HandleOut k fp (K.step 1 key b rest).1 (K.step 1 key b rest).2 n.to n.from_ w) := by
  obtain ⟨an, cn, ao, co, ae, ce⟩ := p
  obtain ⟨d, m, fd, fr, L, h1, h2, h3, h4, h5, h6, h7, h8, h9, h10⟩ := h
  have hkl := h10 k h5
  obtain ⟨q0, q1, q2, qf⟩ := h1.cells3
  have HKR : Hid (KeeperR w k fp K) := ⟨d, m, fd, fr, L, h1, h2, h3, h4, h5, h6, h7, h8, h9, h10⟩
  have HM := Lib.hid (And.intro h3 h4)
  have HFP := Lib.hid h10
  clear h1 h2 h3 h4 h5 h6 h7 h8 h9 h10
  have hb : (n.to != K.node) = false := by simpa using hto
  have hb1 : (n.kind != 1) = false := by simp [hk1]
  have hbe3 : (n.kind == 3) = false := by simp [hk1]
  have hb3 : (n.kind != 3) = true := by simp [hk1]
  have HN := Lib.hid hn
  have HS := Lib.hid hs
  have HE := Lib.hid hg
  have HNUM := Lib.hid hnum
  have hl4 : 4 ≤ n.nums.length := by rw [hnum]; simp
  have hl4' : (4 : Int) ≤ (n.nums.length : Int) := by omega
  have hl1' : (1 : Int) ≤ (n.nums.length : Int) := by omega
  have hl0' : (0 : Int) < (n.nums.length : Int) := by omega
  have hl0n : 0 < n.nums.length := by omega
  have hl1n : 1 ≤ n.nums.length := by omega
  obtain ⟨g, off, rfl, hgl, hFg, hgc⟩ := hn.nums.at_ (j := 0) (by simp; omega)
  have hg0 := hgc 0 (.int .i64 key) (by simp [hnum])
  simp only [Nat.add_zero] at hg0
  have hcap : n.nums.length ≤ cn := hcap
  clear hto hg hn hs hk1 hgc hnum
  have HV : Hid (n.v ⟨some ⟨g, off, none⟩, cn, ao, co, ae, ce⟩ = .agg #[.int .i64 n.kind, .int .i64 n.from_, .int .i64 n.to, .slice (some ⟨g, off, none⟩) n.nums.length cn, .slice ao n.ops.length co, .slice ae n.nent ce]) := rfl
  rw [HV.out]
  go_enter Tryz.func52, Tryz.ntmps52
  go_wp2_with fail
  refine wp_region_held_drew (S := fun w' => ∀ q : Addr, q.block < w.heap.size + 1 → w'.cell? q = (w.alloc (.cells #[.int .i64 n.kind, .int .i64 n.from_, .int .i64 n.to, .slice (some ⟨g, off, none⟩) n.nums.length cn, .slice ao n.ops.length co, .slice ae n.nent ce] 30)).cell? q) (by kernel_rfl) ?_ (fun hHeld => ?_)
  · (try dsimp only); exact fun q _ => World.cell?_drew _ q
  refine take_lit (i := 0) (v := ?_) rfl (by kernel_rfl) (by kernel_rfl) (by kernel_rfl) (fun _ _ _ h => h) (Or.inl ⟨by rfl, ?_⟩) (by assumption) ?_
  rotate_left
  · intro w hSw; (try dsimp only at hSw); go_simp; (try with_reducible rfl)
  try simp only [Act.put, List.setIfInBounds_toArray, List.set_cons_zero, List.set_cons_succ]
  refine take_lit (i := 1) (v := ?_) rfl (by kernel_rfl) (by kernel_rfl) (by kernel_rfl) (fun _ _ _ h => h) (Or.inl ⟨by rfl, ?_⟩) (by assumption) ?_
  rotate_left
  · intro w hSw; (try dsimp only at hSw); go_simp; (try with_reducible rfl)
  try simp only [Act.put, List.setIfInBounds_toArray, List.set_cons_zero, List.set_cons_succ]
  refine take_lit (i := 2) (v := ?_) rfl (by kernel_rfl) (by kernel_rfl) (by kernel_rfl) (fun _ _ _ h => h) (Or.inl ⟨by rfl, ?_⟩) (by assumption) ?_
  rotate_left
  · intro w hSw; (try dsimp only at hSw); go_simp; (try with_reducible rfl)
  try simp only [Act.put, List.setIfInBounds_toArray, List.set_cons_zero, List.set_cons_succ]
  refine take_lit (i := 3) (v := ?_) rfl (by kernel_rfl) (by kernel_rfl) (by kernel_rfl) (fun _ _ _ h => h) (Or.inl ⟨by rfl, ?_⟩) (by assumption) ?_
  rotate_left
  · intro w hSw; (try dsimp only at hSw); go_simp; (try with_reducible rfl)
  try simp only [Act.put, List.setIfInBounds_toArray, List.set_cons_zero, List.set_cons_succ]
  refine take_lit (i := 4) (v := ?_) rfl (by kernel_rfl) (by kernel_rfl) (by kernel_rfl) (fun _ _ _ h => h) (Or.inl ⟨by rfl, ?_⟩) (by assumption) ?_
  rotate_left
  · intro w hSw; (try dsimp only at hSw); go_simp; (try with_reducible rfl)
  try simp only [Act.put, List.setIfInBounds_toArray, List.set_cons_zero, List.set_cons_succ]
  refine take_lit (i := 5) (v := ?_) rfl (by kernel_rfl) (by kernel_rfl) (by kernel_rfl) (fun _ _ _ h => h) (Or.inl ⟨by rfl, ?_⟩) (by assumption) ?_
  rotate_left
  · intro w hSw; (try dsimp only at hSw); go_simp; (try with_reducible rfl)
  try simp only [Act.put, List.setIfInBounds_toArray, List.set_cons_zero, List.set_cons_succ]
  refine take_lit (i := 6) (v := ?_) rfl (by kernel_rfl) (by kernel_rfl) (by kernel_rfl) (fun _ _ _ h => h) (Or.inl ⟨by rfl, ?_⟩) (by assumption) ?_
  rotate_left
  · intro w hSw; (try dsimp only at hSw); go_simp; (try with_reducible rfl)
  try simp only [Act.put, List.setIfInBounds_toArray, List.set_cons_zero, List.set_cons_succ]
  refine take_lit (i := 7) (v := ?_) rfl (by kernel_rfl) (by kernel_rfl) (by kernel_rfl) (fun _ _ _ h => h) (Or.inl ⟨by rfl, ?_⟩) (by assumption) ?_
  rotate_left
  · intro w hSw; (try dsimp only at hSw); go_simp; (try with_reducible rfl)
  try simp only [Act.put, List.setIfInBounds_toArray, List.set_cons_zero, List.set_cons_succ]
  refine take_lit (i := 8) (v := ?_) rfl (by kernel_rfl) (by kernel_rfl) (by kernel_rfl) (fun _ _ _ h => h) (Or.inl ⟨by rfl, ?_⟩) (by assumption) ?_
  rotate_left
  · intro w hSw; (try dsimp only at hSw); go_simp; (try with_reducible rfl)
  try simp only [Act.put, List.setIfInBounds_toArray, List.set_cons_zero, List.set_cons_succ]
  refine take_lit (i := 9) (v := ?_) rfl (by kernel_rfl) (by kernel_rfl) (by kernel_rfl) (fun _ _ _ h => h) (Or.inl ⟨by rfl, ?_⟩) (by assumption) ?_
  rotate_left
  · intro w hSw; (try dsimp only at hSw); go_simp; (try with_reducible rfl)
  try simp only [Act.put, List.setIfInBounds_toArray, List.set_cons_zero, List.set_cons_succ]
  refine take_lit (i := 10) (v := ?_) rfl (by kernel_rfl) (by kernel_rfl) (by kernel_rfl) (fun _ _ _ h => h) (Or.inl ⟨by rfl, ?_⟩) (by assumption) ?_
  rotate_left
  · intro w hSw; (try dsimp only at hSw); go_simp; (try with_reducible rfl)
  try simp only [Act.put, List.setIfInBounds_toArray, List.set_cons_zero, List.set_cons_succ]
  refine take_lit (i := 11) (v := ?_) rfl (by kernel_rfl) (by kernel_rfl) (by kernel_rfl) (fun _ _ _ h => h) (Or.inl ⟨by rfl, ?_⟩) (by assumption) ?_
  rotate_left
  · intro w hSw; (try dsimp only at hSw); go_simp; (try with_reducible rfl)
  try simp only [Act.put, List.setIfInBounds_toArray, List.set_cons_zero, List.set_cons_succ]
  refine take_lit (i := 12) (v := ?_) rfl (by kernel_rfl) (by kernel_rfl) (by kernel_rfl) (fun _ _ _ h => h) (Or.inl ⟨by rfl, ?_⟩) (by assumption) ?_
  rotate_left
  · intro w hSw; (try dsimp only at hSw); go_simp; (try with_reducible rfl)
  try simp only [Act.put, List.setIfInBounds_toArray, List.set_cons_zero, List.set_cons_succ]
  refine wpAnyH_ready (rs := [13]) (by kernel_rfl) (by simp) ?_
  refine cons_lit rfl (fun K hK => ?_) ?_
  rotate_left
  · exact AllReadyH.nil
  go_simp
  refine (ncheck_ok F n ⟨some ⟨g, off, none⟩, cn, ao, co, ae, ce⟩ _ ⟨(HN.out.nums.alloc _).drew, (HN.out.ops.alloc _).drew⟩ HS.out HE.out).mono ?_
  rintro e w1 ⟨rfl, hb1⟩
  go_wp2_with fail
  refine hK.out _ _ ?_ (fun hHeld => ?_)
  · (try dsimp only); exact fun q hq => (hb1.cell (by simp; omega)).trans (World.cell?_drew _ q)
  clear hK K
  try simp only [Act.put, List.setIfInBounds_toArray, List.set_cons_zero, List.set_cons_succ]
  refine take_lit (i := 14) (v := ?_) rfl (by kernel_rfl) (by kernel_rfl) (by kernel_rfl) (fun _ _ _ h => h) (Or.inl ⟨by rfl, ?_⟩) (by assumption) ?_
  rotate_left
  · intro w hSw; (try dsimp only at hSw); go_simp; (try with_reducible rfl)
  try simp only [Act.put, List.setIfInBounds_toArray, List.set_cons_zero, List.set_cons_succ]
  refine take_lit (i := 15) (v := ?_) rfl (by kernel_rfl) (by kernel_rfl) (by kernel_rfl) (fun _ _ _ h => h) (Or.inl ⟨by rfl, ?_⟩) (by assumption) ?_
  rotate_left
  · intro w hSw; (try dsimp only at hSw); go_simp; (try with_reducible rfl)
  try simp only [Act.put, List.setIfInBounds_toArray, List.set_cons_zero, List.set_cons_succ]
  refine take_lit (i := 16) (v := ?_) rfl (by kernel_rfl) (by kernel_rfl) (by kernel_rfl) (fun _ _ _ h => h) (Or.inl ⟨by rfl, ?_⟩) (by assumption) ?_
  rotate_left
  · intro w hSw; (try dsimp only at hSw); go_simp; (try with_reducible rfl)
  try simp only [Act.put, List.setIfInBounds_toArray, List.set_cons_zero, List.set_cons_succ]
  refine take_lit (i := 17) (v := ?_) rfl (by kernel_rfl) (by kernel_rfl) (by kernel_rfl) (fun _ _ _ h => h) (Or.inl ⟨by rfl, ?_⟩) (by assumption) ?_
  rotate_left
  · intro w hSw; (try dsimp only at hSw); go_simp; (try with_reducible rfl)
  try simp only [Act.put, List.setIfInBounds_toArray, List.set_cons_zero, List.set_cons_succ]
  refine take_lit (i := 18) (v := ?_) rfl (by kernel_rfl) (by kernel_rfl) (by kernel_rfl) (fun _ _ _ h => h) (Or.inl ⟨by rfl, ?_⟩) (by assumption) ?_
  rotate_left
  · intro w hSw; (try dsimp only at hSw); go_simp; (try with_reducible rfl)
  try simp only [Act.put, List.setIfInBounds_toArray, List.set_cons_zero, List.set_cons_succ]
  refine take_lit (i := 19) (v := ?_) rfl (by kernel_rfl) (by kernel_rfl) (by kernel_rfl) (fun _ _ _ h => h) (Or.inl ⟨by rfl, ?_⟩) (by assumption) ?_
  rotate_left
  · intro w hSw; (try dsimp only at hSw); go_simp; (try with_reducible rfl)
  try simp only [Act.put, List.setIfInBounds_toArray, List.set_cons_zero, List.set_cons_succ]
  refine take_lit (i := 20) (v := ?_) rfl (by kernel_rfl) (by kernel_rfl) (by kernel_rfl) (fun _ _ _ h => h) (Or.inl ⟨by rfl, ?_⟩) (by assumption) ?_
  rotate_left
  · intro w hSw; (try dsimp only at hSw); go_simp; (try with_reducible rfl)
  try simp only [Act.put, List.setIfInBounds_toArray, List.set_cons_zero, List.set_cons_succ]
  refine take_lit (i := 21) (v := undef) rfl (by kernel_rfl) (by kernel_rfl) (by kernel_rfl) (fun _ _ _ h => h) (Or.inr ⟨by rfl, rfl⟩) (by assumption) ?_
  try simp only [Act.put, List.setIfInBounds_toArray, List.set_cons_zero, List.set_cons_succ]
  refine take_lit (i := 22) (v := undef) rfl (by kernel_rfl) (by kernel_rfl) (by kernel_rfl) (fun _ _ _ h => h) (Or.inr ⟨by rfl, rfl⟩) (by assumption) ?_
  try simp only [Act.put, List.setIfInBounds_toArray, List.set_cons_zero, List.set_cons_succ]
  refine take_lit (i := 23) (v := undef) rfl (by kernel_rfl) (by kernel_rfl) (by kernel_rfl) (fun _ _ _ h => h) (Or.inr ⟨by rfl, rfl⟩) (by assumption) ?_
  try simp only [Act.put, List.setIfInBounds_toArray, List.set_cons_zero, List.set_cons_succ]
  refine take_lit (i := 24) (v := ?_) rfl (by kernel_rfl) (by kernel_rfl) (by kernel_rfl) (fun _ _ _ h => h) (Or.inl ⟨by rfl, ?_⟩) (by assumption) ?_
  rotate_left
  · intro w hSw; (try dsimp only at hSw); go_simp; (try with_reducible rfl)
  try simp only [Act.put, List.setIfInBounds_toArray, List.set_cons_zero, List.set_cons_succ]
  refine take_lit (i := 25) (v := ?_) rfl (by kernel_rfl) (by kernel_rfl) (by kernel_rfl) (fun _ _ _ h => h) (Or.inl ⟨by rfl, ?_⟩) (by assumption) ?_
  rotate_left
  · intro w hSw; (try dsimp only at hSw); go_simp; (try with_reducible rfl)
  try simp only [Act.put, List.setIfInBounds_toArray, List.set_cons_zero, List.set_cons_succ]
  refine wpAnyH_done (by kernel_rfl) ?_ _
  go_wp2_with fail
  have hz1 : w.heap.size + 1 ≤ w1.heap.size := by have := hb1.size; simpa using this
  have hz1' : w.heap.size < w1.heap.size := by omega
  have HN1 : Hid (NoteR w1 F n ⟨some ⟨g, off, none⟩, cn, ao, co, ae, ce⟩) := HN.out.below (bstep ((Below.refl _ w).alloc (Nat.le_refl _) _).drew hb1)
  have HB1 := Lib.hid (bstep ((Below.refl _ w).alloc (Nat.le_refl _) (.cells #[.int .i64 n.kind, .int .i64 n.from_, .int .i64 n.to, .slice (some ⟨g, off, none⟩) n.nums.length cn, .slice ao n.ops.length co, .slice ae n.nent ce] 30)).drew hb1)
  obtain ⟨e0, e1, e2, e3, e4, e5, ef⟩ := ((Blk.at_ w 30 #[.int .i64 n.kind, .int .i64 n.from_, .int .i64 n.to, .slice (some ⟨g, off, none⟩) n.nums.length cn, .slice ao n.ops.length co, .slice ae n.nent ce] _ rfl).drew.below hb1 (by simp)).cells6
  have HNB := Lib.hid ((Blk.at_ w 30 #[.int .i64 n.kind, .int .i64 n.from_, .int .i64 n.to, .slice (some ⟨g, off, none⟩) n.nums.length cn, .slice ao n.ops.length co, .slice ae n.nent ce] _ rfl).drew.below hb1 (by simp))
  have g1 : w1.cell? ⟨g, off, none⟩ = some (.int .i64 key) := (HB1.out.cell hgl).trans hg0
  obtain ⟨q1', q2', q3', qf'⟩ : w1.cell? ⟨k, 0, none⟩ = some (.pointer (some ⟨d, 0, none⟩)) ∧ w1.cell? ⟨k, 1, none⟩ = some (.int .i64 K.node) ∧ w1.cell? ⟨k, 2, none⟩ = some (.map (some m)) ∧ True := ⟨(HB1.out.cell hkl).trans q0, (HB1.out.cell hkl).trans q1, (HB1.out.cell hkl).trans q2, trivial⟩
  have hBal : ∀ X : World, Rd X F 3 (some ⟨g, off, none⟩) (n.nums.map (Value.int .i64)) →
      Calls Tryz.prog 99 #[.slice (if cn = 1 then some ⟨g, off, none⟩ else some ⟨g, off + 1, none⟩) (n.nums.length - 1) (cn - 1)] X (fun e w' => e = .returned b.v ∧ Below X.heap.size X w') := by
    intro X hX
    have hc := hX.cut (k := 1) (cap := cn) (n := n.nums.length) (size := 1) (by simp) hcap
    have e1 : n.nums.drop 1 = b.n :: b.node :: b.life :: rest := by rw [HNUM.out]; rfl
    have e2 : n.nums.length - 1 = (b.n :: b.node :: b.life :: rest).length := by rw [← e1]; simp
    rw [e2]
    refine nballot_any F _ (cn - 1) _ X ?_ (by simp) b (by simp)
    rw [← e1]
    simpa [addr_add, List.map_drop] using hc
  have HBAL := Lib.hid hBal
  clear hHeld hb1 q0 q1 q2 qf hg0 hBal
  go_cut [5, 6] from 37 to 44 (fun x5 x6 wx => ∃ B : Nat, x5 = .int .i64 key ∧ x6 = .pointer (some ⟨B, 0, none⟩) ∧ Hid (Blk wx B 103 #[.int .i64 b.n, .int .i64 b.node, .int .i64 b.life] ∧ w1.heap.size ≤ B ∧ Below w1.heap.size w1 wx))
  case first =>
    refine wp_region_held_drew (S := fun w' => ∀ q : Addr, q.block < w.heap.size + 1 → w'.cell? q = w1.cell? q) (by kernel_rfl) ?_ (fun hHeld => ?_)
    · (try dsimp only); exact fun q _ => World.cell?_drew _ q
    refine take_lit (i := 0) (v := ?_) rfl (by kernel_rfl) (by kernel_rfl) (by kernel_rfl) (fun _ _ _ h => h) (Or.inl ⟨by rfl, ?_⟩) (by assumption) ?_
    rotate_left
    · intro w hSw; (try dsimp only at hSw); go_simp; (try with_reducible rfl)
    try simp only [Act.put, List.setIfInBounds_toArray, List.set_cons_zero, List.set_cons_succ]
    refine take_lit (i := 1) (v := ?_) rfl (by kernel_rfl) (by kernel_rfl) (by kernel_rfl) (fun _ _ _ h => h) (Or.inl ⟨by rfl, ?_⟩) (by assumption) ?_
    rotate_left
    · intro w hSw; (try dsimp only at hSw); go_simp; (try with_reducible rfl)
    try simp only [Act.put, List.setIfInBounds_toArray, List.set_cons_zero, List.set_cons_succ]
    refine take_lit (i := 2) (v := ?_) rfl (by kernel_rfl) (by kernel_rfl) (by kernel_rfl) (fun _ _ _ h => h) (Or.inl ⟨by rfl, ?_⟩) (by assumption) ?_
    rotate_left
    · intro w hSw; (try dsimp only at hSw); go_simp; (try with_reducible rfl)
    try simp only [Act.put, List.setIfInBounds_toArray, List.set_cons_zero, List.set_cons_succ]
    refine take_lit (i := 3) (v := ?_) rfl (by kernel_rfl) (by kernel_rfl) (by kernel_rfl) (fun _ _ _ h => h) (Or.inl ⟨by rfl, ?_⟩) (by assumption) ?_
    rotate_left
    · intro w hSw; (try dsimp only at hSw); go_simp; (try with_reducible rfl)
    try simp only [Act.put, List.setIfInBounds_toArray, List.set_cons_zero, List.set_cons_succ]
    refine take_lit (i := 4) (v := ?_) rfl (by kernel_rfl) (by kernel_rfl) (by kernel_rfl) (fun _ _ _ h => h) (Or.inl ⟨by rfl, ?_⟩) (by assumption) ?_
    rotate_left
    · intro w hSw; (try dsimp only at hSw); go_simp; (try with_reducible rfl)
    try simp only [Act.put, List.setIfInBounds_toArray, List.set_cons_zero, List.set_cons_succ]
    refine take_lit (i := 5) (v := ?_) rfl (by kernel_rfl) (by kernel_rfl) (by kernel_rfl) (fun _ _ _ h => h) (Or.inl ⟨by rfl, ?_⟩) (by assumption) ?_
    rotate_left
    · intro w hSw; (try dsimp only at hSw); go_simp; (try with_reducible rfl)
    try simp only [Act.put, List.setIfInBounds_toArray, List.set_cons_zero, List.set_cons_succ]
    refine take_lit (i := 6) (v := ?_) rfl (by kernel_rfl) (by kernel_rfl) (by kernel_rfl) (fun _ _ _ h => h) (Or.inl ⟨by rfl, ?_⟩) (by assumption) ?_
    rotate_left
    · intro w hSw; (try dsimp only at hSw); go_simp; (try with_reducible rfl)
    try simp only [Act.put, List.setIfInBounds_toArray, List.set_cons_zero, List.set_cons_succ]
    refine wpAnyH_ready (rs := [7, 8]) (by kernel_rfl) (by simp) ?_
    refine cons_lit rfl (fun K hK => ?_) (cons_lit rfl (fun K hK => ?_) AllReadyH.nil)
    · go_simp
      refine (HBAL.out _ HN1.out.nums.drew).mono ?_
      rintro e w2 ⟨rfl, hb2⟩
      go_wp2_with fail
      have hB2 : Below w1.heap.size w1 w2 := bstep (Below.refl _ w1).drew hb2
      refine hK.out _ _ ?_ (fun hHeld => ?_)
      · (try dsimp only); exact fun q hq => hB2.cell (by omega)
      clear hK K
      try simp only [Act.put, List.setIfInBounds_toArray, List.set_cons_zero, List.set_cons_succ]
      refine wpAnyH_ready (rs := [8]) (by kernel_rfl) (by simp) ?_
      refine cons_lit rfl (fun K hK => ?_) AllReadyH.nil
      go_simp
      refine hK.out _ _ ?_ (fun hHeld => ?_)
      · (try dsimp only); exact fun q hq => (World.cell?_alloc_lt _ _ _ (by have := hB2.size; omega)).trans (hB2.cell (by omega))
      clear hK K
      try simp only [Act.put, List.setIfInBounds_toArray, List.set_cons_zero, List.set_cons_succ]
      refine take_lit (i := 9) (v := ?_) rfl (by kernel_rfl) (by kernel_rfl) (by kernel_rfl) (fun _ _ _ h => h) (Or.inl ⟨by rfl, ?_⟩) (by assumption) ?_
      rotate_left
      · intro w hSw; (try dsimp only at hSw); go_simp; (try with_reducible rfl)
      try simp only [Act.put, List.setIfInBounds_toArray, List.set_cons_zero, List.set_cons_succ]
      refine wpAnyH_ready (rs := [10]) (by kernel_rfl) (by simp) ?_
      refine cons_lit rfl (fun K hK => ?_) AllReadyH.nil
      go_simp
      refine hK.out _ _ ?_ (fun hHeld => ?_)
      · (try dsimp only); exact fun q hq => (World.cell?_alloc_lt _ _ _ (by have := hB2.size; omega)).trans (hB2.cell (by omega))
      clear hK K
      try simp only [Act.put, List.setIfInBounds_toArray, List.set_cons_zero, List.set_cons_succ]
      refine wpAnyH_done (by kernel_rfl) ?_ _
      go_wp2_with fail
      go_meet
      exact ⟨w2.heap.size, rfl, rfl, Blk.new _ _ _, hB2.size, hB2.alloc hB2.size _⟩
    · go_simp
      refine hK.out _ _ ?_ (fun hHeld => ?_)
      · (try dsimp only); exact fun q hq => (World.cell?_alloc_lt _ _ _ (by show q.block < w1.heap.size; omega)).trans (World.cell?_drew _ q)
      clear hK K
      try simp only [Act.put, List.setIfInBounds_toArray, List.set_cons_zero, List.set_cons_succ]
      refine wpAnyH_ready (rs := [7]) (by kernel_rfl) (by simp) ?_
      refine cons_lit rfl (fun K hK => ?_) AllReadyH.nil
      go_simp
      refine (HBAL.out _ (HN1.out.nums.drew.alloc _)).mono ?_
      rintro e w2 ⟨rfl, hb2⟩
      go_wp2_with fail
      have hB2 : Below w1.heap.size w1 w2 := ((Below.refl _ w1).drew.alloc (Nat.le_refl _) _).trans (hb2.mono (by simp))
      have hz2 : w1.heap.size + 1 ≤ w2.heap.size := by have := hb2.size; simpa using this
      have hkb : Blk w2 w1.heap.size 103 #[.int .i64 0, .int .i64 0, .int .i64 0] := (Blk.at_ w1.drew 103 #[.int .i64 0, .int .i64 0, .int .i64 0] w1.heap.size rfl).below hb2 (by simp)
      obtain ⟨z0, z1, z2, zf⟩ := hkb.cells3
      refine hK.out _ _ ?_ (fun hHeld => ?_)
      · (try dsimp only); exact fun q hq => hB2.cell (by omega)
      clear hK K
      try simp only [Act.put, List.setIfInBounds_toArray, List.set_cons_zero, List.set_cons_succ]
      refine take_lit (i := 9) (v := ?_) rfl (by kernel_rfl) (by kernel_rfl) (by kernel_rfl) (fun _ _ _ h => h) (Or.inl ⟨by rfl, ?_⟩) (by assumption) ?_
      rotate_left
      · intro w hSw; (try dsimp only at hSw); go_simp; (try with_reducible rfl)
      try simp only [Act.put, List.setIfInBounds_toArray, List.set_cons_zero, List.set_cons_succ]
      refine wpAnyH_ready (rs := [10]) (by kernel_rfl) (by simp) ?_
      refine cons_lit rfl (fun K hK => ?_) AllReadyH.nil
      go_simp
      have hKs : Keep (· = w1.heap.size) w2 (((w2.setCell ⟨w1.heap.size, 0, none⟩ (.int .i64 b.n)).setCell ⟨w1.heap.size, 1, none⟩ (.int .i64 b.node)).setCell ⟨w1.heap.size, 2, none⟩ (.int .i64 b.life)) := (((Keep.refl (· = w1.heap.size) w2).set_ 0 _).set_ 1 _).set_ 2 _
      refine hK.out _ _ ?_ (fun hHeld => ?_)
      · (try dsimp only); exact fun q hq => (hKs.cell (by have := hB2.size; omega) (by omega)).trans (hB2.cell (by omega))
      clear hK K
      try simp only [Act.put, List.setIfInBounds_toArray, List.set_cons_zero, List.set_cons_succ]
      refine wpAnyH_done (by kernel_rfl) ?_ _
      go_wp2_with fail
      go_meet
      exact ⟨w1.heap.size, rfl, rfl, by simpa using ((hkb.set_ 0 (.int .i64 b.n)).set_ 1 (.int .i64 b.node)).set_ 2 (.int .i64 b.life), Nat.le_refl _, hB2.trans (hKs.below (by omega) fun q hq hS => by omega)⟩
  case rest =>
    obtain ⟨B, rfl, rfl, HQ⟩ := hcut
    have hzc := HQ.out.2.2.size
    have hk0 : ¬ key < 0 := by omega
    have hk9 : ¬ 99 < key := by omega
    have HBC := Lib.hid (HB1.out.trans (HQ.out.2.2.mono (by omega)))
    have hbt := HQ.out.1
    obtain ⟨t0, t1, t2, tf⟩ := hbt.cells3
    have hbl := hbt.lt
    have HMC : Hid (MapKV wc m L ∧ RegsV wc fr L K.regs) := ⟨HM.out.1.below HBC.out, HM.out.2.keep (Keep.of_below (S := fun _ => False) HBC.out) fun _ _ _ h => h⟩
    obtain ⟨A, c, hv, hrd⟩ := HMC.out.2.look key
    have hlk := run_lookup_kv (P := Tryz.prog) HMC.out.1 Tryz.underlying179 Tryz.underlying3 (zero_register _) key
    rw [hv] at hlk
    have HRD := Lib.hid hrd
    have HREG := Lib.hid hreg
    have cq2 : wc.cell? ⟨k, 2, none⟩ = some (.map (some m)) := (HQ.out.2.2.cell (p := ⟨k, 2, none⟩) (by show k < _; omega)).trans q3'
    clear hv hrd hbt hreg
    go_wp2_with fail
    refine (prepare_any (lookR K.regs key) A c fr b _ HREG.out.1 hbw (HRD.out.alloc _) (Few.of (by have := HREG.out.2; omega))).mono ?_
    rintro e w3 ⟨A1, c1, rfl, hlen1, hrd1, hb3⟩
    have hz3 : wc.heap.size + 1 ≤ w3.heap.size := by have := hb3.size; simpa using this
    have hbc3 : Below wc.heap.size wc w3 := bstep ((Below.refl _ wc).alloc (Nat.le_refl _) _) hb3
    have HB3 := Lib.hid (HBC.out.trans (hbc3.mono (by have := HBC.out.size; omega)))
    have HR3 := Lib.hid (And.intro hlen1 hrd1)
    have hnb : Blk w3 w.heap.size 30 #[.int .i64 n.kind, .int .i64 n.from_, .int .i64 n.to, .slice (some ⟨g, off, none⟩) n.nums.length cn, .slice ao n.ops.length co, .slice ae n.nent ce] := (HNB.out.below HQ.out.2.2 (by omega)).below hbc3 (by omega)
    have HNB3 := Lib.hid hnb
    have h7b : Blk w3 wc.heap.size 105 _ := (Blk.new wc 105 _).below hb3 (by simp)
    obtain ⟨m0, m1, m2, m3, m4, m5, mf⟩ := hnb.cells6
    obtain ⟨s0, s1, s2, s3, s4, s5, s6, sf⟩ := h7b.cells7
    have cq3 : w3.cell? ⟨k, 2, none⟩ = some (.map (some m)) := (hbc3.cell (p := ⟨k, 2, none⟩) (by show k < _; omega)).trans cq2
    have HPE := Lib.hid (Reg.prep_err (lookR K.regs key) b)
    have HPG := Lib.hid (Reg.prep_good HREG.out.1 hbw HREG.out.2)
    have hlw : w.heap.size < w3.heap.size := by omega
    have hlc : wc.heap.size < w3.heap.size := by omega
    have hlk3 : k < w3.heap.size := by omega
    have HST : Hid (K.step 1 key b rest = (let o := (lookR K.regs key).prep b
      if o.2 = 11 then (K, some (5, [key, b.n, b.node, b.life] ++ [(lookR K.regs key).promised.n, (lookR K.regs key).promised.node, (lookR K.regs key).promised.life]))
      else if o.2 ≠ 0 then (K, none)
      else if (K.save key o.1).2 ≠ 0 then ((K.save key o.1).1, none)
      else ((K.save key o.1).1, some (2, [key, b.n, b.node, b.life] ++ ([o.1.accepted.n, o.1.accepted.node, o.1.accepted.life] ++ o.1.value))))) := by simp [Hid, KeeperM.step]
    clear e0 e1 e2 e3 e4 e5 ef t0 t1 t2 tf hb3 hbc3 hnb h7b hlen1 hrd1 hlk cq2 g1 q1' q2' q3'
    generalize (lookR K.regs key).prep b = o at *
    obtain ⟨r1, n1⟩ := o
    simp only at HPE HPG HST HR3 ⊢
    rcases HPE.out with rfl | rfl | rfl
    · have HG : Hid (K.step 1 key b rest = (if (K.save key r1).2 ≠ 0 then ((K.save key r1).1, none) else ((K.save key r1).1, some (2, [key, b.n, b.node, b.life] ++ ([r1.accepted.n, r1.accepted.node, r1.accepted.life] ++ r1.value))))) := by rw [Hid, HST.out]; simp
      have hgd := HPG.out rfl
      have HGD := Lib.hid hgd
      rw [errV_zero]
      clear HPE HPG HST hgd
      go_wp2_with fail
      refine (is_nil _).mono ?_
      rintro e w5 ⟨rfl, rfl⟩
      go_wp2_with fail
      have HB4 := Lib.hid (HB3.out.alloc (by omega) (.cells #[.int .i64 r1.promised.n, .int .i64 r1.promised.node, .int .i64 r1.promised.life, .int .i64 r1.accepted.n, .int .i64 r1.accepted.node, .int .i64 r1.accepted.life, .slice A1 r1.value.length c1] 105))
      have hfx : ∀ q, (w.heap.size ≤ q ∧ q < w3.heap.size + 1) → ¬ fp q ∧ q < (w3.alloc (.cells #[.int .i64 r1.promised.n, .int .i64 r1.promised.node, .int .i64 r1.promised.life, .int .i64 r1.accepted.n, .int .i64 r1.accepted.node, .int .i64 r1.accepted.life, .slice A1 r1.value.length c1] 105)).heap.size := fun q hq => ⟨fun h => by have := HFP.out q h; omega, by simp; omega⟩
      have hx : Rd (w3.alloc (.cells #[.int .i64 r1.promised.n, .int .i64 r1.promised.node, .int .i64 r1.promised.life, .int .i64 r1.accepted.n, .int .i64 r1.accepted.node, .int .i64 r1.accepted.life, .slice A1 r1.value.length c1] 105)) (fun q => w.heap.size ≤ q ∧ q < w3.heap.size + 1) 3 A1 (r1.value.map (Value.int .i64)) := (HR3.out.2.alloc _).mono fun q hq hF => ⟨by simp at hF; omega, by simpa using hq⟩
      refine (save_short k fp _ K key r1 A1 c1 _ (HKR.out.below HB4.out) hx hfx HGD.out.2 ⟨by omega, by omega⟩ HGD.out.1 hrows).mono ?_
      rintro e ws ⟨rfl, hks, hkeep⟩
      have hzs := hkeep.size
      simp only [World.size_alloc] at hzs
      have HKS : Hid (KeeperR ws k (fun q => fp q ∨ (w.heap.size ≤ q ∧ q < ws.heap.size)) (K.save key r1).1) := hks.mono (fun q hq => by
        rcases hq with (hq | hq) | hq
        · exact .inl hq
        · simp only [World.size_alloc] at hq; exact .inr ⟨by omega, hq.2⟩
        · exact .inr ⟨hq.1, by omega⟩) fun q hq => by
        rcases hq with hq | hq
        · have := HFP.out q hq; omega
        · exact hq.2
      have HKP : Hid (Keep fp w ws) := (Keep.of_below (S := fp) HB4.out).tr hkeep
      have nfp : ∀ q, w.heap.size ≤ q → ¬ fp q := fun q hq h => by have := HFP.out q h; omega
      have hnb5 : Blk ws w.heap.size 30 #[.int .i64 n.kind, .int .i64 n.from_, .int .i64 n.to, .slice (some ⟨g, off, none⟩) n.nums.length cn, .slice ao n.ops.length co, .slice ae n.nent ce] := ((HNB3.out.alloc _).keep hkeep (nfp _ (Nat.le_refl _)))
      have h8b5 : Blk ws w3.heap.size 105 #[.int .i64 r1.promised.n, .int .i64 r1.promised.node, .int .i64 r1.promised.life, .int .i64 r1.accepted.n, .int .i64 r1.accepted.node, .int .i64 r1.accepted.life, .slice A1 r1.value.length c1] := (Blk.new w3 105 #[.int .i64 r1.promised.n, .int .i64 r1.promised.node, .int .i64 r1.promised.life, .int .i64 r1.accepted.n, .int .i64 r1.accepted.node, .int .i64 r1.accepted.life, .slice A1 r1.value.length c1]).keep hkeep (nfp _ (by omega))
      have HX5 : Hid (Rd ws (fun _ => True) 3 A1 (r1.value.map (Value.int .i64))) := (hx.keep hkeep fun q _ hq => nfp q hq.1).any
      have hask : n.nums.take 4 = [key, b.n, b.node, b.life] := by rw [HNUM.out]; rfl
      have HASK : Hid (Rd ws F 3 (some ⟨g, off, none⟩) ([key, b.n, b.node, b.life].map (Value.int .i64))) := by
        have h1 := ((HN.out.below HB4.out).nums.keep hkeep fun q _ hq => hFd q hq).take 4
        rw [← List.map_take, hask] at h1
        exact h1
      clear m0 m1 m2 m3 m4 m5 mf hks hkeep hx hfx
      obtain ⟨m0, m1, m2, m3, m4, m5, mf⟩ := hnb5.cells6
      obtain ⟨y0, y1, y2, y3, y4, y5, y6, yf⟩ := h8b5.cells7
      clear hnb5 h8b5
      by_cases hsv : (K.save key r1).2 = 0
      · have HG2 : Hid (K.step 1 key b rest = ((K.save key r1).1, some (2, [key, b.n, b.node, b.life] ++ ([r1.accepted.n, r1.accepted.node, r1.accepted.life] ++ r1.value)))) := by rw [Hid, HG.out, if_neg (by simp [hsv])]
        rw [hsv, errV_zero]
        clear hsv
        go_wp2_with fail
        have hl5a : w.heap.size < ws.heap.size := by omega
        have hl5b : w3.heap.size < ws.heap.size := by omega
        go_region_held3 (fun w' => ∀ q : Addr, q.block < ws.heap.size → w'.cell? q = ws.cell? q)
          (first | (with_reducible exact fun q hq => World.cell?_drew _ q) | (with_reducible exact hS6) | (with_reducible exact fun q hq => (World.cell?_alloc_lt _ _ _ (Nat.lt_of_lt_of_le hq hz6)).trans (hS6 q hq)) | (with_reducible exact hS7))
          (first
            | (go_at_call 104; refine (spread_any r1.accepted _).mono ?_; rintro e w6 ⟨As, cs, rfl, howns, hb6⟩; have hb6' : Below ws.heap.size ws w6 := bstep (Below.refl _ ws).drew hb6; have hS6 : ∀ q : Addr, q.block < ws.heap.size → w6.cell? q = ws.cell? q := fun q hq => hb6'.cell hq; have hz6 : ws.heap.size ≤ w6.heap.size := hb6'.size)
            | (go_at_call 103; refine (answer_any (fun _ => True) (fun _ => True) n.kind n.from_ n.to 2 (.slice (some ⟨g, off, none⟩) n.nums.length cn) (.slice ao n.ops.length co) (.slice ae n.nent ce) (some ⟨w6.heap.size, 0, none⟩) 3 [(some ⟨g, off, none⟩, cn, [key, b.n, b.node, b.life]), (As, cs, [r1.accepted.n, r1.accepted.node, r1.accepted.life]), (A1, c1, r1.value)] _ ?_ ?_ ?_ ?_).mono ?_; exact Rd.new _ _ [.slice (some ⟨g, off, none⟩) 4 cn, .slice As 3 cs, .slice A1 r1.value.length c1] _ rfl; (intro p hp; simp only [List.mem_cons, List.not_mem_nil, or_false] at hp; rcases hp with rfl | rfl | rfl; exact ((HASK.out.any).below hb6').alloc _; exact howns.rd.any.alloc _; exact (HX5.out.below hb6').alloc _); (have := HGD.out.2; simp [catL]; omega); (simp); rintro e w7 ⟨gN, AN, cN, rfl, hBN, hgN, hRN, hcN, hb7⟩; have hS7 : ∀ q : Addr, q.block < ws.heap.size → w7.cell? q = ws.cell? q := fun q hq => (hb7.cell (by simp; omega)).trans ((World.cell?_alloc_lt _ _ _ (Nat.lt_of_lt_of_le hq hz6)).trans (hS6 q hq))))
        go_wp2_with fail
        go_ret
        rw [HG2.out]
        refine handle_fin HKS.out HKP.out (hb6'.alloc (by omega) (.cells #[.slice (some ⟨g, off, none⟩) 4 cn, .slice As 3 cs, .slice A1 r1.value.length c1] 27)) ⟨gN, AN, cN, rfl, ?_, hgN, ?_, ?_, hb7⟩
        · simpa [catL] using hBN
        · simpa [catL] using hRN
        · simpa [catL] using hcN
      · have HG2 : Hid (K.step 1 key b rest = ((K.save key r1).1, none)) := by rw [Hid, HG.out, if_pos hsv]
        have HSV := Lib.hid hsv
        clear hsv
        rw [errV_ne HSV.out]
        go_wp2_with fail
        go_ret
        rw [HG2.out]
        exact handle_non HKS.out HKP.out (Below.refl _ _) rfl
    · have HG : Hid (K.step 1 key b rest = (K, none)) := by rw [Hid, HST.out]; simp
      rw [errV_two]
      go_wp2_with fail
      refine (is_form _).mono ?_
      rintro e w5 ⟨rfl, rfl⟩
      go_wp2_with fail
      go_ret
      rw [HG.out]
      exact handle_non (keeper_self HKR.out) (Keep.refl _ _) (HB3.out.alloc (by omega) _) rfl
    · have HG : Hid (K.step 1 key b rest = (K, some (5, [key, b.n, b.node, b.life] ++ [(lookR K.regs key).promised.n, (lookR K.regs key).promised.node, (lookR K.regs key).promised.life]))) := by rw [Hid, HST.out]; simp
      rw [errV_stale]
      go_wp2_with fail
      refine (is_stale _).mono ?_
      rintro e w5 ⟨rfl, rfl⟩
      go_wp2_with fail
      have HN3 := Lib.hid ((HN.out.below HB3.out).nums)
      have hcap4 : (4 : Int) ≤ (cn : Int) := by omega
      have hask : n.nums.take 4 = [key, b.n, b.node, b.life] := by rw [HNUM.out]; rfl
      have HASK : Hid (Rd w3 F 3 (some ⟨g, off, none⟩) ([key, b.n, b.node, b.life].map (Value.int .i64))) := by
        have := HN3.out.take 4
        rw [← List.map_take, hask] at this
        exact this
      go_region_held3 (fun w' => ∀ q : Addr, q.block < w3.heap.size → w'.cell? q = w3.cell? q)
        (first | (with_reducible exact fun q hq => (World.cell?_drew _ q).trans (World.cell?_alloc_lt _ _ _ hq)) | (with_reducible exact hS6) | (with_reducible exact fun q hq => (World.cell?_alloc_lt _ _ _ (Nat.lt_of_lt_of_le hq hz6)).trans (hS6 q hq)) | (with_reducible exact hS7))
        (first
          | (go_at_call 104; refine (spread_any (lookR K.regs key).promised _).mono ?_; rintro e w6 ⟨As, cs, rfl, howns, hb6⟩; have hS6 : ∀ q : Addr, q.block < w3.heap.size → w6.cell? q = w3.cell? q := fun q hq => (hb6.cell (by simp; omega)).trans ((World.cell?_drew _ q).trans (World.cell?_alloc_lt _ _ _ hq)); have hz6 : w3.heap.size ≤ w6.heap.size := by (have := hb6.size; simp at this; omega))
          | (go_at_call 103; refine (answer_any (fun _ => True) (fun _ => True) n.kind n.from_ n.to 5 (.slice (some ⟨g, off, none⟩) n.nums.length cn) (.slice ao n.ops.length co) (.slice ae n.nent ce) (some ⟨w6.heap.size, 0, none⟩) 2 [(some ⟨g, off, none⟩, cn, [key, b.n, b.node, b.life]), (As, cs, [(lookR K.regs key).promised.n, (lookR K.regs key).promised.node, (lookR K.regs key).promised.life])] _ ?_ ?_ ?_ ?_).mono ?_; exact Rd.new _ _ [.slice (some ⟨g, off, none⟩) 4 cn, .slice As 3 cs] _ rfl; (intro p hp; simp only [List.mem_cons, List.not_mem_nil, or_false] at hp; rcases hp with rfl | rfl; exact (((HASK.out.any.alloc _).drew).below hb6).alloc _; exact howns.rd.any.alloc _); (simp [catL]); (simp); rintro e w7 ⟨gN, AN, cN, rfl, hBN, hgN, hRN, hcN, hb7⟩; have hS7 : ∀ q : Addr, q.block < w3.heap.size → w7.cell? q = w3.cell? q := fun q hq => (hb7.cell (by simp; omega)).trans ((World.cell?_alloc_lt _ _ _ (Nat.lt_of_lt_of_le hq hz6)).trans (hS6 q hq))))
      go_wp2_with fail
      go_ret
      rw [HG.out]
      have hX : Below w.heap.size w (w6.alloc (.cells #[.slice (some ⟨g, off, none⟩) 4 cn, .slice As 3 cs] 27)) := (bstep (HB3.out.alloc (by omega) _).drew hb6).alloc (by omega) _
      refine handle_fin (keeper_self HKR.out) (Keep.refl _ _) hX ⟨gN, AN, cN, rfl, ?_, hgN, ?_, ?_, hb7⟩
      · simpa [catL] using hBN
      · simpa [catL] using hRN
      · simpa [catL] using hcN
end Go.Proofs.YtepflhniomineaaGreat
