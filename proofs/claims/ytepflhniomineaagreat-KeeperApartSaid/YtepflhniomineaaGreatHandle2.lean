/- Handle: keys that there are not. -/
import Derived.Test.YtepflhniomineaaGreatHandle1
import Derived.Deep.CutRange
namespace Go.Proofs.YtepflhniomineaaGreat
open Go.RowKit
set_option maxRecDepth 100000 in
set_option maxHeartbeats 8000000 in
theorem handle_key1 (k : Nat) (fp F : Nat → Prop) (K : KeeperM) (n : NoteM) (p : NoteAt) (key : Int) (b : Bal) (rest : List Int) (w : World) (h : KeeperR w k fp K) (hn : NoteR w F n p) (hs : n.small) (hto : n.to = K.node) (hg : n.good = true) (hk1 : n.kind = 1)
    (hnum : n.nums = key :: b.n :: b.node :: b.life :: rest) (hcap : n.nums.length ≤ p.cn) (hkey : key < 0 ∨ 99 < key) :
    Calls Tryz.prog 52 #[.pointer (some ⟨k, 0, none⟩), n.v p] w (NilNotes w) := by
  obtain ⟨an, cn, ao, co, ae, ce⟩ := p
  obtain ⟨d, m, fd, fr, L, h1, h2, h3, h4, h5, h6, h7, h8, h9, h10⟩ := h
  have hkl := h10 k h5
  obtain ⟨q0, q1, q2, qf⟩ := h1.cells3
  clear h1 h2 h3 h4 h5 h6 h7 h8 h9 h10
  have hb : (n.to != K.node) = false := by simpa using hto
  have hb1 : (n.kind != 1) = false := by simp [hk1]
  have hb3 : (n.kind != 3) = true := by simp [hk1]
  have HN := Lib.hid hn
  have HS := Lib.hid hs
  have HE := Lib.hid hg
  have HNUM := Lib.hid hnum
  have hl4 : 4 ≤ n.nums.length := by rw [hnum]; simp
  have hl4' : (4 : Int) ≤ (n.nums.length : Int) := by omega
  have hl1' : (1 : Int) ≤ (n.nums.length : Int) := by omega
  have hl0' : (0 : Int) < (n.nums.length : Int) := by omega
  have hl0n : 0 < n.nums.length := by omega
  have hl1n : 1 ≤ n.nums.length := by omega
  obtain ⟨g, off, rfl, hgl, _, hgc⟩ := hn.nums.at_ (j := 0) (by simp; omega)
  have hg0 := hgc 0 (.int .i64 key) (by simp [hnum])
  simp only [Nat.add_zero] at hg0
  have hcap : n.nums.length ≤ cn := hcap
  clear hto hg hn hs hk1 hgc hnum
  have HV : Hid (n.v ⟨some ⟨g, off, none⟩, cn, ao, co, ae, ce⟩ = .agg #[.int .i64 n.kind, .int .i64 n.from_, .int .i64 n.to, .slice (some ⟨g, off, none⟩) n.nums.length cn, .slice ao n.ops.length co, .slice ae n.nent ce]) := rfl
  rw [HV.out]
  go_enter Tryz.func52, Tryz.ntmps52
  go_wp2_with fail
  refine wp_region_held_drew (S := fun w' => ∀ q : Addr, q.block < w.heap.size + 1 → w'.cell? q = (w.alloc (.cells #[.int .i64 n.kind, .int .i64 n.from_, .int .i64 n.to, .slice (some ⟨g, off, none⟩) n.nums.length cn, .slice ao n.ops.length co, .slice ae n.nent ce] 30)).cell? q) (by kernel_rfl) ?_ (fun hHeld => ?_)
  · (try dsimp only); exact fun q _ => World.cell?_drew _ q
  refine take_lit (i := 0) (v := ?_) rfl (by kernel_rfl) (by kernel_rfl) (by kernel_rfl) (fun _ _ _ h => h) (Or.inl ⟨by rfl, ?_⟩) (by assumption) ?_
  rotate_left
  · intro w hSw; (try dsimp only at hSw); go_simp; (try with_reducible rfl)
  try simp only [Act.put, List.setIfInBounds_toArray, List.set_cons_zero, List.set_cons_succ]
  refine take_lit (i := 1) (v := ?_) rfl (by kernel_rfl) (by kernel_rfl) (by kernel_rfl) (fun _ _ _ h => h) (Or.inl ⟨by rfl, ?_⟩) (by assumption) ?_
  rotate_left
  · intro w hSw; (try dsimp only at hSw); go_simp; (try with_reducible rfl)
  try simp only [Act.put, List.setIfInBounds_toArray, List.set_cons_zero, List.set_cons_succ]
  refine take_lit (i := 2) (v := ?_) rfl (by kernel_rfl) (by kernel_rfl) (by kernel_rfl) (fun _ _ _ h => h) (Or.inl ⟨by rfl, ?_⟩) (by assumption) ?_
  rotate_left
  · intro w hSw; (try dsimp only at hSw); go_simp; (try with_reducible rfl)
  try simp only [Act.put, List.setIfInBounds_toArray, List.set_cons_zero, List.set_cons_succ]
  refine take_lit (i := 3) (v := ?_) rfl (by kernel_rfl) (by kernel_rfl) (by kernel_rfl) (fun _ _ _ h => h) (Or.inl ⟨by rfl, ?_⟩) (by assumption) ?_
  rotate_left
  · intro w hSw; (try dsimp only at hSw); go_simp; (try with_reducible rfl)
  try simp only [Act.put, List.setIfInBounds_toArray, List.set_cons_zero, List.set_cons_succ]
  refine take_lit (i := 4) (v := ?_) rfl (by kernel_rfl) (by kernel_rfl) (by kernel_rfl) (fun _ _ _ h => h) (Or.inl ⟨by rfl, ?_⟩) (by assumption) ?_
  rotate_left
  · intro w hSw; (try dsimp only at hSw); go_simp; (try with_reducible rfl)
  try simp only [Act.put, List.setIfInBounds_toArray, List.set_cons_zero, List.set_cons_succ]
  refine take_lit (i := 5) (v := ?_) rfl (by kernel_rfl) (by kernel_rfl) (by kernel_rfl) (fun _ _ _ h => h) (Or.inl ⟨by rfl, ?_⟩) (by assumption) ?_
  rotate_left
  · intro w hSw; (try dsimp only at hSw); go_simp; (try with_reducible rfl)
  try simp only [Act.put, List.setIfInBounds_toArray, List.set_cons_zero, List.set_cons_succ]
  refine take_lit (i := 6) (v := ?_) rfl (by kernel_rfl) (by kernel_rfl) (by kernel_rfl) (fun _ _ _ h => h) (Or.inl ⟨by rfl, ?_⟩) (by assumption) ?_
  rotate_left
  · intro w hSw; (try dsimp only at hSw); go_simp; (try with_reducible rfl)
  try simp only [Act.put, List.setIfInBounds_toArray, List.set_cons_zero, List.set_cons_succ]
  refine take_lit (i := 7) (v := ?_) rfl (by kernel_rfl) (by kernel_rfl) (by kernel_rfl) (fun _ _ _ h => h) (Or.inl ⟨by rfl, ?_⟩) (by assumption) ?_
  rotate_left
  · intro w hSw; (try dsimp only at hSw); go_simp; (try with_reducible rfl)
  try simp only [Act.put, List.setIfInBounds_toArray, List.set_cons_zero, List.set_cons_succ]
  refine take_lit (i := 8) (v := ?_) rfl (by kernel_rfl) (by kernel_rfl) (by kernel_rfl) (fun _ _ _ h => h) (Or.inl ⟨by rfl, ?_⟩) (by assumption) ?_
  rotate_left
  · intro w hSw; (try dsimp only at hSw); go_simp; (try with_reducible rfl)
  try simp only [Act.put, List.setIfInBounds_toArray, List.set_cons_zero, List.set_cons_succ]
  refine take_lit (i := 9) (v := ?_) rfl (by kernel_rfl) (by kernel_rfl) (by kernel_rfl) (fun _ _ _ h => h) (Or.inl ⟨by rfl, ?_⟩) (by assumption) ?_
  rotate_left
  · intro w hSw; (try dsimp only at hSw); go_simp; (try with_reducible rfl)
  try simp only [Act.put, List.setIfInBounds_toArray, List.set_cons_zero, List.set_cons_succ]
  refine take_lit (i := 10) (v := ?_) rfl (by kernel_rfl) (by kernel_rfl) (by kernel_rfl) (fun _ _ _ h => h) (Or.inl ⟨by rfl, ?_⟩) (by assumption) ?_
  rotate_left
  · intro w hSw; (try dsimp only at hSw); go_simp; (try with_reducible rfl)
  try simp only [Act.put, List.setIfInBounds_toArray, List.set_cons_zero, List.set_cons_succ]
  refine take_lit (i := 11) (v := ?_) rfl (by kernel_rfl) (by kernel_rfl) (by kernel_rfl) (fun _ _ _ h => h) (Or.inl ⟨by rfl, ?_⟩) (by assumption) ?_
  rotate_left
  · intro w hSw; (try dsimp only at hSw); go_simp; (try with_reducible rfl)
  try simp only [Act.put, List.setIfInBounds_toArray, List.set_cons_zero, List.set_cons_succ]
  refine take_lit (i := 12) (v := ?_) rfl (by kernel_rfl) (by kernel_rfl) (by kernel_rfl) (fun _ _ _ h => h) (Or.inl ⟨by rfl, ?_⟩) (by assumption) ?_
  rotate_left
  · intro w hSw; (try dsimp only at hSw); go_simp; (try with_reducible rfl)
  try simp only [Act.put, List.setIfInBounds_toArray, List.set_cons_zero, List.set_cons_succ]
  refine wpAnyH_ready (rs := [13]) (by kernel_rfl) (by simp) ?_
  refine cons_lit rfl (fun K hK => ?_) ?_
  rotate_left
  · exact AllReadyH.nil
  go_simp
  refine (ncheck_ok F n ⟨some ⟨g, off, none⟩, cn, ao, co, ae, ce⟩ _ ⟨(HN.out.nums.alloc _).drew, (HN.out.ops.alloc _).drew⟩ HS.out HE.out).mono ?_
  rintro e w1 ⟨rfl, hb1⟩
  go_wp2_with fail
  refine hK.out _ _ ?_ (fun hHeld => ?_)
  · (try dsimp only); exact fun q hq => (hb1.cell (by simp; omega)).trans (World.cell?_drew _ q)
  clear hK K
  try simp only [Act.put, List.setIfInBounds_toArray, List.set_cons_zero, List.set_cons_succ]
  refine take_lit (i := 14) (v := ?_) rfl (by kernel_rfl) (by kernel_rfl) (by kernel_rfl) (fun _ _ _ h => h) (Or.inl ⟨by rfl, ?_⟩) (by assumption) ?_
  rotate_left
  · intro w hSw; (try dsimp only at hSw); go_simp; (try with_reducible rfl)
  try simp only [Act.put, List.setIfInBounds_toArray, List.set_cons_zero, List.set_cons_succ]
  refine take_lit (i := 15) (v := ?_) rfl (by kernel_rfl) (by kernel_rfl) (by kernel_rfl) (fun _ _ _ h => h) (Or.inl ⟨by rfl, ?_⟩) (by assumption) ?_
  rotate_left
  · intro w hSw; (try dsimp only at hSw); go_simp; (try with_reducible rfl)
  try simp only [Act.put, List.setIfInBounds_toArray, List.set_cons_zero, List.set_cons_succ]
  refine take_lit (i := 16) (v := ?_) rfl (by kernel_rfl) (by kernel_rfl) (by kernel_rfl) (fun _ _ _ h => h) (Or.inl ⟨by rfl, ?_⟩) (by assumption) ?_
  rotate_left
  · intro w hSw; (try dsimp only at hSw); go_simp; (try with_reducible rfl)
  try simp only [Act.put, List.setIfInBounds_toArray, List.set_cons_zero, List.set_cons_succ]
  refine take_lit (i := 17) (v := ?_) rfl (by kernel_rfl) (by kernel_rfl) (by kernel_rfl) (fun _ _ _ h => h) (Or.inl ⟨by rfl, ?_⟩) (by assumption) ?_
  rotate_left
  · intro w hSw; (try dsimp only at hSw); go_simp; (try with_reducible rfl)
  try simp only [Act.put, List.setIfInBounds_toArray, List.set_cons_zero, List.set_cons_succ]
  refine take_lit (i := 18) (v := ?_) rfl (by kernel_rfl) (by kernel_rfl) (by kernel_rfl) (fun _ _ _ h => h) (Or.inl ⟨by rfl, ?_⟩) (by assumption) ?_
  rotate_left
  · intro w hSw; (try dsimp only at hSw); go_simp; (try with_reducible rfl)
  try simp only [Act.put, List.setIfInBounds_toArray, List.set_cons_zero, List.set_cons_succ]
  refine take_lit (i := 19) (v := ?_) rfl (by kernel_rfl) (by kernel_rfl) (by kernel_rfl) (fun _ _ _ h => h) (Or.inl ⟨by rfl, ?_⟩) (by assumption) ?_
  rotate_left
  · intro w hSw; (try dsimp only at hSw); go_simp; (try with_reducible rfl)
  try simp only [Act.put, List.setIfInBounds_toArray, List.set_cons_zero, List.set_cons_succ]
  refine take_lit (i := 20) (v := ?_) rfl (by kernel_rfl) (by kernel_rfl) (by kernel_rfl) (fun _ _ _ h => h) (Or.inl ⟨by rfl, ?_⟩) (by assumption) ?_
  rotate_left
  · intro w hSw; (try dsimp only at hSw); go_simp; (try with_reducible rfl)
  try simp only [Act.put, List.setIfInBounds_toArray, List.set_cons_zero, List.set_cons_succ]
  refine take_lit (i := 21) (v := undef) rfl (by kernel_rfl) (by kernel_rfl) (by kernel_rfl) (fun _ _ _ h => h) (Or.inr ⟨by rfl, rfl⟩) (by assumption) ?_
  try simp only [Act.put, List.setIfInBounds_toArray, List.set_cons_zero, List.set_cons_succ]
  refine take_lit (i := 22) (v := undef) rfl (by kernel_rfl) (by kernel_rfl) (by kernel_rfl) (fun _ _ _ h => h) (Or.inr ⟨by rfl, rfl⟩) (by assumption) ?_
  try simp only [Act.put, List.setIfInBounds_toArray, List.set_cons_zero, List.set_cons_succ]
  refine take_lit (i := 23) (v := undef) rfl (by kernel_rfl) (by kernel_rfl) (by kernel_rfl) (fun _ _ _ h => h) (Or.inr ⟨by rfl, rfl⟩) (by assumption) ?_
  try simp only [Act.put, List.setIfInBounds_toArray, List.set_cons_zero, List.set_cons_succ]
  refine take_lit (i := 24) (v := ?_) rfl (by kernel_rfl) (by kernel_rfl) (by kernel_rfl) (fun _ _ _ h => h) (Or.inl ⟨by rfl, ?_⟩) (by assumption) ?_
  rotate_left
  · intro w hSw; (try dsimp only at hSw); go_simp; (try with_reducible rfl)
  try simp only [Act.put, List.setIfInBounds_toArray, List.set_cons_zero, List.set_cons_succ]
  refine take_lit (i := 25) (v := ?_) rfl (by kernel_rfl) (by kernel_rfl) (by kernel_rfl) (fun _ _ _ h => h) (Or.inl ⟨by rfl, ?_⟩) (by assumption) ?_
  rotate_left
  · intro w hSw; (try dsimp only at hSw); go_simp; (try with_reducible rfl)
  try simp only [Act.put, List.setIfInBounds_toArray, List.set_cons_zero, List.set_cons_succ]
  refine wpAnyH_done (by kernel_rfl) ?_ _
  go_wp2_with fail
  have hz1 : w.heap.size + 1 ≤ w1.heap.size := by have := hb1.size; simpa using this
  have hz1' : w.heap.size < w1.heap.size := by omega
  have HN1 : Hid (NoteR w1 F n ⟨some ⟨g, off, none⟩, cn, ao, co, ae, ce⟩) := HN.out.below (bstep ((Below.refl _ w).alloc (Nat.le_refl _) _).drew hb1)
  have HB1 := Lib.hid (bstep ((Below.refl _ w).alloc (Nat.le_refl _) (.cells #[.int .i64 n.kind, .int .i64 n.from_, .int .i64 n.to, .slice (some ⟨g, off, none⟩) n.nums.length cn, .slice ao n.ops.length co, .slice ae n.nent ce] 30)).drew hb1)
  obtain ⟨e0, e1, e2, e3, e4, e5, ef⟩ := ((Blk.at_ w 30 #[.int .i64 n.kind, .int .i64 n.from_, .int .i64 n.to, .slice (some ⟨g, off, none⟩) n.nums.length cn, .slice ao n.ops.length co, .slice ae n.nent ce] _ rfl).drew.below hb1 (by simp)).cells6
  have g1 : w1.cell? ⟨g, off, none⟩ = some (.int .i64 key) := (HB1.out.cell hgl).trans hg0
  obtain ⟨q1', q2', q3', qf'⟩ : w1.cell? ⟨k, 0, none⟩ = some (.pointer (some ⟨d, 0, none⟩)) ∧ w1.cell? ⟨k, 1, none⟩ = some (.int .i64 K.node) ∧ w1.cell? ⟨k, 2, none⟩ = some (.map (some m)) ∧ True := ⟨(HB1.out.cell hkl).trans q0, (HB1.out.cell hkl).trans q1, (HB1.out.cell hkl).trans q2, trivial⟩
  have hBal : ∀ X : World, Rd X F 3 (some ⟨g, off, none⟩) (n.nums.map (Value.int .i64)) →
      Calls Tryz.prog 99 #[.slice (if cn = 1 then some ⟨g, off, none⟩ else some ⟨g, off + 1, none⟩) (n.nums.length - 1) (cn - 1)] X (fun e w' => e = .returned b.v ∧ Below X.heap.size X w') := by
    intro X hX
    have hc := hX.cut (k := 1) (cap := cn) (n := n.nums.length) (size := 1) (by simp) hcap
    have e1 : n.nums.drop 1 = b.n :: b.node :: b.life :: rest := by rw [HNUM.out]; rfl
    have e2 : n.nums.length - 1 = (b.n :: b.node :: b.life :: rest).length := by rw [← e1]; simp
    rw [e2]
    refine nballot_any F _ (cn - 1) _ X ?_ (by simp) b (by simp)
    rw [← e1]
    simpa [addr_add, List.map_drop] using hc
  have HBAL := Lib.hid hBal
  clear hHeld hb1 q0 q1 q2 qf hg0 hBal
  go_cut [5, 6] from 37 to 44 (fun x5 x6 wx => ∃ B : Nat, x5 = .int .i64 key ∧ x6 = .pointer (some ⟨B, 0, none⟩) ∧ Hid (Blk wx B 103 #[.int .i64 b.n, .int .i64 b.node, .int .i64 b.life] ∧ w1.heap.size ≤ B ∧ Below w1.heap.size w1 wx))
  case first =>
    refine wp_region_held_drew (S := fun w' => ∀ q : Addr, q.block < w.heap.size + 1 → w'.cell? q = w1.cell? q) (by kernel_rfl) ?_ (fun hHeld => ?_)
    · (try dsimp only); exact fun q _ => World.cell?_drew _ q
    refine take_lit (i := 0) (v := ?_) rfl (by kernel_rfl) (by kernel_rfl) (by kernel_rfl) (fun _ _ _ h => h) (Or.inl ⟨by rfl, ?_⟩) (by assumption) ?_
    rotate_left
    · intro w hSw; (try dsimp only at hSw); go_simp; (try with_reducible rfl)
    try simp only [Act.put, List.setIfInBounds_toArray, List.set_cons_zero, List.set_cons_succ]
    refine take_lit (i := 1) (v := ?_) rfl (by kernel_rfl) (by kernel_rfl) (by kernel_rfl) (fun _ _ _ h => h) (Or.inl ⟨by rfl, ?_⟩) (by assumption) ?_
    rotate_left
    · intro w hSw; (try dsimp only at hSw); go_simp; (try with_reducible rfl)
    try simp only [Act.put, List.setIfInBounds_toArray, List.set_cons_zero, List.set_cons_succ]
    refine take_lit (i := 2) (v := ?_) rfl (by kernel_rfl) (by kernel_rfl) (by kernel_rfl) (fun _ _ _ h => h) (Or.inl ⟨by rfl, ?_⟩) (by assumption) ?_
    rotate_left
    · intro w hSw; (try dsimp only at hSw); go_simp; (try with_reducible rfl)
    try simp only [Act.put, List.setIfInBounds_toArray, List.set_cons_zero, List.set_cons_succ]
    refine take_lit (i := 3) (v := ?_) rfl (by kernel_rfl) (by kernel_rfl) (by kernel_rfl) (fun _ _ _ h => h) (Or.inl ⟨by rfl, ?_⟩) (by assumption) ?_
    rotate_left
    · intro w hSw; (try dsimp only at hSw); go_simp; (try with_reducible rfl)
    try simp only [Act.put, List.setIfInBounds_toArray, List.set_cons_zero, List.set_cons_succ]
    refine take_lit (i := 4) (v := ?_) rfl (by kernel_rfl) (by kernel_rfl) (by kernel_rfl) (fun _ _ _ h => h) (Or.inl ⟨by rfl, ?_⟩) (by assumption) ?_
    rotate_left
    · intro w hSw; (try dsimp only at hSw); go_simp; (try with_reducible rfl)
    try simp only [Act.put, List.setIfInBounds_toArray, List.set_cons_zero, List.set_cons_succ]
    refine take_lit (i := 5) (v := ?_) rfl (by kernel_rfl) (by kernel_rfl) (by kernel_rfl) (fun _ _ _ h => h) (Or.inl ⟨by rfl, ?_⟩) (by assumption) ?_
    rotate_left
    · intro w hSw; (try dsimp only at hSw); go_simp; (try with_reducible rfl)
    try simp only [Act.put, List.setIfInBounds_toArray, List.set_cons_zero, List.set_cons_succ]
    refine take_lit (i := 6) (v := ?_) rfl (by kernel_rfl) (by kernel_rfl) (by kernel_rfl) (fun _ _ _ h => h) (Or.inl ⟨by rfl, ?_⟩) (by assumption) ?_
    rotate_left
    · intro w hSw; (try dsimp only at hSw); go_simp; (try with_reducible rfl)
    try simp only [Act.put, List.setIfInBounds_toArray, List.set_cons_zero, List.set_cons_succ]
    refine wpAnyH_ready (rs := [7, 8]) (by kernel_rfl) (by simp) ?_
    refine cons_lit rfl (fun K hK => ?_) (cons_lit rfl (fun K hK => ?_) AllReadyH.nil)
    · go_simp
      refine (HBAL.out _ HN1.out.nums.drew).mono ?_
      rintro e w2 ⟨rfl, hb2⟩
      go_wp2_with fail
      have hB2 : Below w1.heap.size w1 w2 := bstep (Below.refl _ w1).drew hb2
      refine hK.out _ _ ?_ (fun hHeld => ?_)
      · (try dsimp only); exact fun q hq => hB2.cell (by omega)
      clear hK K
      try simp only [Act.put, List.setIfInBounds_toArray, List.set_cons_zero, List.set_cons_succ]
      refine wpAnyH_ready (rs := [8]) (by kernel_rfl) (by simp) ?_
      refine cons_lit rfl (fun K hK => ?_) AllReadyH.nil
      go_simp
      refine hK.out _ _ ?_ (fun hHeld => ?_)
      · (try dsimp only); exact fun q hq => (World.cell?_alloc_lt _ _ _ (by have := hB2.size; omega)).trans (hB2.cell (by omega))
      clear hK K
      try simp only [Act.put, List.setIfInBounds_toArray, List.set_cons_zero, List.set_cons_succ]
      refine take_lit (i := 9) (v := ?_) rfl (by kernel_rfl) (by kernel_rfl) (by kernel_rfl) (fun _ _ _ h => h) (Or.inl ⟨by rfl, ?_⟩) (by assumption) ?_
      rotate_left
      · intro w hSw; (try dsimp only at hSw); go_simp; (try with_reducible rfl)
      try simp only [Act.put, List.setIfInBounds_toArray, List.set_cons_zero, List.set_cons_succ]
      refine wpAnyH_ready (rs := [10]) (by kernel_rfl) (by simp) ?_
      refine cons_lit rfl (fun K hK => ?_) AllReadyH.nil
      go_simp
      refine hK.out _ _ ?_ (fun hHeld => ?_)
      · (try dsimp only); exact fun q hq => (World.cell?_alloc_lt _ _ _ (by have := hB2.size; omega)).trans (hB2.cell (by omega))
      clear hK K
      try simp only [Act.put, List.setIfInBounds_toArray, List.set_cons_zero, List.set_cons_succ]
      refine wpAnyH_done (by kernel_rfl) ?_ _
      go_wp2_with fail
      go_meet
      exact ⟨w2.heap.size, rfl, rfl, Blk.new _ _ _, hB2.size, hB2.alloc hB2.size _⟩
    · go_simp
      refine hK.out _ _ ?_ (fun hHeld => ?_)
      · (try dsimp only); exact fun q hq => (World.cell?_alloc_lt _ _ _ (by show q.block < w1.heap.size; omega)).trans (World.cell?_drew _ q)
      clear hK K
      try simp only [Act.put, List.setIfInBounds_toArray, List.set_cons_zero, List.set_cons_succ]
      refine wpAnyH_ready (rs := [7]) (by kernel_rfl) (by simp) ?_
      refine cons_lit rfl (fun K hK => ?_) AllReadyH.nil
      go_simp
      refine (HBAL.out _ (HN1.out.nums.drew.alloc _)).mono ?_
      rintro e w2 ⟨rfl, hb2⟩
      go_wp2_with fail
      have hB2 : Below w1.heap.size w1 w2 := ((Below.refl _ w1).drew.alloc (Nat.le_refl _) _).trans (hb2.mono (by simp))
      have hz2 : w1.heap.size + 1 ≤ w2.heap.size := by have := hb2.size; simpa using this
      have hkb : Blk w2 w1.heap.size 103 #[.int .i64 0, .int .i64 0, .int .i64 0] := (Blk.at_ w1.drew 103 #[.int .i64 0, .int .i64 0, .int .i64 0] w1.heap.size rfl).below hb2 (by simp)
      obtain ⟨z0, z1, z2, zf⟩ := hkb.cells3
      refine hK.out _ _ ?_ (fun hHeld => ?_)
      · (try dsimp only); exact fun q hq => hB2.cell (by omega)
      clear hK K
      try simp only [Act.put, List.setIfInBounds_toArray, List.set_cons_zero, List.set_cons_succ]
      refine take_lit (i := 9) (v := ?_) rfl (by kernel_rfl) (by kernel_rfl) (by kernel_rfl) (fun _ _ _ h => h) (Or.inl ⟨by rfl, ?_⟩) (by assumption) ?_
      rotate_left
      · intro w hSw; (try dsimp only at hSw); go_simp; (try with_reducible rfl)
      try simp only [Act.put, List.setIfInBounds_toArray, List.set_cons_zero, List.set_cons_succ]
      refine wpAnyH_ready (rs := [10]) (by kernel_rfl) (by simp) ?_
      refine cons_lit rfl (fun K hK => ?_) AllReadyH.nil
      go_simp
      have hKs : Keep (· = w1.heap.size) w2 (((w2.setCell ⟨w1.heap.size, 0, none⟩ (.int .i64 b.n)).setCell ⟨w1.heap.size, 1, none⟩ (.int .i64 b.node)).setCell ⟨w1.heap.size, 2, none⟩ (.int .i64 b.life)) := (((Keep.refl (· = w1.heap.size) w2).set_ 0 _).set_ 1 _).set_ 2 _
      refine hK.out _ _ ?_ (fun hHeld => ?_)
      · (try dsimp only); exact fun q hq => (hKs.cell (by have := hB2.size; omega) (by omega)).trans (hB2.cell (by omega))
      clear hK K
      try simp only [Act.put, List.setIfInBounds_toArray, List.set_cons_zero, List.set_cons_succ]
      refine wpAnyH_done (by kernel_rfl) ?_ _
      go_wp2_with fail
      go_meet
      exact ⟨w1.heap.size, rfl, rfl, by simpa using ((hkb.set_ 0 (.int .i64 b.n)).set_ 1 (.int .i64 b.node)).set_ 2 (.int .i64 b.life), Nat.le_refl _, hB2.trans (hKs.below (by omega) fun q hq hS => by omega)⟩
  case rest =>
    obtain ⟨B, rfl, rfl, HQ⟩ := hcut
    have hzc := HQ.out.2.2.size
    rcases hkey with hkey | hkey
    · go_wp2_with fail
      go_ret
      exact ⟨rfl, HB1.out.trans (HQ.out.2.2.mono (by omega))⟩
    · have hk0 : ¬ key < 0 := by omega
      go_wp2_with fail
      go_ret
      exact ⟨rfl, HB1.out.trans (HQ.out.2.2.mono (by omega))⟩
end Go.Proofs.YtepflhniomineaaGreat
