/- ballot.Nums, keeper.spread, keeper.row, diary.Len. -/
import Derived.Test.YtepflhniomineaaGreatConcat
import Derived.Test.YtepflhniomineaaGreatDiary1
namespace Go.Proofs.YtepflhniomineaaGreat
open Go.RowKit
def Reg.nums (r : Reg) : List Int := [r.promised.n, r.promised.node, r.promised.life, r.accepted.n, r.accepted.node, r.accepted.life] ++ r.value
theorem Reg.nums_length (r : Reg) : r.nums.length = 6 + r.value.length := by simp [Reg.nums]; omega
theorem Rd.any {w : World} {F : Nat → Prop} {e : TypeId} {A : Option Addr} {xs : List Value} (h : Rd w F e A xs) : Rd w (fun _ => True) e A xs := h.mono fun _ _ _ => trivial
theorem SliceOut.from_ {w W w' : World} {e : TypeId} {size n : Nat} {xs : List Value} {en : Ending} (h : SliceOut W e size n xs en w') (hB : Below w.heap.size w W) : SliceOut w e size n xs en w' := by
  obtain ⟨A, c, h1, h2, h3⟩ := h
  exact ⟨A, c, h1, h2.mono fun k _ hk => Nat.le_trans hB.size hk, bstep hB h3⟩
set_option maxRecDepth 100000 in
set_option maxHeartbeats 1000000 in
theorem bnums_any (r : Reg) (F : Nat → Prop) (A : Option Addr) (c : Nat) (w : World) (h : Rd w F 3 A (r.value.map (Value.int .i64))) (hm : r.value.length ≤ 5000) :
    Calls Tryz.prog 195 #[r.v A c] w (SliceOut w 3 1 r.nums.length (r.nums.map (Value.int .i64))) := by
  have H := Lib.hid h
  clear h
  go_enter Tryz.func195, Tryz.ntmps195
  go_wp2_with fail
  have HC := Lib.hid (concat_any (fun _ => True) (fun _ => True) (some ⟨w.heap.size + 1 + 1, 0, none⟩) 2 [(some ⟨w.heap.size + 1, 0, none⟩, 6, [r.promised.n, r.promised.node, r.promised.life, r.accepted.n, r.accepted.node, r.accepted.life]), (A, c, r.value)]
    (((w.alloc (Obj.cells #[.int .i64 r.promised.n, .int .i64 r.promised.node, .int .i64 r.promised.life, .int .i64 r.accepted.n, .int .i64 r.accepted.node, .int .i64 r.accepted.life, .slice A r.value.length c] 105)).alloc
      (Obj.cells #[.int .i64 r.promised.n, .int .i64 r.promised.node, .int .i64 r.promised.life, .int .i64 r.accepted.n, .int .i64 r.accepted.node, .int .i64 r.accepted.life] 3)).alloc
      (Obj.cells #[.slice (some ⟨w.heap.size + 1, 0, none⟩) 6 6, .slice A r.value.length c] 27))
    (Rd.new _ _ [.slice (some ⟨w.heap.size + 1, 0, none⟩) 6 6, .slice A r.value.length c] _ (by simp)) (by
      intro p hp
      simp only [List.mem_cons, List.not_mem_nil, or_false] at hp
      rcases hp with rfl | rfl
      · exact (Rd.new _ 3 [.int .i64 r.promised.n, .int .i64 r.promised.node, .int .i64 r.promised.life, .int .i64 r.accepted.n, .int .i64 r.accepted.node, .int .i64 r.accepted.life] _ (by simp)).alloc _
      · exact (((H.out.any.alloc _).alloc _).alloc _)) (by simp [catL]; omega) (by simp))
  refine HC.out.mono ?_
  intro e w1 he
  have HE := he.from_ (w := w) ((((Below.refl _ w).alloc (Nat.le_refl _) _).alloc (by simp) _).alloc (by simp; omega) _)
  rw [show (catL [(some ⟨w.heap.size + 1, 0, none⟩, 6, [r.promised.n, r.promised.node, r.promised.life, r.accepted.n, r.accepted.node, r.accepted.life]), (A, c, r.value)]) = r.nums by simp [catL, Reg.nums]] at HE
  obtain ⟨A1, c1, rfl, ho, hb⟩ := HE
  have HO := Lib.hid (And.intro ho hb)
  clear ho hb he HC
  go_wp2
  go_ret
  exact ⟨A1, c1, rfl, HO.out.1, HO.out.2⟩
set_option maxRecDepth 100000 in
set_option maxHeartbeats 1000000 in
theorem spread_any (b : Bal) (w : World) :
    Calls Tryz.prog 104 #[b.v] w (SliceOut w 3 1 3 ([b.n, b.node, b.life].map (Value.int .i64))) := by
  go_enter Tryz.func104, Tryz.ntmps104
  go_wp2_with fail
  go_ret
  refine ⟨some ⟨w.heap.size + 1, 0, none⟩, 3, rfl, ?_, ((Below.refl _ w).alloc (Nat.le_refl _) _).alloc (by simp) _⟩
  have h := Own.made (w.alloc (.cells #[.int .i64 b.n, .int .i64 b.node, .int .i64 b.life] 103)) 3 1 #[.int .i64 b.n, .int .i64 b.node, .int .i64 b.life] 3 3 (by omega) (by unfold maxLen; omega) rfl
  simp only [World.size_alloc] at h
  exact h.mono fun k _ hk => by omega
set_option maxRecDepth 100000 in
set_option maxHeartbeats 1000000 in
theorem dlen_any (d : Nat) (fp : Nat → Prop) (D : DiaryM) (w : World) (h : DiaryR w d fp D) : Calls Tryz.prog 98 #[.pointer (some ⟨d, 0, none⟩)] w fun e w' => e = .returned (.int .i64 D.rows) ∧ w = w' := by
  obtain ⟨n, h1, h2, h3, h4⟩ := h
  obtain ⟨c0, c1, c2, cf⟩ := h1.cells3
  clear h1 h2 h3 h4
  go_enter Tryz.func98, Tryz.ntmps98
  go_wp2
  go_ret
  exact ⟨rfl, rfl⟩
def rowL (key : Int) (r : Reg) : List UInt8 := putL (key :: r.nums)
set_option maxRecDepth 100000 in
set_option maxHeartbeats 1000000 in
theorem row_any (key : Int) (r : Reg) (F : Nat → Prop) (A : Option Addr) (c : Nat) (w : World) (h : Rd w F 3 A (r.value.map (Value.int .i64))) (hm : r.value.length ≤ 5000) (hk : In64 key) (hr : r.wf) :
    Calls Tryz.prog 160 #[.int .i64 key, r.v A c] w (SliceOut w 5 1 (rowL key r).length ((rowL key r).map bv)) := by
  have H := Lib.hid h
  have HW := Lib.hid (And.intro hk hr)
  clear h hk hr
  go_enter Tryz.func160, Tryz.ntmps160
  go_wp2_with fail
  refine (bnums_any r F A c _ ((H.out.alloc _).alloc _) hm).mono ?_
  intro e w1 he
  have HE := he.from_ (w := w) (((Below.refl _ w).alloc (Nat.le_refl _) _).alloc (by simp) _)
  have HR0 := Lib.hid ((Rd.new (w.alloc (Obj.cells #[.int .i64 r.promised.n, .int .i64 r.promised.node, .int .i64 r.promised.life, .int .i64 r.accepted.n, .int .i64 r.accepted.node, .int .i64 r.accepted.life, .slice A r.value.length c] 105)) 3 [.int .i64 key] (w.heap.size + 1) (by simp)).below (w' := w1) (by obtain ⟨_, _, _, _, h⟩ := he; exact h))
  clear he
  obtain ⟨A1, c1, rfl, ho, hb⟩ := HE
  have HO := Lib.hid (And.intro ho hb)
  have hz := hb.size
  have HL := Lib.hid r.nums_length
  clear ho hb
  go_wp2_with fail
  have HC := Lib.hid (concat_any (fun _ => True) (fun _ => True) (some ⟨w1.heap.size, 0, none⟩) 2 [(some ⟨w.heap.size + 1, 0, none⟩, 1, [key]), (A1, c1, r.nums)]
    (w1.alloc (Obj.cells #[.slice (some ⟨w.heap.size + 1, 0, none⟩) 1 1, .slice A1 r.nums.length c1] 27))
    (Rd.new _ _ [.slice (some ⟨w.heap.size + 1, 0, none⟩) 1 1, .slice A1 r.nums.length c1] _ rfl) (by
      intro p hp
      simp only [List.mem_cons, List.not_mem_nil, or_false] at hp
      rcases hp with rfl | rfl
      · exact HR0.out.alloc _
      · exact (HO.out.1.rd.any).alloc _) (by have := HL.out; simp [catL]; omega) (by simp))
  refine HC.out.mono ?_
  intro e w2 he
  have HE := he.from_ (w := w) (HO.out.2.trans ((Below.refl _ _).alloc hz _))
  rw [show (catL [(some ⟨w.heap.size + 1, 0, none⟩, 1, [key]), (A1, c1, r.nums)]) = key :: r.nums by simp [catL]] at HE
  obtain ⟨A2, c2, rfl, ho, hb⟩ := HE
  have HO2 := Lib.hid (And.intro ho hb)
  clear ho hb he HC
  go_wp2_with fail
  refine (put_any _ A2 c2 (key :: r.nums) _ HO2.out.1.rd ?_ ?_).mono ?_
  · intro x hx
    have := HW.out
    simp only [Reg.nums, List.mem_cons, List.mem_append, List.not_mem_nil, or_false] at hx
    obtain ⟨h0, ⟨h1, h2, h3⟩, ⟨h4, h5, h6⟩, h7⟩ := this
    rcases hx with rfl | (rfl | rfl | rfl | rfl | rfl | rfl) | hx
    · exact h0
    · exact h1
    · exact h2
    · exact h3
    · exact h4
    · exact h5
    · exact h6
    · exact h7 _ hx
  · have := HL.out; simp; omega
  intro e w3 he
  have HE := he.from_ HO2.out.2
  obtain ⟨A3, c3, rfl, ho, hb⟩ := HE
  have HO3 := Lib.hid (And.intro ho hb)
  clear ho hb he
  go_wp2
  go_ret
  exact ⟨A3, c3, rfl, HO3.out.1, HO3.out.2⟩
end Go.Proofs.YtepflhniomineaaGreat
