/- The keeper: save, where the diary is short. -/
import Derived.Test.YtepflhniomineaaGreatKeeper1
namespace Go.Proofs.YtepflhniomineaaGreat
open Go.RowKit
def KeeperM.save (K : KeeperM) (key : Int) (r : Reg) : KeeperM × Int :=
  if (K.d.add (rowL key r)).2 = 0 then (⟨K.node, (K.d.add (rowL key r)).1, putR K.regs key r⟩, 0) else (⟨K.node, (K.d.add (rowL key r)).1, K.regs⟩, (K.d.add (rowL key r)).2)
/-- Behind a call that may turn the keeper: an error is handed back; the keeper may have taken over the blocks of fx. -/
def KeepErr (k : Nat) (fp fx : Nat → Prop) (K : KeeperM) (n : Int) (w : World) (e : Ending) (w' : World) : Prop :=
  e = .returned (errV n) ∧ KeeperR w' k (fun q => newFp fp w w' q ∨ fx q) K ∧ Keep fp w w'
theorem rowL_le (key : Int) (r : Reg) : (rowL key r).length ≤ 9 * (7 + r.value.length) := by
  have h := putL_length_le (key :: r.nums)
  have h2 := r.nums_length
  unfold rowL
  simp only [List.length_cons] at h
  omega
theorem keeper_fin {w w1 w3 : World} {k d m : Nat} {fp fx fd fr fr' : Nat → Prop} {L : List (Int × Value)} {R : List (Int × Reg)} {D : DiaryM} {node : Int} (h5 : fp k) (h6 : fp m) (h7 : k ≠ m)
    (HF : (∀ q, fd q → fp q ∧ q ≠ k ∧ q ≠ m) ∧ (∀ q, fr q → fp q ∧ q ≠ k ∧ q ≠ m ∧ ¬ fd q) ∧ (∀ q, fp q → q < w.heap.size) ∧ ∀ q, fx q → ¬ fp q ∧ q < w.heap.size)
    (hz1 : w.heap.size ≤ w1.heap.size) (hz3 : w1.heap.size ≤ w3.heap.size) (hfr : ∀ q, fr' q → fr q ∨ fx q)
    (hk : Blk w3 k 181 #[.pointer (some ⟨d, 0, none⟩), .int .i64 node, .map (some m)]) (hd : DiaryR w3 d (newFp fd w1 w3) D) (hm : MapKV w3 m L) (hv : RegsV w3 fr' L R) :
    KeeperR w3 k (fun q => newFp fp w w3 q ∨ fx q) ⟨node, D, R⟩ := by
  obtain ⟨h8, h9, h10, h11⟩ := HF
  have hkl := h10 k h5
  have hml := h10 m h6
  refine ⟨d, m, newFp fd w1 w3, fr', L, hk, hd, hm, hv, .inl (.inl h5), .inl (.inl h6), h7, fun q hq => ?_, fun q hq => ?_, fun q hq => ?_⟩
  · rcases hq with hq | hq
    · exact ⟨.inl (.inl (h8 q hq).1), (h8 q hq).2⟩
    · exact ⟨.inl (.inr ⟨by omega, hq.2⟩), by omega, by omega⟩
  · rcases hfr q hq with hq | hq
    · have h := h9 q hq
      have hl := h10 q h.1
      refine ⟨.inl (.inl h.1), h.2.1, h.2.2.1, ?_⟩
      rintro (h' | h')
      · exact h.2.2.2 h'
      · omega
    · have h := h11 q hq
      refine ⟨.inr hq, ?_, ?_, ?_⟩
      · rintro rfl; exact h.1 h5
      · rintro rfl; exact h.1 h6
      · rintro (h' | h')
        · exact h.1 (h8 q h').1
        · omega
  · rcases hq with (hq | hq) | hq
    · have := h10 q hq; omega
    · exact hq.2
    · have := (h11 q hq).2; omega
set_option maxRecDepth 100000 in
set_option maxHeartbeats 4000000 in
theorem save_short (k : Nat) (fp fx : Nat → Prop) (K : KeeperM) (key : Int) (r : Reg) (A : Option Addr) (c : Nat) (w : World) (h : KeeperR w k fp K) (hx : Rd w fx 3 A (r.value.map (Value.int .i64)))
    (hfx : ∀ q, fx q → ¬ fp q ∧ q < w.heap.size) (hm : r.value.length ≤ 32) (hk : In64 key) (hr : r.wf) (hrows : K.d.rows ≤ 200) :
    Calls Tryz.prog 105 #[.pointer (some ⟨k, 0, none⟩), .int .i64 key, r.v A c] w (KeepErr k fp fx (K.save key r).1 (K.save key r).2 w) := by
  obtain ⟨d, m, fd, fr, L, h1, h2, h3, h4, h5, h6, h7, h8, h9, h10⟩ := h
  have HRL := Lib.hid (rowL_le key r)
  have hkl := h10 k h5
  have hml := h10 m h6
  have HK := Lib.hid h1
  have HD := Lib.hid h2
  have HM := Lib.hid h3
  have HV := Lib.hid h4
  have HX := Lib.hid hx
  have HW := Lib.hid (And.intro hk hr)
  have HF := Lib.hid (And.intro h8 (And.intro h9 (And.intro h10 hfx)))
  obtain ⟨q0, q1, q2, qf⟩ := h1.cells3
  clear h1 h2 h3 h4 hx hk hr h8 h9 h10 hfx
  go_enter Tryz.func105, Tryz.ntmps105
  go_wp2_with fail
  refine (dlen_any d fd K.d _ (HD.out.below ((Below.refl _ _).alloc (Nat.le_refl _) _))).mono ?_
  rintro e w1 ⟨rfl, rfl⟩
  go_wp2_with fail
  have hl1 : (rowL key r).length ≤ 16376 := by have := HRL.out; omega
  have hfdk : ∀ q, q = k ∨ q = w.heap.size → ¬ fd q := fun q hq hf => by
    have h1 := HF.out.1 q hf
    have h2 := HF.out.2.2.1 q h1.1
    rcases hq with hq | hq
    · exact h1.2.1 hq
    · omega
  have HFD := Lib.hid hfdk
  clear hfdk
  go_region_held3 (fun w' => ∀ p : Addr, (p.block = k ∨ p.block = w.heap.size) → w'.cell? p = (w.alloc (.cells #[.int .i64 r.promised.n, .int .i64 r.promised.node, .int .i64 r.promised.life, .int .i64 r.accepted.n, .int .i64 r.accepted.node, .int .i64 r.accepted.life, .slice A r.value.length c] 105)).cell? p)
    (first | (with_reducible exact fun p _ => World.cell?_drew _ p) | (with_reducible exact fun p hp => (hb1.cell (by simp; omega)).trans (World.cell?_drew _ p)) | (with_reducible exact fun p hp => (hK2.cell (by have := hb1.size; simp at this; omega) (HFD.out _ hp)).trans ((hb1.cell (by simp; omega)).trans (World.cell?_drew _ p))))
    (first
      | (go_at_call 160; refine (row_any key r fx A c _ ?_ ?_ ?_ ?_).mono ?_; exact (HX.out.alloc _).drew; (omega); exact HW.out.1; exact HW.out.2; rintro e w1 ⟨A1, c1, rfl, hown1, hb1⟩)
      | (go_at_call 137; refine (dadd_any d fd (fun _ => True) K.d (rowL key r) A1 c1 _ ?_ ?_ ?_ ?_).mono ?_; exact HD.out.below (bstep ((Below.refl _ _).alloc (Nat.le_refl _) _).drew hb1); exact hown1.rd.any; exact hl1; (omega); rintro e w2 ⟨rfl, hD2, hK2⟩))
  have hb1' : Below w.heap.size w w1 := bstep ((Below.refl _ _).alloc (Nat.le_refl _) (.cells #[.int .i64 r.promised.n, .int .i64 r.promised.node, .int .i64 r.promised.life, .int .i64 r.accepted.n, .int .i64 r.accepted.node, .int .i64 r.accepted.life, .slice A r.value.length c] 105)).drew hb1
  have hz1 : w.heap.size + 1 ≤ w1.heap.size := by have := hb1.size; simpa using this
  have hz2 := hK2.size
  have HB1 := Lib.hid hb1'
  have HK2 := Lib.hid hK2
  have HD2 := Lib.hid hD2
  have hk2 := (HK.out.below hb1' hkl).keep hK2 (HFD.out _ (.inl rfl))
  have hbx := ((Blk.at_ w 105 #[.int .i64 r.promised.n, .int .i64 r.promised.node, .int .i64 r.promised.life, .int .i64 r.accepted.n, .int .i64 r.accepted.node, .int .i64 r.accepted.life, .slice A r.value.length c] w.heap.size rfl).drew.below hb1 (by simp)).keep hK2 (HFD.out _ (.inr rfl))
  have hfdl : ∀ q, fd q → q < w.heap.size := fun q hq => HF.out.2.2.1 q (HF.out.1 q hq).1
  have HKW : Hid (Keep fp w w2) := (Keep.of_below (S := fp) hb1').trans hK2 fun q hq hS => (HF.out.1 q hS).1
  have HV2 : Hid (RegsV w2 fr L K.regs) := (HV.out.keep (Keep.of_below (S := fun _ => False) hb1') fun _ _ _ h => h).keep hK2 fun q _ hq => (HF.out.2.1 q hq).2.2.2
  have HM2 : Hid (MapKV w2 m L) := (HM.out.keep (Keep.of_below (S := fun _ => False) hb1') fun h => h).keep hK2 fun h => (HF.out.1 m h).2.2 rfl
  have HX2 : Hid (Rd w2 fx 3 A (r.value.map (Value.int .i64))) := (HX.out.below hb1').keep hK2 fun q _ hq hS => (HF.out.2.2.2 q hq).1 (HF.out.1 q hS).1
  have HK3 := Lib.hid hk2
  obtain ⟨e0, e1, e2, ef⟩ := hk2.cells3
  obtain ⟨x0, x1, x2, x3, x4, x5, x6, xf⟩ := hbx.cells7
  clear hb1 hb1' hK2 hD2 hk2 hbx hown1 hfdl
  by_cases he : (K.d.add (rowL key r)).2 = 0
  · have HG : Hid (K.save key r = (⟨K.node, (K.d.add (rowL key r)).1, putR K.regs key r⟩, 0)) := by unfold Hid KeeperM.save; rw [if_pos he]
    rw [he, errV_zero]
    clear he
    go_wp2_with fail
    have hm2d : MapKV w2.drew m L := HM2.out
    obtain ⟨w3, hmu, hm3, hK3, hz3⟩ := run_mapUpdate_kv (P := Tryz.prog) hm2d Tryz.underlying179 Tryz.underlying3 key (r.v A c)
    have HM3 := Lib.hid hm3
    have HK3' := Lib.hid hK3
    have HZ3 := Lib.hid hz3
    clear hm3 hK3 hz3 hm2d
    go_region
    go_wp2_with fail
    go_ret
    rw [HG.out]
    have hz3 : w3.heap.size = w2.heap.size := HZ3.out
    have hmx : ∀ q, fr q ∨ fx q → ¬ q = m := by
      rintro q (hq | hq) rfl
      · exact (HF.out.2.1 _ hq).2.2.1 rfl
      · exact (HF.out.2.2.2 _ hq).1 h6
    have hR3 : RegsV w3 (fun q => fr q ∨ fx q) (putKV L key (r.v A c)) (putR K.regs key r) := by
      have h1 : RegsV w2.drew (fun q => fr q ∨ fx q) L K.regs := (HV2.out.mono (fr' := fun q => fr q ∨ fx q) fun q _ hq => .inl hq).imp fun _ _ h => h.drew
      have h2 : Rd w2.drew (fun q => fr q ∨ fx q) 3 A (r.value.map (Value.int .i64)) := (HX2.out.mono (F' := fun q => fr q ∨ fx q) fun q _ hq => .inr hq).drew
      exact (h1.put key h2).keep HK3'.out fun q _ hq => hmx q hq
    have hD3 : DiaryR w3 d (newFp fd w1 w3) (K.d.add (rowL key r)).1 := by
      have h1 : Keep (· = m) w2 w3 := ⟨HK3'.out.os, HK3'.out.tape, HK3'.out.output, HK3'.out.size, HK3'.out.block⟩
      refine (HD2.out.keep h1 fun q hq => ?_).mono (fun q hq => ?_) (fun q hq => ?_)
      · rcases hq with hq | hq
        · exact (HF.out.1 q hq).2.2
        · omega
      · rcases hq with hq | hq
        · exact .inl hq
        · exact .inr ⟨hq.1, by omega⟩
      · rcases hq with hq | hq
        · have := HF.out.2.2.1 q (HF.out.1 q hq).1; omega
        · exact hq.2
    have hk4 := (HK3.out.drew).keep HK3'.out h7
    refine ⟨rfl, keeper_fin h5 h6 h7 HF.out (by omega) (by omega) (fun q hq => hq) hk4 hD3 HM3.out hR3, ?_⟩
    exact (HKW.out.drew).trans HK3'.out fun q _ hS => by rw [hS]; exact h6
  · have HG : Hid (K.save key r = (⟨K.node, (K.d.add (rowL key r)).1, K.regs⟩, (K.d.add (rowL key r)).2)) := by unfold Hid KeeperM.save; rw [if_neg he]
    have HE := Lib.hid he
    clear he
    rw [errV_ne HE.out]
    go_wp2_with fail
    go_ret
    rw [HG.out]
    exact ⟨by rw [errV_ne HE.out]; rfl, keeper_fin h5 h6 h7 HF.out (by omega) hz2 (fun q hq => .inl hq) HK3.out HD2.out HM2.out HV2.out, HKW.out⟩
end Go.Proofs.YtepflhniomineaaGreat
