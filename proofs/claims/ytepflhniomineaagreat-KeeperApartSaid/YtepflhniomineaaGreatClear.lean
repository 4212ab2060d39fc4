/- Plain: a keeper whose tape has no traps saves; the chapter's example. -/
import Derived.Test.YtepflhniomineaaGreatHandleD
namespace Go.Proofs.YtepflhniomineaaGreat
open Go.RowKit
theorem clear_step : Traps.clear.step = (Traps.clear, 0) := rfl
theorem save_clear {K : KeeperM} {key : Int} {r : Reg} (ht : K.d.tape.tr = Traps.clear) (hb : K.d.tape.bytes.length ≤ 1000000) (hl : r.value.length ≤ 32) :
    (K.save key r).2 = 0 ∧ (K.save key r).1.node = K.node ∧ (K.save key r).1.regs = putR K.regs key r ∧ (K.save key r).1.d.rows = K.d.rows + 1 ∧ (K.save key r).1.d.tape.tr = Traps.clear ∧
      (K.save key r).1.d.tape.bytes.length ≤ K.d.tape.bytes.length + 359 := by
  have h1 := rowL_le key r
  have h2 := frameL_length (rowL key r)
  have ha : K.d.tape.append (frameL (rowL key r)) = (⟨K.d.tape.bytes ++ frameL (rowL key r), K.d.tape.sure, Traps.clear⟩, 0) := by
    unfold TapeM.append
    rw [if_neg (by omega), ht, clear_step]
    simp
  have hs : (⟨K.d.tape.bytes ++ frameL (rowL key r), K.d.tape.sure, Traps.clear⟩ : TapeM).sync = (⟨K.d.tape.bytes ++ frameL (rowL key r), (K.d.tape.bytes ++ frameL (rowL key r)).length, Traps.clear⟩, 0) := by
    unfold TapeM.sync
    rw [clear_step]
    simp
  have hd : K.d.add (rowL key r) = (⟨⟨K.d.tape.bytes ++ frameL (rowL key r), (K.d.tape.bytes ++ frameL (rowL key r)).length, Traps.clear⟩, K.d.rows + 1, K.d.t⟩, 0) := by
    unfold DiaryM.add
    rw [if_neg (by omega), ha]
    simp only [hs, if_true]
  have hk : K.save key r = (⟨K.node, ⟨⟨K.d.tape.bytes ++ frameL (rowL key r), (K.d.tape.bytes ++ frameL (rowL key r)).length, Traps.clear⟩, K.d.rows + 1, K.d.t⟩, putR K.regs key r⟩, 0) := by
    unfold KeeperM.save
    rw [hd]
    simp
  rw [hk]
  refine ⟨rfl, rfl, rfl, rfl, rfl, ?_⟩
  simp only [List.length_append]
  omega
def ra : Reg := ⟨⟨1, 5, 0⟩, ⟨0, 0, 0⟩, []⟩
def rb : Reg := ⟨⟨1, 5, 0⟩, ⟨1, 5, 0⟩, [7]⟩
theorem prep_a : Reg.zero.prep ⟨1, 5, 0⟩ = (ra, 0) := by rfl
theorem acc_b : ra.acc ⟨1, 5, 0⟩ [7] = (rb, 0) := by rfl
theorem prep_c : rb.prep ⟨1, 4, 0⟩ = (Reg.zero, 11) := by rfl
/-- A keeper whose tape has no traps, nor many bytes. -/
structure KeeperM.fresh (K : KeeperM) (n : Nat) : Prop where
  tr : K.d.tape.tr = Traps.clear
  bytes : K.d.tape.bytes.length ≤ 359 * n
  rows : K.d.rows = n
theorem alive_a {K : KeeperM} (h : K.fresh 0) (hr : K.regs = []) : K.step 1 0 ⟨1, 5, 0⟩ [] = ((K.save 0 ra).1, some (2, [0, 1, 5, 0, 0, 0, 0])) ∧ (K.save 0 ra).1.fresh 1 ∧ (K.save 0 ra).1.node = K.node ∧ (K.save 0 ra).1.regs = [(0, ra)] := by
  obtain ⟨h1, h2, h3, h4, h5, h6⟩ := save_clear (key := 0) (r := ra) h.tr (by have := h.bytes; omega) (by decide)
  refine ⟨?_, ⟨h5, by have := h.bytes; omega, by rw [h4, h.rows]⟩, h2, by rw [h3, hr]; rfl⟩
  unfold KeeperM.step
  rw [hr]
  simp [lookR, prep_a, h1]
  exact ⟨rfl, rfl, rfl, rfl⟩
theorem alive_b {K : KeeperM} (h : K.fresh 1) (hr : K.regs = [(0, ra)]) : K.step 3 0 ⟨1, 5, 0⟩ [7] = ((K.save 0 rb).1, some (4, [0, 1, 5, 0])) ∧ (K.save 0 rb).1.fresh 2 ∧ (K.save 0 rb).1.node = K.node ∧ (K.save 0 rb).1.regs = [(0, rb)] := by
  obtain ⟨h1, h2, h3, h4, h5, h6⟩ := save_clear (key := 0) (r := rb) h.tr (by have := h.bytes; omega) (by decide)
  refine ⟨?_, ⟨h5, by have := h.bytes; omega, by rw [h4, h.rows]⟩, h2, by rw [h3, hr]; rfl⟩
  unfold KeeperM.step
  rw [hr]
  simp [lookR, acc_b, h1]
theorem alive_c {K : KeeperM} (hr : K.regs = [(0, rb)]) : K.step 1 0 ⟨1, 4, 0⟩ [] = (K, some (5, [0, 1, 4, 0, 1, 5, 0])) := by
  unfold KeeperM.step
  rw [hr]
  simp [lookR, prep_c]
  exact ⟨rfl, rfl, rfl⟩
end Go.Proofs.YtepflhniomineaaGreat
