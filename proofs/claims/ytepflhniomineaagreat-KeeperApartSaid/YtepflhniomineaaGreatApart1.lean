/- Plain: a keeper whose tape has no traps: keys don't matter for one another. -/
import Derived.Test.YtepflhniomineaaGreatHandleAll
import Derived.Test.YtepflhniomineaaGreatClear
namespace Go.Proofs.YtepflhniomineaaGreat
open Go.RowKit
/-- A tape without traps, at most n rows. -/
structure KeeperM.calm (K : KeeperM) (n : Nat) : Prop where
  tr : K.d.tape.tr = Traps.clear
  bytes : K.d.tape.bytes.length ≤ 359 * n
  rows : K.d.rows ≤ n
theorem KeeperM.calm.mono {K : KeeperM} {n m : Nat} (h : K.calm n) (hm : n ≤ m) : K.calm m := ⟨h.tr, by have := h.bytes; omega, by have := h.rows; omega⟩
/-- The register's own step: what it comes to, and the answer. -/
def Reg.step (was : Reg) (kind key : Int) (b : Bal) (rest : List Int) : Reg × Option (Int × List Int) :=
  let o := if kind = 3 then was.acc b rest else was.prep b
  if o.2 = 11 then (was, some (5, [key, b.n, b.node, b.life] ++ [was.promised.n, was.promised.node, was.promised.life]))
  else if o.2 ≠ 0 then (was, none)
  else if kind = 3 then (o.1, some (4, [key, b.n, b.node, b.life]))
  else (o.1, some (2, [key, b.n, b.node, b.life] ++ ([o.1.accepted.n, o.1.accepted.node, o.1.accepted.life] ++ o.1.value)))
theorem step_calm {K : KeeperM} {n : Nat} (h : K.calm n) (hn : n ≤ 2000) (hok : K.ok) (kind key : Int) (b : Bal) (rest : List Int) (hb : b.wf) (hr : ∀ x ∈ rest, In64 x) :
    (K.step kind key b rest).1.calm (n + 1) ∧ (K.step kind key b rest).1.ok ∧ (K.step kind key b rest).1.node = K.node ∧ (K.step kind key b rest).2 = ((lookR K.regs key).step kind key b rest).2 ∧
    lookR (K.step kind key b rest).1.regs key = ((lookR K.regs key).step kind key b rest).1 ∧ ∀ k', k' ≠ key → lookR (K.step kind key b rest).1.regs k' = lookR K.regs k' := by
  obtain ⟨hw, hl⟩ := hok.look key
  have ho : (if kind = 3 then (lookR K.regs key).acc b rest else (lookR K.regs key).prep b).2 = 0 →
      (if kind = 3 then (lookR K.regs key).acc b rest else (lookR K.regs key).prep b).1.wf ∧ (if kind = 3 then (lookR K.regs key).acc b rest else (lookR K.regs key).prep b).1.value.length ≤ 32 := by
    by_cases hk : kind = 3
    · rw [if_pos hk]; exact Reg.acc_good hb hr
    · rw [if_neg hk]; exact Reg.prep_good hw hb hl
  unfold KeeperM.step Reg.step
  dsimp only
  generalize (if kind = 3 then (lookR K.regs key).acc b rest else (lookR K.regs key).prep b) = o at ho ⊢
  by_cases h11 : o.2 = 11
  · simp only [if_pos h11]
    exact ⟨h.mono (by omega), hok, by simp⟩
  · by_cases h0 : o.2 = 0
    · obtain ⟨hw', hl'⟩ := ho h0
      obtain ⟨h1, h2, h3, h4, h5, h6⟩ := save_clear (key := key) (r := o.1) h.tr (by have := h.bytes; omega) hl'
      have hc : (K.save key o.1).1.calm (n + 1) := ⟨h5, by have := h.bytes; omega, by have := h.rows; omega⟩
      have hk : (K.save key o.1).1.ok := fun p hp => by
        rw [h3] at hp
        rcases mem_put hp with rfl | hp
        · exact ⟨hw', hl'⟩
        · exact hok p hp
      have hkey : lookR (K.save key o.1).1.regs key = o.1 := by rw [h3, lookR_put, if_pos rfl]
      have hoth : ∀ k', k' ≠ key → lookR (K.save key o.1).1.regs k' = lookR K.regs k' := fun k' hk' => by rw [h3, lookR_put, if_neg hk']
      simp only [h0, h1, ne_eq, not_true_eq_false, if_false]
      by_cases hk3 : kind = 3
      · simp only [if_pos hk3]
        exact ⟨hc, hk, h2, by simp, hkey, hoth⟩
      · simp only [if_neg hk3]
        exact ⟨hc, hk, h2, by simp, hkey, hoth⟩
    · simp only [if_neg h11, ne_eq, h0, not_false_eq_true, if_true]
      exact ⟨h.mono (by omega), hok, by simp⟩
/-- The register's own step at a note. -/
def Reg.handle (was : Reg) (n : NoteM) : Reg × Option (Int × List Int) :=
  if n.good = false then (was, none)
  else if n.kind ≠ 1 ∧ n.kind ≠ 3 then (was, none)
  else match n.nums with
    | key :: a :: b :: c :: rest => if key < 0 ∨ 99 < key then (was, none) else was.step n.kind key ⟨a, b, c⟩ rest
    | _ => (was, none)
theorem handle_calm {K : KeeperM} {m : Nat} (h : K.calm m) (hn : m ≤ 2000) (hok : K.ok) (n : NoteM) (hx : ∀ x ∈ n.nums, In64 x) :
    (K.handle n).1.calm (m + 1) ∧ (K.handle n).1.ok ∧ (K.handle n).1.node = K.node ∧ (∀ k', n.nums.head? ≠ some k' → lookR (K.handle n).1.regs k' = lookR K.regs k') ∧
    ∀ k', n.nums.head? = some k' → (K.handle n).2 = ((lookR K.regs k').handle n).2 ∧ lookR (K.handle n).1.regs k' = ((lookR K.regs k').handle n).1 := by
  have hnone : K.calm (m + 1) ∧ K.ok ∧ K.node = K.node ∧ (∀ k', n.nums.head? ≠ some k' → lookR K.regs k' = lookR K.regs k') := ⟨h.mono (by omega), hok, rfl, fun _ _ => rfl⟩
  unfold KeeperM.handle Reg.handle
  by_cases hg : n.good = false
  · simp only [if_pos hg]
    exact ⟨hnone.1, hok, by simp⟩
  · by_cases hk : n.kind ≠ 1 ∧ n.kind ≠ 3
    · simp only [if_neg hg, if_pos hk]
      exact ⟨hnone.1, hok, by simp⟩
    · simp only [if_neg hg, if_neg hk]
      match hnum : n.nums with
      | [] => exact ⟨hnone.1, hok, by simp⟩
      | [_] => exact ⟨hnone.1, hok, by simp⟩
      | [_, _] => exact ⟨hnone.1, hok, by simp⟩
      | [_, _, _] => exact ⟨hnone.1, hok, by simp⟩
      | key :: a :: b :: c :: rest =>
        by_cases hkey : key < 0 ∨ 99 < key
        · simp only [if_pos hkey]
          exact ⟨hnone.1, hok, by simp⟩
        · simp only [if_neg hkey]
          rw [hnum] at hx
          obtain ⟨s1, s2, s3, s4, s5, s6⟩ := step_calm h hn hok n.kind key ⟨a, b, c⟩ rest ⟨hx a (by simp), hx b (by simp), hx c (by simp)⟩ fun x hxr => hx x (by simp [hxr])
          refine ⟨s1, s2, s3, fun k' hk' => s6 k' fun he => hk' (by rw [he]; rfl), fun k' hk' => ?_⟩
          have : key = k' := by simpa using hk'
          subst this
          exact ⟨s4, s5⟩
theorem Reg.prep_len {r : Reg} {b : Bal} (h : r.value.length ≤ 32) : (r.prep b).1.value.length ≤ 32 := by
  unfold Reg.prep
  repeat' split
  · exact h
  · simp [Reg.zero]
  · simp [Reg.zero]
theorem Reg.step_len {was : Reg} {kind key : Int} {b : Bal} {rest : List Int} (h : was.value.length ≤ 32) {q : Int × List Int} (hq : (was.step kind key b rest).2 = some q) : q.2.length ≤ 39 := by
  unfold Reg.step at hq
  dsimp only at hq
  have hp := Reg.prep_len (b := b) h
  repeat' split at hq
  all_goals first
    | (simp at hq; done)
    | (simp at hq; subst hq; simp; done)
    | (simp at hq; subst hq; simp; omega)
theorem Reg.handle_len {was : Reg} {n : NoteM} (h : was.value.length ≤ 32) {q : Int × List Int} (hq : (was.handle n).2 = some q) : q.2.length ≤ 39 := by
  unfold Reg.handle at hq
  repeat' split at hq
  all_goals first
    | (simp at hq; done)
    | exact Reg.step_len h hq
end Go.Proofs.YtepflhniomineaaGreat
