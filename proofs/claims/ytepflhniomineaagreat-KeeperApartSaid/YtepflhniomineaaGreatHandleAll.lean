/- Handle at any note that is to it. -/
import Derived.Test.YtepflhniomineaaGreatHandle2
import Derived.Test.YtepflhniomineaaGreatHandle3
import Derived.Test.YtepflhniomineaaGreatHandle4
import Derived.Test.YtepflhniomineaaGreatHandle5
namespace Go.Proofs.YtepflhniomineaaGreat
open Go.RowKit
/-- What Handle does to a keeper whose tape may refuse, at a note that is to it. -/
def KeeperM.handle (K : KeeperM) (n : NoteM) : KeeperM × Option (Int × List Int) :=
  if n.good = false then (K, none)
  else if n.kind ≠ 1 ∧ n.kind ≠ 3 then (K, none)
  else match n.nums with
    | key :: a :: b :: c :: rest => if key < 0 ∨ 99 < key then (K, none) else K.step n.kind key ⟨a, b, c⟩ rest
    | _ => (K, none)
/-- Its registers are in form and not too long. -/
def KeeperM.ok (K : KeeperM) : Prop := ∀ p ∈ K.regs, p.2.wf ∧ p.2.value.length ≤ 32
theorem KeeperM.ok.look {K : KeeperM} (h : K.ok) (key : Int) : (lookR K.regs key).wf ∧ (lookR K.regs key).value.length ≤ 32 := by
  rcases look_mem K.regs key with h0 | ⟨p, hp, _, h2⟩
  · rw [h0]
    exact ⟨by unfold Reg.wf Bal.wf In64; simp [Reg.zero], by simp [Reg.zero]⟩
  · rw [← h2]
    exact h p hp
theorem handle_none {k : Nat} {fp : Nat → Prop} {K : KeeperM} {fr dest : Int} {w w' : World} {e : Ending} (hk : KeeperR w k fp K) (h : NilNotes w e w') : HandleOut k fp K none fr dest w e w' :=
  handle_non (keeper_self hk) (Keep.refl _ _) h.2 h.1
theorem good_len {n : NoteM} (hg : n.good = true) (hk : n.kind = 1 ∨ n.kind = 3) : 4 ≤ n.nums.length ∧ n.nums.length ≤ 36 := by
  simp only [NoteM.good, Bool.and_eq_true] at hg
  have h2 := hg.1.1.1.2
  simp only [NoteM.ok2, Bool.and_eq_true, decide_eq_true_eq] at h2
  rcases hk with hk | hk
  all_goals
    rw [hk] at h2
    simp [shapeL] at h2
    omega
theorem four {l : List Int} (h : 4 ≤ l.length) : ∃ key a b c rest, l = key :: a :: b :: c :: rest := by
  match l, h with
  | key :: a :: b :: c :: rest, _ => exact ⟨key, a, b, c, rest, rfl⟩
theorem handle_all (k : Nat) (fp F : Nat → Prop) (K : KeeperM) (n : NoteM) (p : NoteAt) (w : World) (h : KeeperR w k fp K) (hn : NoteR w F n p) (hs : n.small) (hto : n.to = K.node) (hcap : n.nums.length ≤ p.cn) (hok : K.ok) (hrows : K.d.rows ≤ 200)
    (hFd : ∀ q, F q → ¬ fp q) :
    Calls Tryz.prog 52 #[.pointer (some ⟨k, 0, none⟩), n.v p] w (HandleOut k fp (K.handle n).1 (K.handle n).2 n.to n.from_ w) := by
  by_cases hg : n.good = false
  · have e : K.handle n = (K, none) := by simp only [KeeperM.handle, hg, if_true]
    rw [e]
    exact (handle_form k fp F K n p w h hn hs hto hg).mono fun _ _ h' => handle_none h h'
  · have hg' : n.good = true := by simpa using hg
    by_cases hk : n.kind ≠ 1 ∧ n.kind ≠ 3
    · have e : K.handle n = (K, none) := by simp only [KeeperM.handle, if_neg hg, if_pos hk]
      rw [e]
      exact (handle_kind k fp F K n p w h hn hs hto hg' hk.1 hk.2).mono fun _ _ h' => handle_none h h'
    · have hk' : n.kind = 1 ∨ n.kind = 3 := by omega
      have hl := good_len hg' hk'
      obtain ⟨key, a, b, c, rest, hnum⟩ := four hl.1
      have hrl : rest.length ≤ 5000 := by have := hl.2; rw [hnum] at this; simp at this; omega
      have hbw : (⟨a, b, c⟩ : Bal).wf := by
        have := hs.1
        rw [hnum] at this
        exact ⟨this a (by simp), this b (by simp), this c (by simp)⟩
      have e0 : K.handle n = if key < 0 ∨ 99 < key then (K, none) else K.step n.kind key ⟨a, b, c⟩ rest := by
        simp only [KeeperM.handle, if_neg hg, if_neg hk, hnum]
      by_cases hkey : key < 0 ∨ 99 < key
      · rw [e0, if_pos hkey]
        rcases hk' with h1 | h3
        · exact (handle_key1 k fp F K n p key ⟨a, b, c⟩ rest w h hn hs hto hg' h1 hnum hcap hkey).mono fun _ _ h' => handle_none h h'
        · exact (handle_key3 k fp F K n p key ⟨a, b, c⟩ rest w h hn hs hto hg' h3 hnum hcap hkey).mono fun _ _ h' => handle_none h h'
      · rw [e0, if_neg hkey]
        rcases hk' with h1 | h3
        · rw [h1]
          exact handle_prep k fp F K n p key ⟨a, b, c⟩ rest w h hn hs hto hg' h1 hnum hcap (by omega) hbw (hok.look key) hrows hFd
        · rw [h3]
          exact handle_acc k fp F K n p key ⟨a, b, c⟩ rest w h hn hs hto hg' h3 hnum hcap (by omega) hbw (hok.look key) hrows hFd hrl
end Go.Proofs.YtepflhniomineaaGreat
