/- The row of KeeperApart. -/
import Derived.Test.YtepflhniomineaaGreatRows
import Derived.Test.YtepflhniomineaaGreatApart2
import Derived.ProofKit
import Derived.OpenShut
import Derived.ShutString
import Derived.ChangeOld
namespace Go.Proofs.YtepflhniomineaaGreat
open Go.ChangeShapes Go.WideShapes Go.ChangeAt Go.RowKit
set_option linter.unusedVariables false
theorem ownA : ownKnob Tryz.prog.godebug = none := by kernel_rfl
theorem laidOutA : laidOutB Tryz.prog = true := by kernel_rfl
theorem apart_law (A : Option Addr) (l c : Nat) (key : Int) (n : Nat → NoteM) (p : Nat → NoteAt) (w : World) (hn : NotesIn w A l n p) : Calls Tryz.prog 8 #[.slice A l c, .int .i64 key] w (BoolIs true w) := by
  by_cases h : l ≤ 150
  · exact apart_any A l c key n p w h hn
  · exact apart_many A l c key w (by omega)
set_option maxRecDepth 100000 in
set_option maxHeartbeats 8000000 in
theorem liftedApart (os : Os) (started : os.Started) (H : Type) (enc : TypeId × Value → H) :
    ReturnsInHanded {} Tryz.checked os 8 .any (Rows.keeperApartSpec.pre6 enc Tryz.prog Tryz.f8 Rows.keeperApartRow.domain false) (Rows.keeperApartSpec.post enc Tryz.prog Tryz.f8 false true false false) := by
  refine returnsInHanded_of_change (C := Tryz.checked) ownA started (by kernel_rfl) Tryz.func8
    (ChangeSpec.witness6 (enc := enc) (C := Tryz.checked) false ⟨#[], #[.slice none 0 0, .int .i64 0], []⟩ 8 (by kernel_rfl) (by kernel_rfl) (by kernel_rfl) (by kernel_rfl)) ?_
  intro W base args ds gs before hval0 hW hcnd _
  have hval : ∀ (j : Nat) t v, Tryz.f8.params[j]? = some t → args[j]? = some v → Value.okWide Tryz.prog W .any base t v := hval0
  have hW' := hW
  obtain ⟨p, q, hA0, hV, rfl, hfz, hnd⟩ := hW
  have hA : DataW.TrodAll enc Tryz.prog W 0 (fun _ => true) true Tryz.f8.params.toList args.toList ds p := hA0
  rw [Tryz.params8] at hA hval
  obtain ⟨v0, vs0, d0, ds0, p0, q0, hargs, rfl, rfl, h0, r0⟩ := trodAll_cons hA
  obtain ⟨v1, vs1, d1, ds1, p1, q1, rfl, rfl, rfl, h1, r1⟩ := trodAll_cons r0
  obtain ⟨rfl, rfl, rfl⟩ := trodAll_nil r1
  obtain rfl : args = #[v0, v1] := by cases args; simp_all
  obtain ⟨rfl, rfl⟩ := trodVars_none hV
  obtain ⟨a0, len0, cap0, rfl⟩ := okWide_slice Tryz.underlying60 (hval 0 60 v0 rfl rfl)
  have k0 := h0
  have lt0 : ∀ x ∈ p0, x.block < W.heap.size := by obtain ⟨m, hm⟩ := k0; exact DataW.trod_lt m _ _ _ hm
  obtain ⟨nn, pp, hnn⟩ : ∃ nn pp, NotesIn W a0 len0 nn pp := by
    obtain ⟨fuel, hf⟩ := h0
    obtain ⟨A', l', c', hv, _, _, nn, pp, hnn⟩ := open_notes (v := .slice a0 len0 cap0) hf
    injection hv with e1 e2 e3
    subst e1 e2 e3
    exact ⟨nn, pp, hnn⟩
  obtain ⟨a1, rfl, rfl, rfl, w1⟩ := open_int Tryz.underlying3 (hval 1 3 v1 rfl rfl) h1
  clear hA0 hval0
  refine (apart_law a0 len0 cap0 a1 nn pp W hnn).mono fun e W' ⟨he, bel⟩ => ?_
  subst he
  exact ⟨_, rfl, _, _, _, [], _, [], hW', trodAll_mk1 (shut_bool Tryz.underlying4 _), (trodAll_cons_mk (Below.trod laidOutA (by kernel_rfl) (of_decide_eq_true (by kernel_rfl)) k0 bel lt0) (trodAll_cons_mk (shut_int Tryz.underlying3 w1) trodAll_mk0)), rfl, bel.frame _, fun h => by cases h⟩
theorem overApart : Rows.keeperApartRow.holds Tryz.pinned (OpenSpec.ofChange Rows.keeperApartSpec) :=
  OpenClaim.holds_of_wide 8 Tryz.f8 rfl rfl rfl rfl rfl rfl rfl ⟨rfl, rfl, rfl, rfl, rfl⟩ rfl rfl rfl rfl rfl (by kernel_rfl) Tryz.func8 (by kernel_rfl)
    (of_decide_eq_true (by kernel_rfl)) (by unfold Func.isWrapper; first | (rw [if_pos (by decide +kernel)]; kernel_rfl) | (rw [if_neg (by decide +kernel)]; exact ⟨rfl, rfl⟩))
    (fun os started H enc _ => liftedApart os started H enc)
theorem provedKeeperApart : Rows.KeeperApartSaid := overApart
#print axioms provedKeeperApart
end Go.Proofs.YtepflhniomineaaGreat
