/- note.Check and what it calls. -/
import Derived.Test.YtepflhniomineaaGreatNote1
namespace Go.Proofs.YtepflhniomineaaGreat
open Go.RowKit
structure OpM where
  seq : Int
  kind : Int
  time : Int
  key : Int
  value : Int
def OpM.vs (o : OpM) : List Value := [.int .i64 o.seq, .int .i64 o.kind, .int .i64 o.time, .int .i64 o.key, .int .i64 o.value]
def OpM.v (o : OpM) : Value := .agg #[.int .i64 o.seq, .int .i64 o.kind, .int .i64 o.time, .int .i64 o.key, .int .i64 o.value]
def OpM.bad (o : OpM) : Bool := decide (o.kind ≠ 1) && decide (o.kind ≠ 2)
def BoolIs (b : Bool) (w : World) (e : Ending) (w' : World) : Prop := e = .returned (.bool b) ∧ Below w.heap.size w w'
set_option maxRecDepth 100000 in
set_option maxHeartbeats 1000000 in
theorem ncheck1_any (o : OpM) (w : World) : Calls Tryz.prog 125 #[o.v] w (BoolIs o.bad w) := by
  by_cases h1 : o.kind = 1
  · have HB : Hid (o.bad = false) := by simp [Hid, OpM.bad, h1]
    unfold BoolIs
    rw [HB.out]
    unfold OpM.v
    rw [h1]
    go_enter Tryz.func125, Tryz.ntmps125
    go_wp2
    go_ret
    exact ⟨by simp, (Below.refl _ w).alloc (Nat.le_refl _) _⟩
  · by_cases h2 : o.kind = 2
    · have HB : Hid (o.bad = false) := by simp [Hid, OpM.bad, h2]
      unfold BoolIs
      rw [HB.out]
      unfold OpM.v
      rw [h2]
      go_enter Tryz.func125, Tryz.ntmps125
      go_wp2
      go_ret
      exact ⟨by simp, (Below.refl _ w).alloc (Nat.le_refl _) _⟩
    · have HB : Hid (o.bad = true) := by simp [Hid, OpM.bad, h1, h2]
      unfold BoolIs
      rw [HB.out]
      unfold OpM.v
      go_enter Tryz.func125, Tryz.ntmps125
      go_wp2
      go_ret
      exact ⟨by simp [h1, h2], (Below.refl _ w).alloc (Nat.le_refl _) _⟩
theorem ops_at : ∀ (ops : List OpM) (k i : Nat), k < ops.length → i < 5 → (ops.flatMap OpM.vs)[k * 5 + i]? = ops[k]?.bind fun o => o.vs[i]?
  | [], _, _, h, _ => absurd h (by simp)
  | o :: ops, 0, i, _, hi => by
    simp only [List.flatMap_cons, Nat.zero_mul, Nat.zero_add]
    rw [List.getElem?_append_left (by simpa [OpM.vs] using hi)]
    simp
  | o :: ops, k + 1, i, h, hi => by
    have e : (k + 1) * 5 + i = 5 + (k * 5 + i) := by omega
    rw [e]
    simp only [List.flatMap_cons]
    rw [List.getElem?_append_right (by simp [OpM.vs]), show (5 + (k * 5 + i) - (OpM.vs o).length) = k * 5 + i by simp [OpM.vs]]
    rw [ops_at ops k i (by simpa using h) hi]
    simp
theorem ops_len (ops : List OpM) : (ops.flatMap OpM.vs).length = ops.length * 5 := by
  induction ops with
  | nil => rfl
  | cons o ops ih => simp [ih, OpM.vs]; omega
def IdxOut (b : Bool) (w : World) (e : Ending) (w' : World) : Prop := ∃ i : Int, e = .returned (.int .i64 i) ∧ decide (0 ≤ i) = b ∧ Below w.heap.size w w'
set_option maxRecDepth 100000 in
set_option maxHeartbeats 1000000 in
theorem indexF_any (F : Nat → Prop) (A : Option Addr) (c : Nat) (ops : List OpM) (w : World) (h : Rd w F 52 A (ops.flatMap OpM.vs)) (hm : ops.length ≤ 16) :
    Calls Tryz.prog 175 #[.slice A ops.length c, .func (.func 125) #[] #[]] w (IdxOut (ops.any OpM.bad) w) := by
  have H := Lib.hid h
  clear h
  go_enter Tryz.func175, Tryz.ntmps175
  go_wp2
  go_loopw [8] (fun i wr => ∃ k : Nat, k ≤ ops.length ∧ i = .int .i64 k ∧ Hid (Below w.heap.size w wr ∧ (ops.take k).any OpM.bad = false)) (fun i _ => ops.length - (intOf i).toNat)
  case atStart => exact ⟨0, Nat.zero_le _, rfl, Below.refl _ _, rfl⟩
  case round =>
    obtain ⟨k, hk, rfl, HR⟩ := hrel
    by_cases hlt : k < ops.length
    · obtain ⟨g, off, rfl, hgl, _, hc⟩ := (H.out.below HR.out.1).at_ (j := k * 5) (by rw [ops_len]; omega)
      have hs : ∀ i, i < 5 → ∀ u, (ops[k]).vs[i]? = some u → wr.cell? ⟨g, off + k * 5 + i, none⟩ = some u := fun i hi u hu => by
        rw [Nat.add_assoc]
        exact hc _ u ((ops_at ops k i hlt hi).trans (by simp [hlt, hu]))
      have h0 := hs 0 (by omega) _ rfl
      have h1 := hs 1 (by omega) _ rfl
      have h2 := hs 2 (by omega) _ rfl
      have h3 := hs 3 (by omega) _ rfl
      have h4 := hs 4 (by omega) _ rfl
      simp only [Nat.add_zero] at h0
      clear hs hc
      go_wp2_with fail
      refine (ncheck1_any ops[k] _).mono ?_
      rintro e w1 ⟨rfl, hb1⟩
      have HB1 := Lib.hid (HR.out.1.trans (hb1.mono HR.out.1.size))
      clear hb1
      cases hb : (ops[k]).bad
      · go_wp2
        go_roundw
        case rel =>
          refine ⟨k + 1, by omega, by go_num, HB1.out, ?_⟩
          rw [List.take_succ_eq_append_getElem hlt, List.any_append, HR.out.2]
          simp [hb]
        case measure => simp [intOf]; omega
      · have HA : Hid (ops.any OpM.bad = true) := List.any_eq_true.2 ⟨_, List.getElem_mem hlt, hb⟩
        go_wp2
        go_ret
        exact ⟨k, by simp, by rw [HA.out]; simp, HB1.out⟩
    · have hkn : k = ops.length := by omega
      subst hkn
      have HA := HR.out.2
      rw [List.take_length] at HA
      have HA := Lib.hid HA
      go_wp2
      go_ret
      exact ⟨-1, by simp, by rw [HA.out]; rfl, HR.out.1⟩
set_option maxRecDepth 100000 in
set_option maxHeartbeats 1000000 in
theorem containsF_any (F : Nat → Prop) (A : Option Addr) (c : Nat) (ops : List OpM) (w : World) (h : Rd w F 52 A (ops.flatMap OpM.vs)) (hm : ops.length ≤ 16) :
    Calls Tryz.prog 124 #[.slice A ops.length c, .func (.func 125) #[] #[]] w (BoolIs (ops.any OpM.bad) w) := by
  have H := Lib.hid h
  clear h
  go_enter Tryz.func124, Tryz.ntmps124
  go_wp2_with fail
  refine (indexF_any F A c ops _ H.out hm).mono ?_
  rintro e w1 ⟨i, rfl, hi, hb1⟩
  have HB := Lib.hid hb1
  have HI := Lib.hid hi
  go_wp2
  go_ret
  exact ⟨by rw [← HI.out]; simp, HB.out⟩
end Go.Proofs.YtepflhniomineaaGreat
