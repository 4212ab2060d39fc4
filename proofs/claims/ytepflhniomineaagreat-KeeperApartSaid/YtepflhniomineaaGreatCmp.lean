/- Contracts of cmp.Compare and cmp.Or at int. -/
import Derived.Test.YtepflhniomineaaGreatProg
import Derived.Test.YtepflhniomineaaGreatMem
import Derived.WalkKit
import Derived.WalkLawsBesides
import Derived.WalkSpells
import Derived.LoopTactic
import Derived.Lib.Hide
namespace Go.Proofs.YtepflhniomineaaGreat
open Go.RowKit
def cmpI (a b : Int) : Int := if a < b then -1 else if b < a then 1 else 0

set_option maxHeartbeats 400000 in
theorem compare_any (a b : Int) (w : World) : Calls Tryz.prog 122 #[.int .i64 a, .int .i64 b] w fun e w' => e = .returned (.int .i64 (cmpI a b)) ∧ w = w' := by
  unfold cmpI
  by_cases h1 : a < b
  · rw [if_pos h1]
    go_enter Tryz.func122, Tryz.ntmps122
    go_wp2
    go_ret
    exact ⟨rfl, rfl⟩
  · rw [if_neg h1]
    by_cases h2 : b < a
    · rw [if_pos h2]
      go_enter Tryz.func122, Tryz.ntmps122
      go_wp2
      go_ret
      exact ⟨rfl, rfl⟩
    · rw [if_neg h2]
      go_enter Tryz.func122, Tryz.ntmps122
      go_wp2
      go_ret
      exact ⟨rfl, rfl⟩

/-- The first number that isn't 0. -/
def orL : List Int → Int
  | [] => 0
  | a :: l => if a = 0 then orL l else a
theorem ret_int {k : IntKind} {a b : Int} (h : a = b) : Ending.returned (.int k a) = .returned (.int k b) := by rw [h]
theorem orL_drop {l : List Int} {k : Nat} (h : k < l.length) : orL (l.drop k) = if l[k] = 0 then orL (l.drop (k + 1)) else l[k] := by
  rw [List.drop_eq_getElem_cons h]; rfl

set_option maxHeartbeats 400000 in
theorem or_any (A : Option Addr) (c : Nat) (F : Nat → Prop) (l : List Int) (w : World) (h : Rd w F 3 A (l.map (Value.int .i64))) (hm : l.length ≤ 1000) :
    Calls Tryz.prog 121 #[.slice A l.length c] w fun e w' => e = .returned (.int .i64 (orL l)) ∧ w = w' := by
  go_enter Tryz.func121, Tryz.ntmps121
  go_wp2
  go_loop [8] (fun i => ∃ k : Nat, k ≤ l.length ∧ i = .int .i64 k ∧ Hid (orL l = orL (l.drop k))) (fun i => l.length - (intOf i).toNat)
  case atStart => exact ⟨0, Nat.zero_le _, rfl, rfl⟩
  case round =>
    obtain ⟨k, hk, rfl, ho⟩ := hrel
    by_cases hlt : k < l.length
    · obtain ⟨g, off, rfl, _, _, hc⟩ := h.at_ (j := k) (by simpa using hlt)
      have hck := hc k (.int .i64 l[k]) (by simp [hlt])
      have hd := orL_drop hlt
      have HD := Lib.hid hd
      clear hc hd
      by_cases h0 : l[k] = 0
      · have HZ := Lib.hid h0
        rw [h0] at hck
        clear h0
        go_wp2
        go_round
        case rel => exact ⟨k + 1, by omega, by go_num, by rw [ho.out, HD.out, if_pos HZ.out]; exact rfl⟩
        case measure => simp [intOf]; omega
      · have hb : (l[k] != 0) = true := by simpa using h0
        have HZ := Lib.hid h0
        clear h0
        go_wp2
        go_ret
        exact ⟨ret_int (by rw [ho.out, HD.out, if_neg HZ.out]), rfl⟩
    · have hkl : k = l.length := by omega
      subst hkl
      go_wp2
      go_ret
      exact ⟨ret_int (by rw [ho.out]; simp [orL]), rfl⟩
end Go.Proofs.YtepflhniomineaaGreat
