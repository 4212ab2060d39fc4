/- frame.Put onto nothing. -/
import Derived.Test.YtepflhniomineaaGreatFrame5
namespace Go.Proofs.YtepflhniomineaaGreat
open Go.RowKit
set_option maxRecDepth 100000 in
set_option maxHeartbeats 1000000 in
theorem put_any (Fn : Nat → Prop) (An : Option Addr) (cn : Nat) (nums : List Int) (w : World) (hn : Rd w Fn 3 An (nums.map (Value.int .i64)))
    (hi64 : ∀ x ∈ nums, In64 x) (hm : nums.length ≤ 6000) :
    Calls Tryz.prog 45 #[.slice none 0 0, .slice An nums.length cn] w (SliceOut w 5 1 (putL nums).length ((putL nums).map bv)) := by
  have HN := Lib.hid hn
  have HI := Lib.hid hi64
  clear hn hi64
  go_enter Tryz.func45, Tryz.ntmps45
  go_wp2_with fail
  refine (clone_bytes_any (fun _ => False) none 0 0 [] _ (Rd.nil _ _ _ _) (by simp) (by simp) (Few.of (by omega))).mono ?_
  rintro e w1 ⟨A1, c1, rfl, hown1, hb1⟩
  have HO1 := Lib.hid hown1
  have HB1 := Lib.hid hb1
  clear hown1 hb1
  go_wp2_with fail
  refine (fput_any _ (fun q => q < w.heap.size) A1 An 0 c1 cn [] nums _ HO1.out ((HN.out.mono fun q hq _ => hq).below HB1.out) (fun q _ hF hS => by omega) HI.out (by omega)).mono ?_
  rintro e w2 ⟨A2, c2, rfl, hown2, hK2⟩
  have hz1 := HB1.out.size
  have hB2 : Below w.heap.size w w2 := HB1.out.trans (hK2.below hz1 fun k hk hS => by have := ownIn_blk HO1.out hS; omega)
  have h3 := hown2.mono (F' := fun k => w.heap.size ≤ k) fun q hq hF => by
    rcases hF with hF | hF
    · exact ownIn_blk HO1.out hF
    · omega
  have HO2 := Lib.hid h3
  have HB2 := Lib.hid hB2
  clear hown2 hK2 hB2 h3
  go_wp2_with fail
  go_ret
  have := HO2.out
  simp only [Nat.zero_add, List.nil_append] at this
  exact ⟨A2, c2, by simp, this, HB2.out⟩
end Go.Proofs.YtepflhniomineaaGreat
