/- Handle: what it does. -/
import Derived.Test.YtepflhniomineaaGreatHandle1
namespace Go.Proofs.YtepflhniomineaaGreat
open Go.RowKit
def NoteOpt (o : Option (Int × List Int)) (from_ dest : Int) (B : Nat) (e : Ending) (w' : World) : Prop :=
  match o with
  | none => e = .returned (.slice none 0 0)
  | some (kd, nums) => ∃ g A' c', e = .returned (.slice (some ⟨g, 0, none⟩) 1 1) ∧ Blk w' g 30 #[.int .i64 kd, .int .i64 from_, .int .i64 dest, .slice A' nums.length c', .slice none 0 0, .slice none 0 0] ∧ B ≤ g ∧
      Rd w' (fun q => B ≤ q) 3 A' (nums.map (Value.int .i64)) ∧ nums.length ≤ c'
/-- What Handle leaves behind: the keeper; the answer, if there is one, in blocks behind B that are no part of it. -/
def HandleOut (k : Nat) (fp : Nat → Prop) (K : KeeperM) (o : Option (Int × List Int)) (from_ dest : Int) (w : World) (e : Ending) (w' : World) : Prop :=
  ∃ B, w.heap.size ≤ B ∧ B ≤ w'.heap.size ∧ KeeperR w' k (fun q => fp q ∨ (w.heap.size ≤ q ∧ q < B)) K ∧ Keep fp w w' ∧ NoteOpt o from_ dest B e w'
def KeeperM.step (K : KeeperM) (kind key : Int) (b : Bal) (rest : List Int) : KeeperM × Option (Int × List Int) :=
  let was := lookR K.regs key
  let o := if kind = 3 then was.acc b rest else was.prep b
  if o.2 = 11 then (K, some (5, [key, b.n, b.node, b.life] ++ [was.promised.n, was.promised.node, was.promised.life]))
  else if o.2 ≠ 0 then (K, none)
  else if (K.save key o.1).2 ≠ 0 then ((K.save key o.1).1, none)
  else if kind = 3 then ((K.save key o.1).1, some (4, [key, b.n, b.node, b.life]))
  else ((K.save key o.1).1, some (2, [key, b.n, b.node, b.life] ++ ([o.1.accepted.n, o.1.accepted.node, o.1.accepted.life] ++ o.1.value)))
theorem Reg.prep_err (r : Reg) (b : Bal) : (r.prep b).2 = 0 ∨ (r.prep b).2 = 2 ∨ (r.prep b).2 = 11 := by
  unfold Reg.prep
  repeat' split
  all_goals simp
theorem Reg.acc_err (r : Reg) (b : Bal) (l : List Int) : (r.acc b l).2 = 0 ∨ (r.acc b l).2 = 2 ∨ (r.acc b l).2 = 11 := by
  unfold Reg.acc
  repeat' split
  all_goals simp
theorem Reg.prep_good {r : Reg} {b : Bal} (hr : r.wf) (hb : b.wf) (hl : r.value.length ≤ 32) : (r.prep b).2 = 0 → (r.prep b).1.wf ∧ (r.prep b).1.value.length ≤ 32 := by
  unfold Reg.prep
  repeat' split
  · exact fun _ => ⟨⟨hb, hr.2.1, hr.2.2⟩, hl⟩
  · intro h; cases h
  · intro h; cases h
theorem Reg.acc_good {r : Reg} {b : Bal} {l : List Int} (hb : b.wf) (hl : ∀ x ∈ l, In64 x) : (r.acc b l).2 = 0 → (r.acc b l).1.wf ∧ (r.acc b l).1.value.length ≤ 32 := by
  unfold Reg.acc
  split
  · split
    · intro h; cases h
    · split
      · intro h; cases h
      · exact fun _ => ⟨⟨hb, hb, hl⟩, by simp only; omega⟩
  · intro h; cases h
theorem handle_fin {w ws X w' : World} {k : Nat} {fp : Nat → Prop} {K : KeeperM} {kd fr dest : Int} {nums : List Int} {e : Ending} (hk : KeeperR ws k (fun q => fp q ∨ (w.heap.size ≤ q ∧ q < ws.heap.size)) K) (hkeep : Keep fp w ws)
    (hb : Below ws.heap.size ws X) (hn : NoteOut kd fr dest nums X e w') : HandleOut k fp K (some (kd, nums)) fr dest w e w' := by
  obtain ⟨g, A', c', h1, h2, h3, h4, h5, h6⟩ := hn
  have hb2 := bstep hb h6
  exact ⟨ws.heap.size, hkeep.size, hb2.size, hk.below hb2, hkeep.then_below hb2, g, A', c', h1, h2, Nat.le_trans hb.size h3, h4.mono fun q _ hq => Nat.le_trans hb.size hq, h5⟩
theorem handle_non {w ws w' : World} {k : Nat} {fp : Nat → Prop} {K : KeeperM} {fr dest : Int} {e : Ending} (hk : KeeperR ws k (fun q => fp q ∨ (w.heap.size ≤ q ∧ q < ws.heap.size)) K) (hkeep : Keep fp w ws)
    (hb : Below ws.heap.size ws w') (hn : e = .returned (.slice none 0 0)) : HandleOut k fp K none fr dest w e w' :=
  ⟨ws.heap.size, hkeep.size, hb.size, hk.below hb, hkeep.then_below hb, hn⟩
theorem keeper_self {w : World} {k : Nat} {fp : Nat → Prop} {K : KeeperM} (hk : KeeperR w k fp K) : KeeperR w k (fun q => fp q ∨ (w.heap.size ≤ q ∧ q < w.heap.size)) K := by
  have hl : ∀ q, fp q → q < w.heap.size := by obtain ⟨_, _, _, _, _, _, _, _, _, _, _, _, _, _, h⟩ := hk; exact h
  exact hk.mono (fun q hq => .inl hq) fun q hq => by
    rcases hq with hq | hq
    · exact hl q hq
    · omega
end Go.Proofs.YtepflhniomineaaGreat
