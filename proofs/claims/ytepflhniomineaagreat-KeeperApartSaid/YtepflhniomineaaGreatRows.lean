/-
  No cell of these rows narrows 'for every input' (looked for: loops, veiled, ifaces, maps, wideKeys, modest, calm, conditions, laid).
  DERIVED. THE GIVEN ROWS OF THIS SEAT. 8 by the template 'for every input the law returns true; each argument reads behind the call as it read before'; 0 by the template 'total and deterministic' (their statements: YtepflhniomineaaGreatTotals.lean).
  GIVEN WITH THE SEED: the statements are not yours to turn. If you find one false, say at which input.
  Laid BY PROGRAM, IN A SANDBOX (cutbox-rows.mjs): the forced cells as the released guide's own fill.sh prints them over the translation a5bc7268f6e16f47… (all of the seat's roots in one cut). By AI agents, Wed Nov 11 2026. No macro, syntax, notation, axiom, sorry.
-/
import Derived.Test.YtepflhniomineaaGreatChecked
import GoSem.Claim
import GoSem.ClaimJoined
import GoSem.ClaimMapViews
import Derived.JoinedTies
import Derived.KernelRfl
namespace Go.Proofs.YtepflhniomineaaGreat
/- THE CELL 'sum', in the pinned program and in every row, IS THE sha256 OF THE DUMP (.gsa) THAT YtepflhniomineaaGreatProg.lean LOADS. Nothing in Lean hashes anything: it is a label: what it is worth is what the hold of that sum in a sandbox is worth. -/
noncomputable def Tryz.pinned : Pinned := { name := "ytepflhniomineaagreat", sum := "a5bc7268f6e16f472f028df80296ada0993df8174d944e8bb4630274522f2f00", checked := Tryz.checked }
namespace Rows
def none {H : Type} : Left H := { results := [], args := [] }

/-- 'estuarylaw17.GateForms': WHATEVER THE INPUT: true; the input reads as it did. -/
def gateFormsSpec : ChangeSpec := { name := "gateForms", fn := fun _ => fun
  | [d1, d2] => { results := [.lit (.bool true)], args := [d1, d2] }
  | _ => none }
def gateFormsRow : OpenClaim := { program := "ytepflhniomineaagreat", sum := "a5bc7268f6e16f472f028df80296ada0993df8174d944e8bb4630274522f2f00", func := "estuary/estuarylaw17.GateForms", spec := "gateForms", inPlace := ["math/bits.Add64"], unfollowed := true, recurses := true, plainKeys := false, apart := false }
def GateFormsSaid : Prop := gateFormsRow.holds Tryz.pinned (OpenSpec.ofChange gateFormsSpec)

/-- ITS FALSE NEIGHBOUR: 'it returns false'. Refute it at one input. -/
def gateFormsWrong : ChangeSpec := { name := "gateForms", fn := fun _ => fun
  | [d1, d2] => { results := [.lit (.bool false)], args := [d1, d2] }
  | _ => none }
def GateFormsWrongFalsely : Prop := gateFormsRow.holds Tryz.pinned (OpenSpec.ofChange gateFormsWrong)

/-- 'estuarylaw15.SpringCuts': WHATEVER THE INPUT: true; the input reads as it did. -/
def springCutsSpec : ChangeSpec := { name := "springCuts", fn := fun _ => fun
  | [d1, d2, d3] => { results := [.lit (.bool true)], args := [d1, d2, d3] }
  | _ => none }
def springCutsRow : OpenClaim := { program := "ytepflhniomineaagreat", sum := "a5bc7268f6e16f472f028df80296ada0993df8174d944e8bb4630274522f2f00", func := "estuary/estuarylaw15.SpringCuts", spec := "springCuts", inPlace := ["slices.overlaps[estuary/api.Op]"], unfollowed := true, recurses := true, plainKeys := false, apart := false }
def SpringCutsSaid : Prop := springCutsRow.holds Tryz.pinned (OpenSpec.ofChange springCutsSpec)

/-- ITS FALSE NEIGHBOUR: 'it returns false'. Refute it at one input. -/
def springCutsWrong : ChangeSpec := { name := "springCuts", fn := fun _ => fun
  | [d1, d2, d3] => { results := [.lit (.bool false)], args := [d1, d2, d3] }
  | _ => none }
def SpringCutsWrongFalsely : Prop := springCutsRow.holds Tryz.pinned (OpenSpec.ofChange springCutsWrong)

/-- 'estuarylaw15.SpringSure': WHATEVER THE INPUT: true; the input reads as it did. -/
def springSureSpec : ChangeSpec := { name := "springSure", fn := fun _ => fun
  | [d] => { results := [.lit (.bool true)], args := [d] }
  | _ => none }
def springSureRow : OpenClaim := { program := "ytepflhniomineaagreat", sum := "a5bc7268f6e16f472f028df80296ada0993df8174d944e8bb4630274522f2f00", func := "estuary/estuarylaw15.SpringSure", spec := "springSure", inPlace := ["slices.overlaps[estuary/api.Op]"], unfollowed := true, recurses := true, plainKeys := false, apart := false }
def SpringSureSaid : Prop := springSureRow.holds Tryz.pinned (OpenSpec.ofChange springSureSpec)

/-- ITS FALSE NEIGHBOUR: 'it returns false'. Refute it at one input. -/
def springSureWrong : ChangeSpec := { name := "springSure", fn := fun _ => fun
  | [d] => { results := [.lit (.bool false)], args := [d] }
  | _ => none }
def SpringSureWrongFalsely : Prop := springSureRow.holds Tryz.pinned (OpenSpec.ofChange springSureWrong)

/-- 'estuarylaw12.KeeperRows': WHATEVER THE INPUT: true; the input reads as it did. -/
def keeperRowsSpec : ChangeSpec := { name := "keeperRows", fn := fun _ => fun
  | [d] => { results := [.lit (.bool true)], args := [d] }
  | _ => none }
def keeperRowsRow : OpenClaim := { program := "ytepflhniomineaagreat", sum := "a5bc7268f6e16f472f028df80296ada0993df8174d944e8bb4630274522f2f00", func := "estuary/estuarylaw12.KeeperRows", spec := "keeperRows", inPlace := ["internal/reflectlite.TypeOf"], unfollowed := true, recurses := true, plainKeys := false, apart := false }
def KeeperRowsSaid : Prop := keeperRowsRow.holds Tryz.pinned (OpenSpec.ofChange keeperRowsSpec)

/-- ITS FALSE NEIGHBOUR: 'it returns false'. Refute it at one input. -/
def keeperRowsWrong : ChangeSpec := { name := "keeperRows", fn := fun _ => fun
  | [d] => { results := [.lit (.bool false)], args := [d] }
  | _ => none }
def KeeperRowsWrongFalsely : Prop := keeperRowsRow.holds Tryz.pinned (OpenSpec.ofChange keeperRowsWrong)

/-- 'estuarylaw12.KeeperNone': WHATEVER THE INPUT: true; the input reads as it did. -/
def keeperNoneSpec : ChangeSpec := { name := "keeperNone", fn := fun _ => fun
  | [d] => { results := [.lit (.bool true)], args := [d] }
  | _ => none }
def keeperNoneRow : OpenClaim := { program := "ytepflhniomineaagreat", sum := "a5bc7268f6e16f472f028df80296ada0993df8174d944e8bb4630274522f2f00", func := "estuary/estuarylaw12.KeeperNone", spec := "keeperNone", inPlace := ["internal/reflectlite.TypeOf"], unfollowed := true, recurses := true, plainKeys := false, apart := false }
def KeeperNoneSaid : Prop := keeperNoneRow.holds Tryz.pinned (OpenSpec.ofChange keeperNoneSpec)

/-- ITS FALSE NEIGHBOUR: 'it returns false'. Refute it at one input. -/
def keeperNoneWrong : ChangeSpec := { name := "keeperNone", fn := fun _ => fun
  | [d] => { results := [.lit (.bool false)], args := [d] }
  | _ => none }
def KeeperNoneWrongFalsely : Prop := keeperNoneRow.holds Tryz.pinned (OpenSpec.ofChange keeperNoneWrong)

/-- 'estuarylaw12.KeeperApart': WHATEVER THE INPUT: true; the input reads as it did. -/
def keeperApartSpec : ChangeSpec := { name := "keeperApart", fn := fun _ => fun
  | [d1, d2] => { results := [.lit (.bool true)], args := [d1, d2] }
  | _ => none }
def keeperApartRow : OpenClaim := { program := "ytepflhniomineaagreat", sum := "a5bc7268f6e16f472f028df80296ada0993df8174d944e8bb4630274522f2f00", func := "estuary/estuarylaw12.KeeperApart", spec := "keeperApart", inPlace := ["internal/reflectlite.TypeOf"], unfollowed := true, recurses := true, plainKeys := false, apart := false }
def KeeperApartSaid : Prop := keeperApartRow.holds Tryz.pinned (OpenSpec.ofChange keeperApartSpec)

/-- ITS FALSE NEIGHBOUR: 'it returns false'. Refute it at one input. -/
def keeperApartWrong : ChangeSpec := { name := "keeperApart", fn := fun _ => fun
  | [d1, d2] => { results := [.lit (.bool false)], args := [d1, d2] }
  | _ => none }
def KeeperApartWrongFalsely : Prop := keeperApartRow.holds Tryz.pinned (OpenSpec.ofChange keeperApartWrong)

/-- 'estuarylaw12.KeeperRewrites': WHATEVER THE INPUT: true; the input reads as it did. -/
def keeperRewritesSpec : ChangeSpec := { name := "keeperRewrites", fn := fun _ => fun
  | [d1, d2] => { results := [.lit (.bool true)], args := [d1, d2] }
  | _ => none }
def keeperRewritesRow : OpenClaim := { program := "ytepflhniomineaagreat", sum := "a5bc7268f6e16f472f028df80296ada0993df8174d944e8bb4630274522f2f00", func := "estuary/estuarylaw12.KeeperRewrites", spec := "keeperRewrites", inPlace := ["internal/reflectlite.TypeOf"], unfollowed := true, recurses := true, plainKeys := false, apart := false }
def KeeperRewritesSaid : Prop := keeperRewritesRow.holds Tryz.pinned (OpenSpec.ofChange keeperRewritesSpec)

/-- ITS FALSE NEIGHBOUR: 'it returns false'. Refute it at one input. -/
def keeperRewritesWrong : ChangeSpec := { name := "keeperRewrites", fn := fun _ => fun
  | [d1, d2] => { results := [.lit (.bool false)], args := [d1, d2] }
  | _ => none }
def KeeperRewritesWrongFalsely : Prop := keeperRewritesRow.holds Tryz.pinned (OpenSpec.ofChange keeperRewritesWrong)

/-- 'estuarylaw12.KeeperSure': WHATEVER THE INPUT: true; the input reads as it did. -/
def keeperSureSpec : ChangeSpec := { name := "keeperSure", fn := fun _ => fun
  | [d1, d2, d3] => { results := [.lit (.bool true)], args := [d1, d2, d3] }
  | _ => none }
def keeperSureRow : OpenClaim := { program := "ytepflhniomineaagreat", sum := "a5bc7268f6e16f472f028df80296ada0993df8174d944e8bb4630274522f2f00", func := "estuary/estuarylaw12.KeeperSure", spec := "keeperSure", inPlace := ["internal/reflectlite.TypeOf"], unfollowed := true, recurses := true, plainKeys := false, apart := false }
def KeeperSureSaid : Prop := keeperSureRow.holds Tryz.pinned (OpenSpec.ofChange keeperSureSpec)

/-- ITS FALSE NEIGHBOUR: 'it returns false'. Refute it at one input. -/
def keeperSureWrong : ChangeSpec := { name := "keeperSure", fn := fun _ => fun
  | [d1, d2, d3] => { results := [.lit (.bool false)], args := [d1, d2, d3] }
  | _ => none }
def KeeperSureWrongFalsely : Prop := keeperSureRow.holds Tryz.pinned (OpenSpec.ofChange keeperSureWrong)

/- THE SECOND FORM. 'bulk': how many values and letters a reading holds, each counted each time it is reached (what is shared counts as often as it is met; a slice's spare places count too). A statement '..UptoSaid' is the law's where the arguments, and the package variables that the reading takes, are together of bulk at most 1048576: NARROWER than '..Said'. Prove '..Said' where nothing that the law and all that it calls make is longer than what came in: it says more and counts as full. Else prove '..UptoSaid'. A law counts once. -/
mutual
def uptoBulk {H : Type} : DataW H → Nat
  | .lit (.string bytes) => bytes.length + 1
  | .lit _ => 1
  | .nil => 1
  | .ptr d => uptoBulk d + 1
  | .slice elems spare => uptoBulkAll elems + uptoBulkAll spare + 1
  | .agg parts => uptoBulkAll parts + 1
  | .iface _ d => uptoBulk d + 1
  | .map entries => uptoBulkEntries entries + 1
  | .held _ => 1
def uptoBulkAll {H : Type} : List (DataW H) → Nat
  | [] => 0
  | d :: r => uptoBulk d + uptoBulkAll r
def uptoBulkEntries {H : Type} : List (Lit × DataW H) → Nat
  | [] => 0
  | x :: r => uptoBulkEntry x + uptoBulkEntries r
def uptoBulkEntry {H : Type} : Lit × DataW H → Nat
  | (.string bytes, d) => bytes.length + uptoBulk d + 1
  | (_, d) => uptoBulk d + 1
 end
def uptoSmall : (H : Type) → List (DataW H) → Bool := fun _ ds => decide (uptoBulkAll ds ≤ 1048576)
def OpenSpec.upto (s : _root_.Go.ChangeSpec) : _root_.Go.OpenSpec := { _root_.Go.OpenSpec.ofChange s with cond := some uptoSmall }

/-- 'estuarylaw17.GateForms', WHERE WHAT IT READS IS OF BULK AT MOST 1048576: true; the input reads as it did. -/
def gateFormsUptoRow : OpenClaim := { program := "ytepflhniomineaagreat", sum := "a5bc7268f6e16f472f028df80296ada0993df8174d944e8bb4630274522f2f00", func := "estuary/estuarylaw17.GateForms", spec := "gateForms", inPlace := ["math/bits.Add64"], unfollowed := true, recurses := true, plainKeys := false, apart := false, narrowed := true }
def GateFormsUptoSaid : Prop := gateFormsUptoRow.holds Tryz.pinned (OpenSpec.upto gateFormsSpec)

/-- 'estuarylaw15.SpringCuts', WHERE WHAT IT READS IS OF BULK AT MOST 1048576: true; the input reads as it did. -/
def springCutsUptoRow : OpenClaim := { program := "ytepflhniomineaagreat", sum := "a5bc7268f6e16f472f028df80296ada0993df8174d944e8bb4630274522f2f00", func := "estuary/estuarylaw15.SpringCuts", spec := "springCuts", inPlace := ["slices.overlaps[estuary/api.Op]"], unfollowed := true, recurses := true, plainKeys := false, apart := false, narrowed := true }
def SpringCutsUptoSaid : Prop := springCutsUptoRow.holds Tryz.pinned (OpenSpec.upto springCutsSpec)

/-- 'estuarylaw15.SpringSure', WHERE WHAT IT READS IS OF BULK AT MOST 1048576: true; the input reads as it did. -/
def springSureUptoRow : OpenClaim := { program := "ytepflhniomineaagreat", sum := "a5bc7268f6e16f472f028df80296ada0993df8174d944e8bb4630274522f2f00", func := "estuary/estuarylaw15.SpringSure", spec := "springSure", inPlace := ["slices.overlaps[estuary/api.Op]"], unfollowed := true, recurses := true, plainKeys := false, apart := false, narrowed := true }
def SpringSureUptoSaid : Prop := springSureUptoRow.holds Tryz.pinned (OpenSpec.upto springSureSpec)

/-- 'estuarylaw12.KeeperRows', WHERE WHAT IT READS IS OF BULK AT MOST 1048576: true; the input reads as it did. -/
def keeperRowsUptoRow : OpenClaim := { program := "ytepflhniomineaagreat", sum := "a5bc7268f6e16f472f028df80296ada0993df8174d944e8bb4630274522f2f00", func := "estuary/estuarylaw12.KeeperRows", spec := "keeperRows", inPlace := ["internal/reflectlite.TypeOf"], unfollowed := true, recurses := true, plainKeys := false, apart := false, narrowed := true }
def KeeperRowsUptoSaid : Prop := keeperRowsUptoRow.holds Tryz.pinned (OpenSpec.upto keeperRowsSpec)

/-- 'estuarylaw12.KeeperNone', WHERE WHAT IT READS IS OF BULK AT MOST 1048576: true; the input reads as it did. -/
def keeperNoneUptoRow : OpenClaim := { program := "ytepflhniomineaagreat", sum := "a5bc7268f6e16f472f028df80296ada0993df8174d944e8bb4630274522f2f00", func := "estuary/estuarylaw12.KeeperNone", spec := "keeperNone", inPlace := ["internal/reflectlite.TypeOf"], unfollowed := true, recurses := true, plainKeys := false, apart := false, narrowed := true }
def KeeperNoneUptoSaid : Prop := keeperNoneUptoRow.holds Tryz.pinned (OpenSpec.upto keeperNoneSpec)

/-- 'estuarylaw12.KeeperApart', WHERE WHAT IT READS IS OF BULK AT MOST 1048576: true; the input reads as it did. -/
def keeperApartUptoRow : OpenClaim := { program := "ytepflhniomineaagreat", sum := "a5bc7268f6e16f472f028df80296ada0993df8174d944e8bb4630274522f2f00", func := "estuary/estuarylaw12.KeeperApart", spec := "keeperApart", inPlace := ["internal/reflectlite.TypeOf"], unfollowed := true, recurses := true, plainKeys := false, apart := false, narrowed := true }
def KeeperApartUptoSaid : Prop := keeperApartUptoRow.holds Tryz.pinned (OpenSpec.upto keeperApartSpec)

/-- 'estuarylaw12.KeeperRewrites', WHERE WHAT IT READS IS OF BULK AT MOST 1048576: true; the input reads as it did. -/
def keeperRewritesUptoRow : OpenClaim := { program := "ytepflhniomineaagreat", sum := "a5bc7268f6e16f472f028df80296ada0993df8174d944e8bb4630274522f2f00", func := "estuary/estuarylaw12.KeeperRewrites", spec := "keeperRewrites", inPlace := ["internal/reflectlite.TypeOf"], unfollowed := true, recurses := true, plainKeys := false, apart := false, narrowed := true }
def KeeperRewritesUptoSaid : Prop := keeperRewritesUptoRow.holds Tryz.pinned (OpenSpec.upto keeperRewritesSpec)

/-- 'estuarylaw12.KeeperSure', WHERE WHAT IT READS IS OF BULK AT MOST 1048576: true; the input reads as it did. -/
def keeperSureUptoRow : OpenClaim := { program := "ytepflhniomineaagreat", sum := "a5bc7268f6e16f472f028df80296ada0993df8174d944e8bb4630274522f2f00", func := "estuary/estuarylaw12.KeeperSure", spec := "keeperSure", inPlace := ["internal/reflectlite.TypeOf"], unfollowed := true, recurses := true, plainKeys := false, apart := false, narrowed := true }
def KeeperSureUptoSaid : Prop := keeperSureUptoRow.holds Tryz.pinned (OpenSpec.upto keeperSureSpec)

end Rows
end Go.Proofs.YtepflhniomineaaGreat
