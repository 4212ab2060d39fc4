/- A store of a whole value into a block that is known; results that lie in a block. -/
import Derived.Test.YtepflhniomineaaGreatMem
import Derived.Laws.ResultCell
import Derived.Tactics
namespace Go.Proofs.YtepflhniomineaaGreat
open Go.RowKit
section
variable {P : Program} {w : World} {g : Nat} {t : TypeId} {cs : Array Value}
theorem isSome_of_lt {cs : Array Value} {i : Nat} (h : i < cs.size) : (cs[i]?).isSome = true := by simp [h]
theorem run_storeVar_blk (hb : Blk w g t cs) (ty : TypeId) (off : Nat) (v : Value) (hi : (P.info? ty).map (·.size) = some v.cells.size) (hle : off + v.cells.size ≤ cs.size) (h1 : v.cells.toList.all Value.oneCell' = true) :
    (storeVar ty ⟨g, off, none⟩ v).run P w = .ok () (w.setCells g off v.cells.toList) := by
  cases hq : P.info? ty with
  | none => simp [hq] at hi
  | some i =>
    have hs : v.cells.size = i.size := by have : i.size = v.cells.size := by simpa [hq] using hi
                                          omega
    have hr := run_storeCells_cells (P := P) g off v.cells.toList 0 w (fun j hj => by
      rw [hb.cell]; exact isSome_of_lt (by simp at hj; omega)) (fun j _ => hb.frozen _) (List.all_eq_true.1 h1)
    unfold storeVar
    simp only [Sem.run_bind, sizeOf, typeInfo]
    simp [hq, hs]
    simpa using hr
/-- The block behind a store, and all else. -/
theorem blk_stored (hb : Blk w g t cs) (vs : List Value) (hl : vs.length = cs.size) : Blk (w.setCells g 0 vs) g t vs.toArray := by
  obtain ⟨_, _, cur', h, h1, h2⟩ := setCells_heap g t vs 0 w cs hb (by omega)
  have : cur' = vs.toArray := by
    apply Array.ext'
    simp at h2
    rw [← h2, List.take_of_length_le (by simp; omega)]
  rw [this] at h
  exact h
theorem chain7 {a0 a1 a2 a3 a4 a5 a6 : Value} (h : Blk w g t #[a0, a1, a2, a3, a4, a5, a6]) (b0 b1 b2 b3 b4 b5 b6 : Value) :
    Blk (((((((w.setCell ⟨g, 0, none⟩ b0).setCell ⟨g, 1, none⟩ b1).setCell ⟨g, 2, none⟩ b2).setCell ⟨g, 3, none⟩ b3).setCell ⟨g, 4, none⟩ b4).setCell ⟨g, 5, none⟩ b5).setCell ⟨g, 6, none⟩ b6) g t #[b0, b1, b2, b3, b4, b5, b6] ∧
    Keep (· = g) w (((((((w.setCell ⟨g, 0, none⟩ b0).setCell ⟨g, 1, none⟩ b1).setCell ⟨g, 2, none⟩ b2).setCell ⟨g, 3, none⟩ b3).setCell ⟨g, 4, none⟩ b4).setCell ⟨g, 5, none⟩ b5).setCell ⟨g, 6, none⟩ b6) :=
  ⟨blk_stored h [b0, b1, b2, b3, b4, b5, b6] rfl, (setCells_heap g t [b0, b1, b2, b3, b4, b5, b6] 0 w _ h (by simp)).1⟩
theorem wp_store_blk {o : Oper} {a : Act} {K : Act → World → Prop} {Q : Exit → Act → World → Prop} (ty : TypeId) (x y : Operand) (ho : o.op = .store ty x y) (hd : o.dst = none)
    (hx : a.eval x = .pointer (some ⟨g, 0, none⟩)) (hb : Blk w g t cs) (v : Value) (hy : a.eval y = v) (hi : (P.info? ty).map (·.size) = some v.cells.size) (hl : v.cells.size = cs.size) (h1 : v.cells.toList.all Value.oneCell' = true)
    (h : ∀ w', Blk w' g t v.cells → Keep (· = g) w w' → w'.heap.size = w.heap.size → K a w') : o.wp P a w K Q := by
  have hr := run_storeVar_blk (P := P) hb ty 0 v hi (by omega) h1
  obtain ⟨hk, hz, _⟩ := setCells_heap g t v.cells.toList 0 w cs hb (by simp; omega)
  have hB := blk_stored hb v.cells.toList (by simpa using hl)
  unfold Oper.wp execOp
  simp only [ho, hx, hy, Instr.storeAt, Instr.sureAddr, Sem.run_bind, Sem.run_pure, Result.andThen_ok, hr]
  have e : ∀ u : Value, a.put o.dst u = a := fun u => by rw [hd]; rfl
  simp only [Oper.upon, e]
  exact h _ (by simpa using hB) hk hz
theorem wpList_store_blk {ops : Array Oper} {rest : List Oper} {o : Oper} {a : Act} {Q : Exit → Act → World → Prop} (hgd : o.guard = none) (ty : TypeId) (x y : Operand) (ho : o.op = .store ty x y) (hd : o.dst = none)
    (hx : a.eval x = .pointer (some ⟨g, 0, none⟩)) (hb : Blk w g t cs) (v : Value) (hy : a.eval y = v) (hi : (P.info? ty).map (·.size) = some v.cells.size) (hl : v.cells.size = cs.size) (h1 : v.cells.toList.all Value.oneCell' = true)
    (h : ∀ w', Blk w' g t v.cells → Keep (· = g) w w' → w'.heap.size = w.heap.size → wpList P ops Q rest a w') : wpList P ops Q (o :: rest) a w :=
  wpList_plain hgd fun _ hK => wp_store_blk ty x y ho hd hx hb v hy hi hl h1 fun w' h1 h2 h3 => hK _ _ (h w' h1 h2 h3)
theorem step_store_blk {ops : Array Oper} {o : Oper} {a : Act} {K : Act → World → Prop} {Q : Exit → Act → World → Prop} {E : Prop} (hgd : o.guard = none) (ty : TypeId) (x y : Operand) (ho : o.op = .store ty x y) (hd : o.dst = none)
    (hx : a.eval x = .pointer (some ⟨g, 0, none⟩)) (hb : Blk w g t cs) (v : Value) (hy : a.eval y = v) (hi : (P.info? ty).map (·.size) = some v.cells.size) (hl : v.cells.size = cs.size) (h1 : v.cells.toList.all Value.oneCell' = true)
    (h : ∀ w', Blk w' g t v.cells → Keep (· = g) w w' → w'.heap.size = w.heap.size → K (a.put o.dst undef) w') : if Region.wanted o (yielded ops a.tmps) = true then Oper.wp P o a w K Q else E := by
  have hw : Region.wanted o (yielded ops a.tmps) = true := by simp [Region.wanted, hgd]
  rw [if_pos hw]
  exact wp_store_blk ty x y ho hd hx hb v hy hi hl h1 fun w' h1 h2 h3 => by have := h w' h1 h2 h3; rw [hd] at this; exact this
theorem results_blk_tmp {fn : Func} {p u : Tmp} {ty : TypeId} (h : fn.results = #[.cell p ty, .tmp u]) (tmps : Array Value) (d : TypeDesc)
    (hp : tmps.getD p undef = .pointer (some ⟨g, 0, none⟩)) (hb : Blk w g t cs)
    (hu : P.underlying ty = some d) (hd : (match d with | .struct _ | .array _ _ => true | _ => false) = true) (hi : (P.info? ty).map (·.size) = some cs.size) :
    (results fn tmps).run P w = .ok (.tuple #[.agg cs, tmps.getD u undef]) w := by
  rw [results_cell_tmp h tmps P w, hp]
  simp [asAddr, run_loadVar_row w g t ty cs (0, 0) d hb hu hd hi]
theorem results_blk {fn : Func} {p : Tmp} {ty : TypeId} (h : fn.results = #[.cell p ty]) (tmps : Array Value) (d : TypeDesc)
    (hp : tmps.getD p undef = .pointer (some ⟨g, 0, none⟩)) (hb : Blk w g t cs)
    (hu : P.underlying ty = some d) (hd : (match d with | .struct _ | .array _ _ => true | _ => false) = true) (hi : (P.info? ty).map (·.size) = some cs.size) :
    (results fn tmps).run P w = .ok (.agg cs) w := results_cell_row h tmps w g t cs (0, 0) d hp hb hu hd hi
end
end Go.Proofs.YtepflhniomineaaGreat
