/- Maps whose keys are ints, as lists of pairs. -/
import Derived.Test.YtepflhniomineaaGreatMem
import Derived.MapKept
import Derived.Tactics
namespace Go.Proofs.YtepflhniomineaaGreat
open Go.RowKit
def MapKV (w : World) (m : Nat) (L : List (Int × Value)) : Prop :=
  ∃ es clock, w.heap[m]? = some (.map es clock) ∧ es.toList.map (fun e => (e.key, e.val)) = L.map fun p => (Value.int .i64 p.1, p.2)
def lookKV : List (Int × Value) → Int → Option Value
  | [], _ => none
  | (k', v) :: L, k => if k = k' then some v else lookKV L k
def putKV : List (Int × Value) → Int → Value → List (Int × Value)
  | [], k, v => [(k, v)]
  | (k', v') :: L, k, v => if k = k' then (k, v) :: L else (k', v') :: putKV L k v
theorem findNow_kv : ∀ (es : List MapEntry) (L : List (Int × Value)) (k : Int) (i : Nat), es.map (fun e => (e.key, e.val)) = L.map (fun p => (Value.int .i64 p.1, p.2)) →
    (lookKV L k = none ∧ Instr.findNow (.int .i64) (.int .i64 k) es i = some none ∧ ∀ v, putKV L k v = L ++ [(k, v)]) ∨
    ∃ v j, lookKV L k = some v ∧ Instr.findNow (.int .i64) (.int .i64 k) es i = some (some (i + j, v)) ∧ (∃ e, es[j]? = some e ∧ e.key = .int .i64 k) ∧
      ∀ v' : Value, (es.modify j fun e => { e with key := .int .i64 k, val := v' }).map (fun e => (e.key, e.val)) = (putKV L k v').map fun p => (Value.int .i64 p.1, p.2)
  | [], [], k, i, _ => .inl ⟨rfl, rfl, fun _ => rfl⟩
  | [], _ :: _, _, _, h => by cases h
  | _ :: _, [], _, _, h => by cases h
  | e :: es, (k', v) :: L, k, i, h => by
    simp only [List.map_cons, List.cons.injEq, Prod.mk.injEq] at h
    obtain ⟨⟨h1, h2⟩, h3⟩ := h
    by_cases hk : k = k'
    · subst hk
      refine .inr ⟨v, 0, by simp [lookKV], ?_, ⟨e, rfl, h1⟩, fun v' => ?_⟩
      · simp [Instr.findNow, Instr.sameNow, h1, h2]
      · simp [putKV, h3]
    · have hf : Instr.findNow (.int .i64) (.int .i64 k) (e :: es) i = Instr.findNow (.int .i64) (.int .i64 k) es (i + 1) := by
        have hb : (k == k') = false := by simpa using hk
        simp [Instr.findNow, Instr.sameNow, h1, hb]
      rcases findNow_kv es L k (i + 1) h3 with ⟨a, b, c⟩ | ⟨u, j, a, b, c, d⟩
      · exact .inl ⟨by simp [lookKV, hk, a], by rw [hf, b], fun v' => by simp [putKV, hk, c]⟩
      · refine .inr ⟨u, j + 1, by simp [lookKV, hk, a], by rw [hf, b]; simp; omega, by simpa using c, fun v' => ?_⟩
        simp [putKV, hk, h1, h2]
        simpa using d v'
section
variable {P : Program} {w : World}
theorem run_checkKey_int (b : Bool) {kt : TypeId} {q : IntKind} (hk : P.underlying kt = some (.int q)) (x : Int) (n : Nat) (w : World) : (Instr.checkKey b (n + 1) kt (.int .i64 x)).run P w = .ok () w := by
  simp [Instr.checkKey, run_underlying hk]
theorem run_lookup_kv {m : Nat} {L : List (Int × Value)} (h : MapKV w m L) {t kt et : TypeId} (ht : P.underlying t = some (.map kt et)) (hk : P.underlying kt = some (.int .i64)) {z : Value} (hz : (zeroValue et).run P w = .ok z w) (k : Int) :
    (Instr.lookup t (.map (some m)) (.int .i64 k) false).run P w = .ok ((lookKV L k).getD z) w := by
  obtain ⟨es, clock, hb, he⟩ := h
  have hc := run_checkKey_int (P := P) es.isEmpty hk k 9999 w
  rcases findNow_kv es.toList L k 0 he with ⟨a, b, _⟩ | ⟨v, j, a, b, _⟩
  · simp [Instr.lookup, run_underlying ht, run_underlying hk, MapKept.run_getObj_map hb, hc, Instr.findKey, b, hz, a, Result.andThen]
  · simp [Instr.lookup, run_underlying ht, run_underlying hk, MapKept.run_getObj_map hb, hc, Instr.findKey, b, a, Result.andThen]
theorem run_mapUpdate_kv {m : Nat} {L : List (Int × Value)} (h : MapKV w m L) {t kt et : TypeId} (ht : P.underlying t = some (.map kt et)) (hk : P.underlying kt = some (.int .i64)) (k : Int) (v : Value) :
    ∃ w', (Instr.mapUpdate t (.map (some m)) (.int .i64 k) v).run P w = .ok () w' ∧ MapKV w' m (putKV L k v) ∧ Keep (· = m) w w' ∧ w'.heap.size = w.heap.size := by
  obtain ⟨es, clock, hb, he⟩ := h
  have hc := run_checkKey_int (P := P) false hk k 9999 w
  have hm : m < w.heap.size := (Array.getElem?_eq_some_iff.1 hb).1
  have keep : ∀ o, Keep (· = m) w { w with heap := w.heap.setIfInBounds m o } := fun o => ⟨rfl, rfl, rfl, by simp, fun q _ hq => by
    have hq : ¬ q = m := hq
    simp [Ne.symm hq]⟩
  rcases findNow_kv es.toList L k 0 he with ⟨a, b, c⟩ | ⟨u, j, a, b, ⟨e, hj, hkey⟩, d⟩
  · refine ⟨_, by simp [Instr.mapUpdate, run_underlying ht, run_underlying hk, MapKept.run_getObj_map hb, hc, Instr.findKey, b, MapKept.run_setObj_map _ hb, Result.andThen]; rfl, ⟨es.push ⟨.int .i64 k, v, clock⟩, clock + 1, by simp [hm], by simp [c, he]⟩, keep _, by simp⟩
  · have hs : ((Instr.keyThatStays (((es[j]?).map (·.key)).getD (.int .i64 k)) (.int .i64 k)).run P w) = .ok (.int .i64 k) w := by
      have hj' : es[j]? = some e := by simpa using hj
      simp [hj', hkey, Instr.keyThatStays, Instr.sameBits]
    refine ⟨_, by simp [Instr.mapUpdate, run_underlying ht, run_underlying hk, MapKept.run_getObj_map hb, hc, Instr.findKey, b, hs, MapKept.run_setObj_map _ hb, Result.andThen]; rfl, ⟨es.modify j fun e => { e with key := .int .i64 k, val := v }, clock, by simp [hm], by simpa using d v⟩, keep _, by simp⟩
theorem wp_mapUpdate_kv {m : Nat} {L : List (Int × Value)} (h : MapKV w m L) {t kt et : TypeId} (ht : P.underlying t = some (.map kt et)) (hk : P.underlying kt = some (.int .i64))
    {o : Oper} {a : Act} {K : Act → World → Prop} {Q : Exit → Act → World → Prop} (x y z : Operand) (ho : o.op = .mapUpdate t x y z) (hd : o.dst = none) (hx : a.eval x = .map (some m)) (k : Int) (hy : a.eval y = .int .i64 k) (v : Value) (hz : a.eval z = v)
    (hK : ∀ w', MapKV w' m (putKV L k v) → Keep (· = m) w w' → w'.heap.size = w.heap.size → K a w') : o.wp P a w K Q := by
  obtain ⟨w', hr, h1, h2, h3⟩ := run_mapUpdate_kv (P := P) h ht hk k v
  unfold Oper.wp execOp
  simp only [ho, hx, hy, hz, Sem.run_bind, Sem.run_pure, hr, Result.andThen_ok]
  have e : ∀ u : Value, a.put o.dst u = a := fun u => by rw [hd]; rfl
  simp only [Oper.upon, e]
  exact hK _ h1 h2 h3
end
end Go.Proofs.YtepflhniomineaaGreat
