/- Arguments opened: slices of ints, of operations, notes. -/
import Derived.Test.YtepflhniomineaaGreatNote7
import Derived.Deep.Slices
import Derived.Deep.Fields
import Derived.ChangeSame
namespace Go.Proofs.YtepflhniomineaaGreat
open Go.RowKit Go.ChangeShapes Go.WideShapes Go.Deep
theorem Rd.of_cells {w : World} {e : TypeId} {a : Addr} {xs : List Value} (h : ∀ j u, xs[j]? = some u → w.cell? (a.add j) = some u) : Rd w (fun q => q < w.heap.size) e (some a) xs := by
  intro hx
  obtain ⟨b, off, sp⟩ := a
  obtain ⟨u0, hu0⟩ : ∃ u, xs[0]? = some u := by
    cases xs with
    | nil => exact absurd rfl hx
    | cons x l => exact ⟨x, rfl⟩
  have hsp : sp = none := by simpa [Addr.add] using World.cell?_spot (h 0 u0 hu0)
  subst hsp
  simp only [addr_add] at h
  have hc := h 0 u0 hu0
  unfold World.cell? at hc
  split at hc
  · rename_i c t fr hb
    exact ⟨b, off, c, fr, t, rfl, (Array.getElem?_eq_some_iff.1 hb).1, hb, fun j u hu => by rw [← cell_of_row w b _ c t fr hb]; exact h j u hu⟩
  · cases hc
theorem in64_of_wf {n : Int} (h : (Lit.int .i64 n).wf = true) : In64 n := by
  simp [Lit.wf, IntKind.min, IntKind.max, IntKind.signed, IntKind.bits] at h
  exact h
theorem wf_of_in64 {n : Int} (h : In64 n) : (Lit.int .i64 n).wf = true := WalkArith.wf_i64 h
section
variable {H : Type} {enc : TypeId × Value → H} {P : Program} {w : World} {base : Nat} {held : Bool}
theorem open_ints_rd {t e : TypeId} {fuel : Nat} {v : Value} {x : DataW H × List MemPlace} (ht : P.underlying t = some (.slice e)) (he : P.underlying e = some (.int .i64)) (hc : P.cellsOf e = 1)
    (h : DataW.trod enc P w base (fun _ => true) held fuel t [v] = some x) :
    ∃ (A : Option Addr) (l c : Nat) (zs : List Int), v = .slice A l c ∧ zs.length = l ∧ l ≤ c ∧ c ≤ maxLen ∧ (∀ z ∈ zs, In64 z) ∧ Rd w (fun q => q < w.heap.size) e A (zs.map (Value.int .i64)) := by
  rcases open_ints ht he hc h with ⟨hv, _⟩ | ⟨a, len, cap, zs, hv, _, hl, hm, hz, _, hcell, hwz⟩
  · exact ⟨none, 0, 0, [], by simpa using hv, rfl, Nat.le_refl _, Nat.zero_le _, by simp, Rd.nil _ _ _ _⟩
  · simp only [if_true] at hz
    refine ⟨some a, len, cap, zs.take len, by simpa using hv, by rw [List.length_take]; omega, hl, hm, fun z hz' => in64_of_wf (hwz z (List.mem_of_mem_take hz')), Rd.of_cells fun j u hu => ?_⟩
    rw [List.getElem?_map, Option.map_eq_some_iff] at hu
    obtain ⟨z, hz1, rfl⟩ := hu
    rw [List.getElem?_take] at hz1
    split at hz1
    · have hj : j < zs.length := (List.getElem?_eq_some_iff.1 hz1).1
      rw [hcell j hj, List.getD_eq_getElem?_getD, hz1]
      rfl
    · cases hz1
theorem open_len {t e : TypeId} {fuel : Nat} {v : Value} {x : DataW H × List MemPlace} (ht : P.underlying t = some (.slice e)) (h : DataW.trod enc P w base (fun _ => true) held fuel t [v] = some x) :
    ∃ A l c, v = .slice A l c ∧ l ≤ c ∧ c ≤ maxLen := by
  rcases open_slice ht h with ⟨hv, _⟩ | ⟨a, len, cap, m, n, D, Pl, hv, _, hl, hm, _⟩
  · exact ⟨none, 0, 0, by simpa using hv, Nat.le_refl _, Nat.zero_le _⟩
  · exact ⟨some a, len, cap, by simpa using hv, hl, hm⟩
/-- A slice of structs whose fields are one cell each: at every index each field's cell, and what it reads as. -/
theorem open_rows {t e : TypeId} {fs : Array Field} {fuel : Nat} {v : Value} {x : DataW H × List MemPlace} (ht : P.underlying t = some (.slice e)) (he : P.underlying e = some (.struct fs))
    (hone : oneCellFields P fs = true) (hC : P.cellsOf e = fs.size) (h : DataW.trod enc P w base (fun _ => true) held fuel t [v] = some x) :
    ∃ A l c, v = .slice A l c ∧ l ≤ c ∧ c ≤ maxLen ∧ (l ≠ 0 → ∃ a, A = some a ∧ ∀ i, i < l → ∀ (j : Nat) (f : Field), fs[j]? = some f →
      ∃ (u : Value) (y : DataW H × List MemPlace) (n : Nat), w.cell? (a.add (i * fs.size + j)) = some u ∧ DataW.trod enc P w base (fun _ => true) held n f.type [u] = some y) := by
  rcases open_slice ht h with ⟨hv, _⟩ | ⟨a, len, cap, m, n, D, Pl, hv, _, hl, hm, hmm, _, hi⟩
  · exact ⟨none, 0, 0, by simpa using hv, Nat.le_refl _, Nat.zero_le _, fun h => absurd rfl h⟩
  · refine ⟨some a, len, cap, by simpa using hv, hl, hm, fun _ => ⟨a, rfl, fun i hil j f hj => ?_⟩⟩
    simp only [if_true] at hmm
    obtain ⟨cs', hc, ht'⟩ := hi i (by omega)
    rw [hC] at hc
    obtain ⟨ys, n', _, _, hlen, hyl, hf⟩ := DataW.trod_struct he ht'
    obtain ⟨_, hcl, hat⟩ := World.cells?_some hc
    obtain ⟨ho, hk⟩ := hone_of hone j f hj
    have hjl : j < fs.size := (Array.getElem?_eq_some_iff.1 hj).1
    have hcell := hat j hjl
    have hv : cs'[j]? = some (cs'[j]'(by omega)) := List.getElem?_eq_getElem (by omega)
    have h1 := hf j f hj
    rw [ho, hk] at h1
    have hone' : (cs'.drop j).take 1 = [cs'[j]'(by omega)] := by
      rw [List.drop_eq_getElem_cons (by omega)]
      rfl
    rw [hone'] at h1
    have hys : ys[j]? = some (ys[j]'(by omega)) := List.getElem?_eq_getElem (by omega)
    refine ⟨cs'[j]'(by omega), ys[j]'(by omega), n', ?_, h1.trans hys⟩
    rw [← Go.Deep.add_add, hcell, hv]
end
theorem Tryz.oneOp : ∃ fs, Tryz.prog.underlying 52 = some (.struct fs) ∧ oneCellFields Tryz.prog fs = true ∧ Tryz.prog.cellsOf 52 = 5 ∧ fs.size = 5 ∧ fs.toList.map (·.type) = [3, 3, 3, 3, 3] :=
  ⟨_, Tryz.underlying52, by kernel_rfl, by kernel_rfl, by kernel_rfl, by kernel_rfl⟩
theorem Tryz.oneNote : ∃ fs, Tryz.prog.underlying 30 = some (.struct fs) ∧ oneCellFields Tryz.prog fs = true ∧ Tryz.prog.cellsOf 30 = 6 ∧ fs.size = 6 ∧ fs.toList.map (·.type) = [3, 3, 3, 27, 28, 24] :=
  ⟨_, Tryz.underlying30, by kernel_rfl, by kernel_rfl, by kernel_rfl, by kernel_rfl⟩
section
variable {H : Type} {enc : TypeId × Value → H} {w : World} {base : Nat} {held : Bool}
theorem field_at {fs : Array Field} {l : List TypeId} (h : fs.toList.map (·.type) = l) {j : Nat} {t : TypeId} (hj : l[j]? = some t) : ∃ f, fs[j]? = some f ∧ f.type = t := by
  rw [← h, List.getElem?_map, Option.map_eq_some_iff] at hj
  obtain ⟨f, hf, rfl⟩ := hj
  exact ⟨f, by simpa using hf, rfl⟩
set_option maxRecDepth 100000 in
theorem open_ops_rd {fuel : Nat} {v : Value} {x : DataW H × List MemPlace} (h : DataW.trod enc Tryz.prog w base (fun _ => true) held fuel 28 [v] = some x) :
    ∃ (A : Option Addr) (c : Nat) (ops : List OpM), v = .slice A ops.length c ∧ ops.length ≤ c ∧ c ≤ maxLen ∧ (∀ o ∈ ops, In64 o.seq ∧ In64 o.kind ∧ In64 o.time ∧ In64 o.key ∧ In64 o.value) ∧ Rd w (fun q => q < w.heap.size) 52 A (ops.flatMap OpM.vs) := by
  obtain ⟨fs, he, hone, hC, hsz, hty⟩ := Tryz.oneOp
  obtain ⟨A, l, c, rfl, hl, hm, hx⟩ := open_rows Tryz.underlying28 he hone (by rw [hC, hsz]) h
  by_cases hl0 : l = 0
  · subst hl0
    exact ⟨A, c, [], rfl, Nat.zero_le _, hm, by simp, Rd.nil _ _ _ _⟩
  · obtain ⟨a, rfl, hi⟩ := hx hl0
    rw [hsz] at hi
    have each : ∀ i, i < l → ∃ o : OpM, (In64 o.seq ∧ In64 o.kind ∧ In64 o.time ∧ In64 o.key ∧ In64 o.value) ∧ ∀ j u, o.vs[j]? = some u → w.cell? (a.add (i * 5 + j)) = some u := by
      intro i hil
      have num : ∀ j, j < 5 → ∃ z, In64 z ∧ w.cell? (a.add (i * 5 + j)) = some (.int .i64 z) := fun j hj => by
        obtain ⟨f, hf, hft⟩ := field_at (j := j) (t := 3) hty (by match j, hj with | 0, _ => rfl | 1, _ => rfl | 2, _ => rfl | 3, _ => rfl | 4, _ => rfl)
        obtain ⟨u, y, n, hc, ht⟩ := hi i hil j f hf
        rw [hft] at ht
        obtain ⟨z, hz, _, hw⟩ := DataW.trod_int Tryz.underlying3 ht
        exact ⟨z, in64_of_wf hw, by rw [hc]; simpa using hz⟩
      obtain ⟨z0, b0, c0⟩ := num 0 (by omega)
      obtain ⟨z1, b1, c1⟩ := num 1 (by omega)
      obtain ⟨z2, b2, c2⟩ := num 2 (by omega)
      obtain ⟨z3, b3, c3⟩ := num 3 (by omega)
      obtain ⟨z4, b4, c4⟩ := num 4 (by omega)
      refine ⟨⟨z0, z1, z2, z3, z4⟩, ⟨b0, b1, b2, b3, b4⟩, fun j u hu => ?_⟩
      match j, hu with
      | 0, hu => cases hu; exact c0
      | 1, hu => cases hu; exact c1
      | 2, hu => cases hu; exact c2
      | 3, hu => cases hu; exact c3
      | 4, hu => cases hu; exact c4
    haveI : Inhabited OpM := ⟨⟨0, 0, 0, 0, 0⟩⟩
    obtain ⟨o, ho⟩ := choose_lt each
    refine ⟨some a, c, (List.range l).map o, by simp, by simpa using hl, hm, fun p hp => ?_, Rd.of_cells fun j u hu => ?_⟩
    · obtain ⟨i, hi', rfl⟩ := List.mem_map.1 hp
      exact (ho i (List.mem_range.1 hi')).1
    · have hjl := (List.getElem?_eq_some_iff.1 hu).1
      rw [ops_len, List.length_map, List.length_range] at hjl
      have hdiv : j = j / 5 * 5 + j % 5 := by omega
      have hk : j / 5 < l := by omega
      rw [hdiv, ops_at _ _ _ (by simpa using hk) (by omega), List.getElem?_map, List.getElem?_range hk] at hu
      rw [hdiv]
      exact (ho (j / 5) hk).2 _ _ hu
set_option maxRecDepth 100000 in
theorem note_fields {n0 n1 n2 n3 n4 n5 : Nat} {v0 v1 v2 v3 v4 v5 : Value} {x0 x1 x2 x3 x4 x5 : DataW H × List MemPlace} (h0 : DataW.trod enc Tryz.prog w base (fun _ => true) held n0 3 [v0] = some x0)
    (h1 : DataW.trod enc Tryz.prog w base (fun _ => true) held n1 3 [v1] = some x1) (h2 : DataW.trod enc Tryz.prog w base (fun _ => true) held n2 3 [v2] = some x2) (h3 : DataW.trod enc Tryz.prog w base (fun _ => true) held n3 27 [v3] = some x3)
    (h4 : DataW.trod enc Tryz.prog w base (fun _ => true) held n4 28 [v4] = some x4) (h5 : DataW.trod enc Tryz.prog w base (fun _ => true) held n5 24 [v5] = some x5) :
    ∃ (n : NoteM) (p : NoteAt), n.v p = .agg #[v0, v1, v2, v3, v4, v5] ∧ NoteR w (fun q => q < w.heap.size) n p ∧ n.small ∧ n.nums.length ≤ p.cn := by
  obtain ⟨z0, e0, _, w0⟩ := DataW.trod_int Tryz.underlying3 h0
  obtain ⟨z1, e1, _, w1⟩ := DataW.trod_int Tryz.underlying3 h1
  obtain ⟨z2, e2, _, w2⟩ := DataW.trod_int Tryz.underlying3 h2
  obtain ⟨A3, l3, c3, zs, rfl, rfl, hl3, hm3, hz3, hr3⟩ := open_ints_rd Tryz.underlying27 Tryz.underlying3 (by kernel_rfl) h3
  obtain ⟨A4, c4, ops, rfl, hl4, hm4, _, hr4⟩ := open_ops_rd h4
  obtain ⟨A5, l5, c5, rfl, hl5, hm5⟩ := open_len Tryz.underlying24 h5
  simp only [List.cons.injEq, and_true] at e0 e1 e2
  subst e0 e1 e2
  unfold maxLen at hm3 hm4 hm5
  exact ⟨⟨z0, z1, z2, zs, ops, l5⟩, ⟨A3, c3, A4, c4, A5, c5⟩, rfl, ⟨hr3, hr4⟩, ⟨hz3, in64_of_wf w0, in64_of_wf w1, in64_of_wf w2, by simp only; omega, by simp only; omega, by simp only; omega⟩, hl3⟩
def NoteM.cells (n : NoteM) (p : NoteAt) : List Value := [.int .i64 n.kind, .int .i64 n.from_, .int .i64 n.to, .slice p.an n.nums.length p.cn, .slice p.ao n.ops.length p.co, .slice p.ae n.nent p.ce]
set_option maxRecDepth 100000 in
/-- A slice of notes: the values of the notes; each one's lists. -/
theorem open_notes {fuel : Nat} {v : Value} {x : DataW H × List MemPlace} (h : DataW.trod enc Tryz.prog w base (fun _ => true) held fuel 60 [v] = some x) :
    ∃ A l c, v = .slice A l c ∧ l ≤ c ∧ c ≤ maxLen ∧ ∃ (n : Nat → NoteM) (p : Nat → NoteAt), ∀ i, i < l → NoteR w (fun q => q < w.heap.size) (n i) (p i) ∧ (n i).small ∧ (n i).nums.length ≤ (p i).cn ∧
      ∃ g off, A = some ⟨g, off, none⟩ ∧ g < w.heap.size ∧ ∀ j u, ((n i).cells (p i))[j]? = some u → w.cell? ⟨g, off + (i * 6 + j), none⟩ = some u := by
  obtain ⟨fs, he, hone, hC, hsz, hty⟩ := Tryz.oneNote
  obtain ⟨A, l, c, rfl, hl, hm, hx⟩ := open_rows Tryz.underlying60 he hone (by rw [hC, hsz]) h
  refine ⟨A, l, c, rfl, hl, hm, ?_⟩
  by_cases hl0 : l = 0
  · subst hl0
    exact ⟨fun _ => ⟨0, 0, 0, [], [], 0⟩, fun _ => ⟨none, 0, none, 0, none, 0⟩, fun i hi => absurd hi (Nat.not_lt_zero _)⟩
  · obtain ⟨a, rfl, hi⟩ := hx hl0
    rw [hsz] at hi
    obtain ⟨b, off, sp⟩ := a
    have each : ∀ i, i < l → ∃ q : NoteM × NoteAt, NoteR w (fun q => q < w.heap.size) q.1 q.2 ∧ q.1.small ∧ q.1.nums.length ≤ q.2.cn ∧ ∀ j u, (q.1.cells q.2)[j]? = some u → w.cell? ((⟨b, off, sp⟩ : Addr).add (i * 6 + j)) = some u := by
      intro i hil
      have val : ∀ j t, ([3, 3, 3, 27, 28, 24] : List TypeId)[j]? = some t → ∃ u y n, w.cell? ((⟨b, off, sp⟩ : Addr).add (i * 6 + j)) = some u ∧ DataW.trod enc Tryz.prog w base (fun _ => true) held n t [u] = some y := fun j t hj => by
        obtain ⟨f, hf, hft⟩ := field_at hty hj
        obtain ⟨u, y, n, hc, ht⟩ := hi i hil j f hf
        rw [hft] at ht
        exact ⟨u, y, n, hc, ht⟩
      obtain ⟨v0, x0, n0, c0, t0⟩ := val 0 _ rfl
      obtain ⟨v1, x1, n1, c1, t1⟩ := val 1 _ rfl
      obtain ⟨v2, x2, n2, c2, t2⟩ := val 2 _ rfl
      obtain ⟨v3, x3, n3, c3, t3⟩ := val 3 _ rfl
      obtain ⟨v4, x4, n4, c4, t4⟩ := val 4 _ rfl
      obtain ⟨v5, x5, n5, c5, t5⟩ := val 5 _ rfl
      obtain ⟨n, p, hv, hr, hs, hcn⟩ := note_fields t0 t1 t2 t3 t4 t5
      have hcs : n.cells p = [v0, v1, v2, v3, v4, v5] := by
        unfold NoteM.v at hv
        injection hv with hv
        exact congrArg Array.toList hv
      refine ⟨(n, p), hr, hs, hcn, fun j u hu => ?_⟩
      simp only [hcs] at hu
      match j, hu with
      | 0, hu => cases hu; exact c0
      | 1, hu => cases hu; exact c1
      | 2, hu => cases hu; exact c2
      | 3, hu => cases hu; exact c3
      | 4, hu => cases hu; exact c4
      | 5, hu => cases hu; exact c5
    have hsp : sp = none := by
      obtain ⟨q, _, _, _, h4⟩ := each 0 (by omega)
      simpa [Addr.add] using World.cell?_spot (h4 0 _ rfl)
    subst hsp
    simp only [addr_add] at each
    have hbl : b < w.heap.size := by
      obtain ⟨q, _, _, _, h4⟩ := each 0 (by omega)
      have hc := h4 0 _ rfl
      unfold World.cell? at hc
      split at hc
      · rename_i hb; exact (Array.getElem?_eq_some_iff.1 hb).1
      · cases hc
    haveI : Inhabited (NoteM × NoteAt) := ⟨(⟨0, 0, 0, [], [], 0⟩, ⟨none, 0, none, 0, none, 0⟩)⟩
    obtain ⟨q, hq⟩ := choose_lt each
    exact ⟨fun i => (q i).1, fun i => (q i).2, fun i hil => ⟨(hq i hil).1, (hq i hil).2.1, (hq i hil).2.2.1, b, off, rfl, hbl, (hq i hil).2.2.2⟩⟩
end
end Go.Proofs.YtepflhniomineaaGreat
