/- Words for memory: frames by a set of blocks, slices that read as a list, rows that grow by append. Plain lemmas, no program. -/
import Derived.Below
import Derived.Laws.OwnMore
import Derived.Deep.AppendSrc
import Derived.Deep.Draws
import Derived.Laws.Rows
import Derived.Maps.AppendAt
namespace Go.Proofs.YtepflhniomineaaGreat
open Go.RowKit

theorem addr_add (g off n : Nat) : (⟨g, off, none⟩ : Addr).add n = ⟨g, off + n, none⟩ := by unfold Addr.add; split <;> simp_all

/-- Outside S nothing that was there has turned. -/
structure Keep (S : Nat → Prop) (w w' : World) : Prop where
  os : w'.os = w.os
  tape : w'.tape = w.tape
  output : w'.output = w.output
  size : w.heap.size ≤ w'.heap.size
  block : ∀ k, k < w.heap.size → ¬ S k → w'.heap[k]? = w.heap[k]?

def Blk (w : World) (g : Nat) (t : TypeId) (cs : Array Value) : Prop := w.heap[g]? = some (.cells cs t (0, 0))

section
variable {S S' : Nat → Prop} {w w' w1 w2 : World}
theorem Keep.refl (S : Nat → Prop) (w : World) : Keep S w w := ⟨rfl, rfl, rfl, Nat.le_refl _, fun _ _ _ => rfl⟩
theorem Keep.mono (h : Keep S w w') (hs : ∀ k, k < w.heap.size → S k → S' k) : Keep S' w w' := ⟨h.os, h.tape, h.output, h.size, fun k hk hn => h.block k hk fun hS => hn (hs k hk hS)⟩
theorem Keep.trans (h : Keep S w w1) (k : Keep S' w1 w2) (hs : ∀ b, b < w.heap.size → S' b → S b) : Keep S w w2 :=
  ⟨k.os.trans h.os, k.tape.trans h.tape, k.output.trans h.output, Nat.le_trans h.size k.size, fun i hi hn =>
    (k.block i (Nat.lt_of_lt_of_le hi h.size) fun hS => hn (hs i hi hS)).trans (h.block i hi hn)⟩
theorem Keep.of_below (h : Below w.heap.size w w') : Keep S w w' := ⟨h.os, h.tape, h.output, h.size, fun k hk _ => h.block k hk⟩
theorem Keep.below (h : Keep S w w') {B : Nat} (hB : B ≤ w.heap.size) (hs : ∀ k, k < B → ¬ S k) : Below B w w' := ⟨h.os, h.tape, h.output, h.size, fun k hk => h.block k (by omega) (hs k hk)⟩
theorem Keep.none_below (h : Keep (fun _ => False) w w') : Below w.heap.size w w' := h.below (Nat.le_refl _) fun _ _ h => h
theorem Keep.then_below (h : Keep S w w1) (k : Below w1.heap.size w1 w2) : Keep S w w2 := h.trans (Keep.of_below (S := S) k) fun _ _ h => h
theorem Keep.alloc (h : Keep S w w') (o : Obj) : Keep S w (w'.alloc o) := h.then_below ((Below.refl _ _).alloc (Nat.le_refl _) o)
theorem Keep.drew (h : Keep S w w') : Keep S w w'.drew := h.then_below (Below.refl _ _).drew
theorem Keep.drewN (h : Keep S w w') (n : Nat) : Keep S w (w'.drewN n) := ⟨h.os, h.tape, h.output, h.size, h.block⟩
theorem Keep.setCell (h : Keep S w w') {p : Addr} (hp : S p.block ∨ w.heap.size ≤ p.block) (u : Value) : Keep S w (w'.setCell p u) :=
  ⟨h.os, h.tape, h.output, by simpa [World.setCell] using h.size, fun k hk hn => (Below.heap_setCell _ _ _ _ (by
    rintro rfl
    rcases hp with hp | hp
    · exact hn hp
    · omega)).trans (h.block k hk hn)⟩
theorem Keep.tr (h : Keep S w w1) (k : Keep S w1 w2) : Keep S w w2 := h.trans k fun _ _ h => h
theorem keep_set (w : World) (g i : Nat) (u : Value) : Keep (· = g) w (w.setCell ⟨g, i, none⟩ u) := (Keep.refl (· = g) w).setCell (p := ⟨g, i, none⟩) (.inl rfl) u
theorem Keep.set_ {g : Nat} (h : Keep (· = g) w w') (i : Nat) (u : Value) : Keep (· = g) w (w'.setCell ⟨g, i, none⟩ u) := h.tr (keep_set w' g i u)
theorem Keep.cell (h : Keep S w w') {p : Addr} (hp : p.block < w.heap.size) (hn : ¬ S p.block) : w'.cell? p = w.cell? p := World.cell?_of_block (w := w) (h.block _ hp hn)
theorem bstep {w W w1 : World} (h : Below w.heap.size w W) (hb : Below W.heap.size W w1) : Below w.heap.size w w1 := h.trans (hb.mono h.size)
theorem bcell {W w1 : World} (hb : Below W.heap.size W w1) : (∀ b o, b < W.heap.size → w1.cell? ⟨b, o, none⟩ = W.cell? ⟨b, o, none⟩) ∧ (∀ b o, b < W.heap.size → w1.frozen? ⟨b, o, none⟩ = W.frozen? ⟨b, o, none⟩) :=
  ⟨fun b o h => hb.cell (p := ⟨b, o, none⟩) h, fun b o h => hb.frozen (p := ⟨b, o, none⟩) h⟩
theorem below_drewN {B : Nat} {a w : World} (h : Below B a w) (n : Nat) : Below B a (w.drewN n) := ⟨h.os, h.tape, h.output, h.size, h.block⟩
end

section
variable {S : Nat → Prop} {w w' : World} {g : Nat} {t : TypeId} {cs : Array Value}
theorem Blk.lt (h : Blk w g t cs) : g < w.heap.size := by
  rcases Nat.lt_or_ge g w.heap.size with hlt | hge
  · exact hlt
  · unfold Blk at h; rw [Array.getElem?_eq_none hge] at h; cases h
theorem Blk.cell (h : Blk w g t cs) (i : Nat) : w.cell? ⟨g, i, none⟩ = cs[i]? := cell_of_row w g i cs t (0, 0) h
theorem Blk.frozen (h : Blk w g t cs) (i : Nat) : w.frozen? ⟨g, i, none⟩ = false := by
  unfold Blk at h
  simp [World.frozen?, h]
theorem Blk.new (w : World) (t : TypeId) (cs : Array Value) : Blk (w.alloc (.cells cs t)) w.heap.size t cs := heap_alloc_new w _
theorem Blk.cells7 {a0 a1 a2 a3 a4 a5 a6 : Value} (h : Blk w g t #[a0, a1, a2, a3, a4, a5, a6]) : w.cell? ⟨g, 0, none⟩ = some a0 ∧ w.cell? ⟨g, 1, none⟩ = some a1 ∧ w.cell? ⟨g, 2, none⟩ = some a2 ∧
    w.cell? ⟨g, 3, none⟩ = some a3 ∧ w.cell? ⟨g, 4, none⟩ = some a4 ∧ w.cell? ⟨g, 5, none⟩ = some a5 ∧ w.cell? ⟨g, 6, none⟩ = some a6 ∧ ∀ i, w.frozen? ⟨g, i, none⟩ = false :=
  ⟨h.cell 0, h.cell 1, h.cell 2, h.cell 3, h.cell 4, h.cell 5, h.cell 6, h.frozen⟩
theorem Blk.at_ (w : World) (t : TypeId) (cs : Array Value) (n : Nat) (hn : n = w.heap.size) : Blk (w.alloc (.cells cs t)) n t cs := by subst hn; exact heap_alloc_new w _
theorem Blk.drew (h : Blk w g t cs) : Blk w.drew g t cs := h
theorem Blk.drewN (h : Blk w g t cs) (n : Nat) : Blk (w.drewN n) g t cs := h
theorem Blk.alloc (h : Blk w g t cs) (o : Obj) : Blk (w.alloc o) g t cs := (Below.heap_alloc w o g h.lt).trans h
theorem Blk.set_ (h : Blk w g t cs) (i : Nat) (u : Value) : Blk (w.setCell ⟨g, i, none⟩ u) g t (cs.setIfInBounds i u) := by
  unfold Blk at h ⊢
  simp [World.setCell, Array.getElem?_modify, h]
theorem Blk.far (h : Blk w g t cs) {p : Addr} (hp : g ≠ p.block) (u : Value) : Blk (w.setCell p u) g t cs := (Below.heap_setCell w p u g hp).trans h
theorem Blk.keep (h : Blk w g t cs) (hk : Keep S w w') (hn : ¬ S g) : Blk w' g t cs := (hk.block g h.lt hn).trans h
theorem Blk.below {B : Nat} (h : Blk w g t cs) (hk : Below B w w') (hn : g < B) : Blk w' g t cs := (hk.block g hn).trans h
theorem Blk.ne_ {g' : Nat} {t' : TypeId} {cs' : Array Value} (h : Blk w g t cs) (h' : Blk w g' t' cs') (hne : t ≠ t') : g ≠ g' := by
  rintro rfl
  unfold Blk at h h'
  rw [h] at h'
  injection h' with h'
  injection h' with _ ht
  exact hne ht
end

/-- The cells xs stand at A, in a block that lies in F (asked only where there are any). -/
def Rd (w : World) (F : Nat → Prop) (_e : TypeId) (A : Option Addr) (xs : List Value) : Prop :=
  xs ≠ [] → ∃ g off cur fr e', A = some ⟨g, off, none⟩ ∧ F g ∧ w.heap[g]? = some (.cells cur e' fr) ∧ ∀ j u, xs[j]? = some u → cur[off + j]? = some u

section
variable {S F F' : Nat → Prop} {w w' : World} {e : TypeId} {A : Option Addr} {xs : List Value}
theorem Rd.nil (w : World) (F : Nat → Prop) (e : TypeId) (A : Option Addr) : Rd w F e A [] := fun h => absurd rfl h
theorem Rd.mono (h : Rd w F e A xs) (hF : ∀ k, k < w.heap.size → F k → F' k) : Rd w F' e A xs := fun hx => by
  obtain ⟨g, off, cur, fr, e', h1, h2, h3, h4⟩ := h hx
  exact ⟨g, off, cur, fr, e', h1, hF g (Array.getElem?_eq_some_iff.1 h3).1 h2, h3, h4⟩
theorem Rd.keep (h : Rd w F e A xs) (hk : Keep S w w') (hn : ∀ k, k < w.heap.size → F k → ¬ S k) : Rd w' F e A xs := fun hx => by
  obtain ⟨g, off, cur, fr, e', h1, h2, h3, h4⟩ := h hx
  have hg := (Array.getElem?_eq_some_iff.1 h3).1
  exact ⟨g, off, cur, fr, e', h1, h2, (hk.block g hg (hn g hg h2)).trans h3, h4⟩
theorem Rd.below (h : Rd w F e A xs) (hk : Below w.heap.size w w') : Rd w' F e A xs := h.keep (Keep.of_below (S := fun _ => False) hk) fun _ _ _ h => h
theorem Rd.alloc (h : Rd w F e A xs) (o : Obj) : Rd (w.alloc o) F e A xs := h.below ((Below.refl _ _).alloc (Nat.le_refl _) o)
theorem Rd.drew (h : Rd w F e A xs) : Rd w.drew F e A xs := h
theorem Rd.drewN (h : Rd w F e A xs) (n : Nat) : Rd (w.drewN n) F e A xs := h
theorem Rd.at_ (h : Rd w F e A xs) {j : Nat} (hj : j < xs.length) : ∃ g off, A = some ⟨g, off, none⟩ ∧ g < w.heap.size ∧ F g ∧ ∀ j u, xs[j]? = some u → w.cell? ⟨g, off + j, none⟩ = some u := by
  obtain ⟨g, off, cur, fr, e', h1, h2, h3, h4⟩ := h (by rintro rfl; simp at hj)
  exact ⟨g, off, h1, (Array.getElem?_eq_some_iff.1 h3).1, h2, fun j u hu => by rw [cell_of_row w g _ cur e' fr h3]; exact h4 j u hu⟩
theorem Rd.cut (h : Rd w F e A xs) {k cap n size : Nat} (hl : xs.length = n * size) (hn : n ≤ cap) : Rd w F e (if cap = k then A else A.map (·.add (k * size))) (xs.drop (k * size)) := by
  intro hx
  have hlt : k * size < xs.length := by
    rcases Nat.lt_or_ge (k * size) xs.length with h | h
    · exact h
    · exact absurd (List.drop_eq_nil_of_le h) hx
  obtain ⟨g, off, cur, fr, e', rfl, h2, h3, h4⟩ := h (by rintro rfl; simp at hlt)
  by_cases hm : cap = k
  · subst hm
    have := Nat.mul_le_mul_right size hn
    omega
  · rw [if_neg hm]
    exact ⟨g, off + k * size, cur, fr, e', by simp [addr_add], h2, h3, fun j u hu => by rw [Nat.add_assoc]; exact h4 (k * size + j) u (by rw [← hu, List.getElem?_drop])⟩
theorem Rd.take (h : Rd w F e A xs) (k : Nat) : Rd w F e A (xs.take k) := fun hx => by
  obtain ⟨g, off, cur, fr, e', h1, h2, h3, h4⟩ := h (by rintro rfl; simp at hx)
  refine ⟨g, off, cur, fr, e', h1, h2, h3, fun j u hu => h4 j u ?_⟩
  rw [List.getElem?_take] at hu
  split at hu
  · exact hu
  · cases hu
theorem Rd.new (w : World) (e : TypeId) (l : List Value) (n : Nat) (hn : n = w.heap.size) : Rd (w.alloc (.cells l.toArray e)) (fun _ => True) e (some ⟨n, 0, none⟩) l := by
  subst hn
  exact fun _ => ⟨w.heap.size, 0, l.toArray, (0, 0), e, rfl, trivial, heap_alloc_new w _, fun j u hu => by simpa using hu⟩
theorem Rd.new_ge (w : World) (e : TypeId) (l : List Value) : Rd (w.alloc (.cells l.toArray e)) (fun q => w.heap.size ≤ q) e (some ⟨w.heap.size, 0, none⟩) l :=
  fun _ => ⟨w.heap.size, 0, l.toArray, (0, 0), e, rfl, Nat.le_refl _, heap_alloc_new w _, fun j u hu => by simpa using hu⟩
theorem Rd.src {P : Program} {size : Nat} {tx e' : TypeId} (h : Rd w F e A xs) (hk : P.underlying tx = some (.slice e')) (n c : Nat) (hl : xs.length = n * size) (hsz : 0 < size)
    (h1 : ∀ u ∈ xs, u.oneCell' = true) : Src P size tx (.slice A n c) n xs w := by
  cases A with
  | some a =>
    refine Src.ofSlice w hk a n c xs hl ?_ h1
    intro j u hu
    have hj : j < xs.length := (List.getElem?_eq_some_iff.1 hu).1
    obtain ⟨g, off, ha, _, _, hc⟩ := h.at_ hj
    injection ha with ha
    subst ha
    rw [addr_add]
    exact hc j u hu
  | none =>
    have hx : xs = [] := by
      cases xs with
      | nil => rfl
      | cons x l => obtain ⟨g, off, ha, _⟩ := h.at_ (j := 0) (by simp); cases ha
    subst hx
    have hn : n = 0 := by
      rcases Nat.eq_zero_or_pos n with h0 | h0
      · exact h0
      · have := Nat.mul_pos h0 hsz; simp at hl; omega
    subst hn
    exact Src.ofNil w hk c
end

/-- A slice that the owner may append to: no capacity at all, or the head of a row of its own, in a block that lies in F. -/
def Own (w : World) (F : Nat → Prop) (e : TypeId) (size : Nat) (A : Option Addr) (n cap : Nat) (xs : List Value) : Prop :=
  xs.length = n * size ∧ n ≤ cap ∧ cap ≤ maxLen ∧
  (cap = 0 ∨ ∃ g cur, A = some ⟨g, 0, none⟩ ∧ F g ∧ w.heap[g]? = some (.cells cur e (0, 0)) ∧ cap * size ≤ cur.size ∧ cur.toList.take (n * size) = xs)
/-- The block that an owner's append may write to. -/
def ownIn (A : Option Addr) (cap : Nat) (k : Nat) : Prop := cap ≠ 0 ∧ ∃ a : Addr, A = some a ∧ a.block = k

section
variable {S F F' : Nat → Prop} {w w' : World} {e : TypeId} {size : Nat} {A : Option Addr} {n cap : Nat} {xs : List Value}
theorem Own.nil (w : World) (F : Nat → Prop) (e : TypeId) (size : Nat) (A : Option Addr) : Own w F e size A 0 0 [] := ⟨by simp, Nat.le_refl _, by simp [maxLen], .inl rfl⟩
theorem Own.mono (h : Own w F e size A n cap xs) (hF : ∀ k, k < w.heap.size → F k → F' k) : Own w F' e size A n cap xs := by
  obtain ⟨h1, h2, h3, h4⟩ := h
  refine ⟨h1, h2, h3, ?_⟩
  rcases h4 with h4 | ⟨g, cur, h4, h5, h6, h7⟩
  · exact .inl h4
  · exact .inr ⟨g, cur, h4, hF g (Array.getElem?_eq_some_iff.1 h6).1 h5, h6, h7⟩
theorem Own.keep (h : Own w F e size A n cap xs) (hk : Keep S w w') (hn : ∀ k, k < w.heap.size → F k → ¬ S k) : Own w' F e size A n cap xs := by
  obtain ⟨h1, h2, h3, h4⟩ := h
  refine ⟨h1, h2, h3, ?_⟩
  rcases h4 with h4 | ⟨g, cur, h4, h5, h6, h7⟩
  · exact .inl h4
  · have hg := (Array.getElem?_eq_some_iff.1 h6).1
    exact .inr ⟨g, cur, h4, h5, (hk.block g hg (hn g hg h5)).trans h6, h7⟩
theorem Own.below (h : Own w F e size A n cap xs) (hk : Below w.heap.size w w') : Own w' F e size A n cap xs := h.keep (Keep.of_below (S := fun _ => False) hk) fun _ _ _ h => h
theorem Own.alloc (h : Own w F e size A n cap xs) (o : Obj) : Own (w.alloc o) F e size A n cap xs := h.below ((Below.refl _ _).alloc (Nat.le_refl _) o)
theorem Own.drew (h : Own w F e size A n cap xs) : Own w.drew F e size A n cap xs := h
theorem Own.drewN (h : Own w F e size A n cap xs) (k : Nat) : Own (w.drewN k) F e size A n cap xs := h
theorem Own.rd (h : Own w F e size A n cap xs) : Rd w F e A xs := by
  intro hx
  obtain ⟨h1, h2, h3, h4⟩ := h
  rcases h4 with h4 | ⟨g, cur, h4, h5, h6, h7, h8⟩
  · subst h4
    have : n = 0 := by omega
    subst this
    exact absurd (List.eq_nil_of_length_eq_zero (by simpa using h1)) hx
  · refine ⟨g, 0, cur, (0, 0), e, h4, h5, h6, fun j u hu => ?_⟩
    rw [Nat.zero_add]
    have hj : j < n * size := by have := (List.getElem?_eq_some_iff.1 hu).1; omega
    rw [← h8, List.getElem?_take, if_pos hj] at hu
    simpa using hu
theorem Own.made (w : World) (e : TypeId) (size : Nat) (cur : Array Value) (n cap : Nat) (hn : n ≤ cap) (hm : cap ≤ maxLen) (hs : cur.size = cap * size) :
    Own (w.alloc (.cells cur e)) (fun k => w.heap.size ≤ k) e size (some ⟨w.heap.size, 0, none⟩) n cap (cur.toList.take (n * size)) := by
  refine ⟨?_, hn, hm, .inr ⟨w.heap.size, cur, rfl, Nat.le_refl _, heap_alloc_new w _, by omega, rfl⟩⟩
  rw [List.length_take, Array.length_toList, hs]
  exact Nat.min_eq_left (Nat.mul_le_mul_right _ hn)

theorem setCells_heap (b : Nat) (e : TypeId) : ∀ (vs : List Value) (o : Nat) (w : World) (cur : Array Value), w.heap[b]? = some (.cells cur e (0, 0)) → o + vs.length ≤ cur.size →
    Keep (· = b) w (w.setCells b o vs) ∧ (w.setCells b o vs).heap.size = w.heap.size ∧
    ∃ cur' : Array Value, (w.setCells b o vs).heap[b]? = some (.cells cur' e (0, 0)) ∧ cur'.size = cur.size ∧ cur'.toList.take (o + vs.length) = cur.toList.take o ++ vs
  | [], o, w, cur, h, _ => ⟨Keep.refl _ _, rfl, cur, h, rfl, by simp⟩
  | v :: r, o, w, cur, h, hl => by
    simp only [List.length_cons] at hl
    have h1 : (w.setCell ⟨b, o, none⟩ v).heap[b]? = some (.cells (cur.setIfInBounds o v) e (0, 0)) := heap_setCell_same w b o cur e v h
    obtain ⟨k, z, cur', h2, h3, h4⟩ := setCells_heap b e r (o + 1) (w.setCell ⟨b, o, none⟩ v) _ h1 (by simp; omega)
    refine ⟨((Keep.refl (· = b) w).setCell (p := ⟨b, o, none⟩) (.inl rfl) v).trans k fun _ _ h => h, by simpa [World.setCells] using z, cur', h2, by simpa using h3, ?_⟩
    have e1 : o + (v :: r).length = o + 1 + r.length := by simp; omega
    rw [e1, h4]
    have e2 : (cur.setIfInBounds o v).toList.take (o + 1) = cur.toList.take o ++ [v] := by
      rw [Array.toList_setIfInBounds, List.take_set, List.take_succ_eq_append_getElem (by simp; omega), List.set_append]
      simp
      rw [if_neg (by omega)]
      have : o - min o cur.size = 0 := by omega
      rw [this]; rfl
    rw [e2]; simp

theorem run_append_Own {P : Program} (t tx ty e : TypeId) (i : TypeInfo) (z : Value) (bytes : Nat) (ht : P.underlying t = some (.slice e)) (hi : P.info? e = some i) (hz : i.zero = some z)
    (hsize : i.size = size) (hby : i.bytes = bytes) (hzs : z.cells.size = size)
    (hown : Own w F e size A n cap xs) (x : Value) (m : Nat) (news : List Value) (hs : Src P size tx x m news w)
    (h63 : n + m ≤ maxLen) (hbytes : (n + m) * bytes ≤ 140737488355328) :
    ∃ A' cap' w', (Builtin.append_ #[t, tx] ty #[.slice A n cap, x]).run P w = .ok (.slice A' (n + m) cap') w' ∧
      Own w' (fun k => F k ∨ w.heap.size ≤ k) e size A' (n + m) cap' (xs ++ news) ∧ Keep (ownIn A cap) w w' ∧
      ((A' = A ∧ cap' = cap ∧ w'.heap.size = w.heap.size) ∨ A' = some ⟨w.heap.size, 0, none⟩) := by
  subst hsize
  subst hby
  have hrd := hown.rd
  obtain ⟨h1, h2, h3, h4⟩ := hown
  have hsmall : n + m ≤ 9223372036854775807 := by simp only [maxLen] at h63; omega
  have hnl := hs.newsLen
  have hlen : (xs ++ news).length = (n + m) * i.size := by rw [List.length_append, h1, hnl, Nat.add_mul]
  by_cases hroom : n + m ≤ cap
  · rcases h4 with h4 | ⟨g, cur, rfl, h5, h6, h7, h8⟩
    · subst h4
      have hn : n = 0 := by omega
      have hm : m = 0 := by omega
      subst hn hm
      have hnews : news = [] := List.eq_nil_of_length_eq_zero (by simpa using hs.newsLen)
      subst hnews
      have hxs : xs = [] := List.eq_nil_of_length_eq_zero (by simpa using h1)
      subst hxs
      refine ⟨A, 0, w, ?_, Own.nil _ _ _ _ _, Keep.refl _ _, .inl ⟨rfl, rfl, rfl⟩⟩
      have hc := hs.cells
      rcases hs.kind with ⟨e', hk⟩ | hk <;> cases A <;> simp [Builtin.append_, run_underlying ht, run_underlying hk, sizeOf, typeInfo, hi, hs.len, hc, storeCells]
    · have hle : (n + m) * i.size ≤ cap * i.size := Nat.mul_le_mul_right _ hroom
      have hnm := Nat.add_mul n m i.size
      have hr := run_append_room_src (P := P) w t tx ty e i ht hi g 0 n cap x m news hs hroom (by
        intro j hj
        rw [cell_of_row w g _ cur e (0, 0) h6]
        simp; omega) (by intro j hj; exact frozen_of_row w g _ cur e h6)
      obtain ⟨k, hz', cur', h9, h10, h11⟩ := setCells_heap g e news (n * i.size) w cur h6 (by omega)
      rw [Nat.zero_add] at hr
      refine ⟨_, _, _, hr, ⟨hlen, hroom, h3, .inr ⟨g, cur', rfl, .inl h5, h9, by omega, ?_⟩⟩, ?_, .inl ⟨rfl, rfl, hz'⟩⟩
      · have e1 : (n + m) * i.size = n * i.size + news.length := by omega
        rw [e1, h11, h8]
      · by_cases hc : cap = 0
        · have hnews : news = [] := List.eq_nil_of_length_eq_zero (by
            rw [hnl]
            have : m = 0 := by omega
            rw [this, Nat.zero_mul])
          subst hnews
          exact Keep.refl _ _
        · exact k.mono fun b _ hb => ⟨hc, ⟨g, 0, none⟩, rfl, hb.symm⟩
  · have hold : (Builtin.firstCells i.size n (.slice A n cap)).run P w.drew = .ok xs.toArray w.drew := by
      cases A with
      | none =>
        have hx : xs = [] := by
          cases xs with
          | nil => rfl
          | cons x l => obtain ⟨g, off, ha, _⟩ := hrd.at_ (j := 0) (by simp); cases ha
        subst hx
        exact run_firstCells_none _ _ _ _ _
      | some a =>
        refine run_firstCells_some w.drew i.size n a n cap xs h1 ?_
        intro j u hu
        have hj : j < xs.length := (List.getElem?_eq_some_iff.1 hu).1
        obtain ⟨g, off, ha, _, _, hc⟩ := hrd.at_ hj
        injection ha with ha
        subst ha
        rw [addr_add]
        exact hc j u hu
    have hr := run_append_grow_src (P := P) w t tx ty e i z ht hi hz A n cap xs hold x m news hs (by omega) (by omega) (growslice_fits (by omega) hbytes)
    have hge := grownCap_ge w (n + m) cap e
    have hcm : grownCap w (n + m) cap e ≤ maxLen := grownCap_le_maxLen w (n + m) cap e h63
    refine ⟨_, _, _, hr, ⟨hlen, hge, hcm, .inr ⟨w.heap.size, _, rfl, .inr (Nat.le_refl _), heap_alloc_new w.drew _, ?_, ?_⟩⟩, (Keep.refl _ _).drew.alloc _, .inr rfl⟩
    · simp only [Array.size_append, List.size_toArray, size_zeroCells, hzs, hlen, ← Nat.add_mul]
      exact Nat.mul_le_mul_right _ (by omega)
    · rw [Array.toList_append, ← hlen]
      exact List.take_left

/-- Not too many. (A name, so that the walk doesn't see the numeral.) -/
def Few (n : Nat) : Prop := n ≤ 16777216
theorem Few.of {n : Nat} (h : n ≤ 60000) : Few n := by unfold Few; omega
theorem Few.le {n m : Nat} (h : Few n) (hm : m ≤ n) : Few m := by unfold Few at *; omega
theorem Few.max {n : Nat} (h : Few n) : n ≤ maxLen := by unfold Few at h; unfold maxLen; omega
theorem Few.bytes {n : Nat} (h : Few n) {b : Nat} (hb : b ≤ 1000) : n * b ≤ 140737488355328 := by
  unfold Few at h
  have := Nat.mul_le_mul h hb
  omega

theorem wp_append_Own {P : Program} {o : Oper} {a : Act} {K : Act → World → Prop} {Q : Exit → Act → World → Prop} (s x : Operand) (t tx : TypeId)
    (ho : o.op = .call { callee := .builtin .append, args := #[s, x], argTypes := #[t, tx] })
    (e : TypeId) (i : TypeInfo) (z : Value) (bytes : Nat) (ht : P.underlying t = some (.slice e)) (hi : P.info? e = some i) (hz : i.zero = some z)
    (hsize : i.size = size) (hby : i.bytes = bytes) (hzs : z.cells.size = size) (hv : a.eval s = .slice A n cap)
    (hown : Own w F e size A n cap xs) (m : Nat) (news : List Value) (hs : Src P size tx (a.eval x) m news w)
    (h63 : n + m ≤ maxLen) (hbytes : (n + m) * bytes ≤ 140737488355328)
    (h : ∀ A' cap' w', Own w' (fun k => F k ∨ w.heap.size ≤ k) e size A' (n + m) cap' (xs ++ news) → Keep (ownIn A cap) w w' →
      ((A' = A ∧ cap' = cap ∧ w'.heap.size = w.heap.size) ∨ A' = some ⟨w.heap.size, 0, none⟩) → K (a.put o.dst (.slice A' (n + m) cap')) w') : o.wp P a w K Q := by
  obtain ⟨A', cap', w', hr, h2, h3, h4⟩ := run_append_Own (P := P) t tx o.type e i z bytes ht hi hz hsize hby hzs hown (a.eval x) m news hs h63 hbytes
  unfold Oper.wp execOp
  simp only [ho, resolve, invoke, builtin, Sem.run_bind, Sem.run_pure, Result.andThen_ok, List.map_toArray, List.map_cons, List.map_nil, hv, hr]
  exact h A' cap' w' h2 h3 h4

theorem wpList_append_Own {P : Program} {ops : Array Oper} {rest : List Oper} {o : Oper} {a : Act} {Q : Exit → Act → World → Prop} (hgd : o.guard = none) (s x : Operand) (t tx : TypeId)
    (ho : o.op = .call { callee := .builtin .append, args := #[s, x], argTypes := #[t, tx] })
    (e : TypeId) (i : TypeInfo) (z : Value) (bytes : Nat) (ht : P.underlying t = some (.slice e)) (hi : P.info? e = some i) (hz : i.zero = some z)
    (hsize : i.size = size) (hby : i.bytes = bytes) (hzs : z.cells.size = size) (hv : a.eval s = .slice A n cap)
    (hown : Own w F e size A n cap xs) (m : Nat) (news : List Value) (hs : Src P size tx (a.eval x) m news w)
    (h63 : n + m ≤ maxLen) (hbytes : (n + m) * bytes ≤ 140737488355328)
    (h : ∀ A' cap' w', Own w' (fun k => F k ∨ w.heap.size ≤ k) e size A' (n + m) cap' (xs ++ news) → Keep (ownIn A cap) w w' →
      ((A' = A ∧ cap' = cap ∧ w'.heap.size = w.heap.size) ∨ A' = some ⟨w.heap.size, 0, none⟩) → wpList P ops Q rest (a.put o.dst (.slice A' (n + m) cap')) w') : wpList P ops Q (o :: rest) a w :=
  wpList_plain hgd fun _ hK => wp_append_Own s x t tx ho e i z bytes ht hi hz hsize hby hzs hv hown m news hs h63 hbytes fun A' cap' w' h2 h3 h4 => hK _ _ (h A' cap' w' h2 h3 h4)
end
end Go.Proofs.YtepflhniomineaaGreat
