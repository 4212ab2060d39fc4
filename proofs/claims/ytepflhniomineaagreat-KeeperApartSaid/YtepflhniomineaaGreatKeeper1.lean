/- The keeper: what it is. -/
import Derived.Test.YtepflhniomineaaGreatAnswer
import Derived.Test.YtepflhniomineaaGreatKV
import Derived.Test.YtepflhniomineaaGreatDiary1
namespace Go.Proofs.YtepflhniomineaaGreat
open Go.RowKit
structure KeeperM where
  node : Int
  d : DiaryM
  regs : List (Int × Reg)
def lookR : List (Int × Reg) → Int → Reg
  | [], _ => Reg.zero
  | (k', r) :: R, k => if k = k' then r else lookR R k
def putR : List (Int × Reg) → Int → Reg → List (Int × Reg)
  | [], k, r => [(k, r)]
  | (k', r') :: R, k, r => if k = k' then (k, r) :: R else (k', r') :: putR R k r
theorem lookR_put : ∀ (R : List (Int × Reg)) (k k' : Int) (r : Reg), lookR (putR R k r) k' = if k' = k then r else lookR R k'
  | [], k, k', r => by simp [putR, lookR]
  | (a, b) :: R, k, k', r => by
    unfold putR
    by_cases h : k = a
    · subst h
      rw [if_pos rfl]
      by_cases h' : k' = k
      · subst h'; simp [lookR]
      · simp [lookR, h']
    · rw [if_neg h]
      have ih := lookR_put R k k' r
      by_cases h' : k' = a
      · subst h'
        simp [lookR, Ne.symm h]
      · simp [lookR, h', ih]
theorem mem_put {R : List (Int × Reg)} {k : Int} {r : Reg} {p : Int × Reg} (h : p ∈ putR R k r) : p = (k, r) ∨ p ∈ R := by
  induction R with
  | nil => simpa [putR] using h
  | cons a R ih =>
    obtain ⟨a, b⟩ := a
    unfold putR at h
    split at h
    · rcases List.mem_cons.1 h with h | h
      · exact .inl h
      · exact .inr (List.mem_cons_of_mem _ h)
    · rcases List.mem_cons.1 h with h | h
      · exact .inr (by rw [h]; exact List.mem_cons_self)
      · rcases ih h with h | h
        · exact .inl h
        · exact .inr (List.mem_cons_of_mem _ h)
theorem look_mem (R : List (Int × Reg)) (k : Int) : lookR R k = Reg.zero ∨ ∃ p ∈ R, p.1 = k ∧ p.2 = lookR R k := by
  induction R with
  | nil => exact .inl rfl
  | cons a R ih =>
    obtain ⟨a, b⟩ := a
    unfold lookR
    split
    · next h => exact .inr ⟨(a, b), List.mem_cons_self, h.symm, rfl⟩
    · rcases ih with h | ⟨p, hp, h1, h2⟩
      · exact .inl h
      · exact .inr ⟨p, List.mem_cons_of_mem _ hp, h1, h2⟩
/-- The map's pairs are the registers; their numbers stand in fr. -/
def RegsV (w : World) (fr : Nat → Prop) : List (Int × Value) → List (Int × Reg) → Prop
  | [], [] => True
  | (k, v) :: L, (k', r) :: R => k = k' ∧ (∃ A c, v = r.v A c ∧ Rd w fr 3 A (r.value.map (Value.int .i64))) ∧ RegsV w fr L R
  | _, _ => False
theorem RegsV.imp {w w' : World} {fr fr' : Nat → Prop} (f : ∀ A (xs : List Value), Rd w fr 3 A xs → Rd w' fr' 3 A xs) : ∀ {L : List (Int × Value)} {R : List (Int × Reg)}, RegsV w fr L R → RegsV w' fr' L R
  | [], [], _ => trivial
  | [], _ :: _, h => h
  | _ :: _, [], h => h
  | (_, _) :: _, (_, _) :: _, ⟨h1, ⟨A, c, h2, h3⟩, h4⟩ => ⟨h1, ⟨A, c, h2, f _ _ h3⟩, h4.imp f⟩
theorem RegsV.keep {w w' : World} {fr S : Nat → Prop} {L : List (Int × Value)} {R : List (Int × Reg)} (h : RegsV w fr L R) (hk : Keep S w w') (hn : ∀ k, k < w.heap.size → fr k → ¬ S k) : RegsV w' fr L R := h.imp fun _ _ h => h.keep hk hn
theorem RegsV.mono {w : World} {fr fr' : Nat → Prop} {L : List (Int × Value)} {R : List (Int × Reg)} (h : RegsV w fr L R) (hm : ∀ k, k < w.heap.size → fr k → fr' k) : RegsV w fr' L R := h.imp fun _ _ h => h.mono hm
theorem RegsV.look {w : World} {fr : Nat → Prop} : ∀ {L : List (Int × Value)} {R : List (Int × Reg)}, RegsV w fr L R → ∀ k : Int,
    ∃ A c, (lookKV L k).getD (Reg.zero.v none 0) = (lookR R k).v A c ∧ Rd w fr 3 A ((lookR R k).value.map (Value.int .i64))
  | [], [], _, k => ⟨none, 0, rfl, Rd.nil _ _ _ _⟩
  | [], _ :: _, h, _ => h.elim
  | _ :: _, [], h, _ => h.elim
  | (a, v) :: L, (b, r) :: R, ⟨h1, ⟨A, c, h2, h3⟩, h4⟩, k => by
    subst h1
    by_cases hk : k = a
    · subst hk
      exact ⟨A, c, by simp [lookKV, lookR, h2], by simpa [lookR] using h3⟩
    · simpa [lookKV, lookR, hk] using RegsV.look h4 k
theorem RegsV.put {w : World} {fr : Nat → Prop} {r : Reg} {A : Option Addr} {c : Nat} (k : Int) (hr : Rd w fr 3 A (r.value.map (Value.int .i64))) : ∀ {L : List (Int × Value)} {R : List (Int × Reg)}, RegsV w fr L R →
    RegsV w fr (putKV L k (r.v A c)) (putR R k r)
  | [], [], _ => ⟨rfl, ⟨A, c, rfl, hr⟩, trivial⟩
  | [], _ :: _, h => h.elim
  | _ :: _, [], h => h.elim
  | (a, v) :: L, (b, r') :: R, ⟨h1, h2, h4⟩ => by
    subst h1
    by_cases hk : k = a
    · subst hk
      simp only [putKV, putR, if_true]
      exact ⟨rfl, ⟨A, c, rfl, hr⟩, h4⟩
    · simp only [putKV, putR, if_neg hk]
      exact ⟨rfl, h2, RegsV.put k hr h4⟩
/-- The keeper at block k; all its blocks lie in fp: its own one, the map's, the diary's (fd), its registers' numbers' (fr). -/
def KeeperR (w : World) (k : Nat) (fp : Nat → Prop) (K : KeeperM) : Prop :=
  ∃ d m fd fr L, Blk w k 181 #[.pointer (some ⟨d, 0, none⟩), .int .i64 K.node, .map (some m)] ∧ DiaryR w d fd K.d ∧ MapKV w m L ∧ RegsV w fr L K.regs ∧
    fp k ∧ fp m ∧ k ≠ m ∧ (∀ q, fd q → fp q ∧ q ≠ k ∧ q ≠ m) ∧ (∀ q, fr q → fp q ∧ q ≠ k ∧ q ≠ m ∧ ¬ fd q) ∧ ∀ q, fp q → q < w.heap.size
theorem MapKV.lt {w : World} {m : Nat} {L : List (Int × Value)} (h : MapKV w m L) : m < w.heap.size := by
  obtain ⟨_, _, h, _⟩ := h
  exact (Array.getElem?_eq_some_iff.1 h).1
theorem MapKV.keep {w w' : World} {S : Nat → Prop} {m : Nat} {L : List (Int × Value)} (h : MapKV w m L) (hk : Keep S w w') (hn : ¬ S m) : MapKV w' m L := by
  have hlt := h.lt
  obtain ⟨es, c, h1, h2⟩ := h
  exact ⟨es, c, (hk.block m hlt hn).trans h1, h2⟩
theorem KeeperR.keep {w w' : World} {k : Nat} {fp S : Nat → Prop} {K : KeeperM} (h : KeeperR w k fp K) (hk : Keep S w w') (hn : ∀ q, fp q → ¬ S q) : KeeperR w' k fp K := by
  obtain ⟨d, m, fd, fr, L, h1, h2, h3, h4, h5, h6, h7, h8, h9, h10⟩ := h
  exact ⟨d, m, fd, fr, L, h1.keep hk (hn k h5), h2.keep hk fun q hq => hn q (h8 q hq).1, h3.keep hk (hn m h6), h4.keep hk fun q _ hq => hn q (h9 q hq).1, h5, h6, h7, h8, h9, fun q hq => Nat.lt_of_lt_of_le (h10 q hq) hk.size⟩
theorem KeeperR.below {w w' : World} {k : Nat} {fp : Nat → Prop} {K : KeeperM} (h : KeeperR w k fp K) (hk : Below w.heap.size w w') : KeeperR w' k fp K := h.keep (Keep.of_below (S := fun _ => False) hk) fun _ _ h => h
theorem KeeperR.mono {w : World} {k : Nat} {fp fp' : Nat → Prop} {K : KeeperM} (h : KeeperR w k fp K) (hm : ∀ q, fp q → fp' q) (hl : ∀ q, fp' q → q < w.heap.size) : KeeperR w k fp' K := by
  obtain ⟨d, m, fd, fr, L, h1, h2, h3, h4, h5, h6, h7, h8, h9, h10⟩ := h
  exact ⟨d, m, fd, fr, L, h1, h2, h3, h4, hm _ h5, hm _ h6, h7, fun q hq => ⟨hm _ (h8 q hq).1, (h8 q hq).2⟩, fun q hq => ⟨hm _ (h9 q hq).1, (h9 q hq).2⟩, hl⟩
end Go.Proofs.YtepflhniomineaaGreat
