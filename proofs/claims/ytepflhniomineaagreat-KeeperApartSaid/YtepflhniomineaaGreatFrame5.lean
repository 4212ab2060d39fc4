/- Numbers as bytes: put. -/
import Derived.Test.YtepflhniomineaaGreatFrame4
import Derived.Test.YtepflhniomineaaGreatShelf
namespace Go.Proofs.YtepflhniomineaaGreat
open Go.RowKit
theorem ownIn_ty {w : World} {F : Nat → Prop} {e size : Nat} {A : Option Addr} {n cap : Nat} {xs : List Value} (h : Own w F e size A n cap xs) {k e' : Nat} {cur : Array Value} {fr : Nat × Nat}
    (hk : ownIn A cap k) (hc : w.heap[k]? = some (.cells cur e' fr)) : e' = e := by
  obtain ⟨_, _, _, h0 | ⟨g, cur', rfl, _, h6, _⟩⟩ := h
  · exact absurd h0 hk.1
  · obtain ⟨_, a, ha, rfl⟩ := hk
    injection ha with ha
    subst ha
    rw [h6] at hc
    injection hc with hc
    injection hc with _ hc
    exact hc.symm
theorem size_eq (n : Int) : (((Lib.bitLen (Lib.zigzag n) : Nat) : Int) + 7) / 8 = ((numSize n : Nat) : Int) := by unfold numSize; omega
theorem size_byte (n : Int) : ((numSize n : Nat) : Int) = ((UInt8.ofNat (numSize n)).toNat : Int) := by
  have := numSize_le n
  rw [UInt8.toNat_ofNat']
  omega
theorem len64_any (x : Nat) (w : World) (h : x < 18446744073709551616) : Calls Tryz.prog 145 #[.int .u64 x] w fun e w' => e = .returned (.int .i64 (Lib.bitLen x : Nat)) ∧ w = w' :=
  (Tryz.bits_Len64 x w (by omega) (by omega)).mono fun _ _ h => ⟨by simpa using h.1, h.2.symm⟩
set_option maxRecDepth 100000 in
set_option maxHeartbeats 1000000 in
theorem fput_any (F Fn : Nat → Prop) (A An : Option Addr) (m cap cn : Nat) (l : List UInt8) (nums : List Int) (w : World) (h : Own w F 5 1 A m cap (l.map bv)) (hn : Rd w Fn 3 An (nums.map (Value.int .i64)))
    (hd : ∀ q, q < w.heap.size → Fn q → ¬ F q) (hi64 : ∀ x ∈ nums, In64 x) (hm : m + 9 * nums.length ≤ 60000) :
    Calls Tryz.prog 89 #[.slice A m cap, .slice An nums.length cn] w (OwnOut w 5 1 A cap (m + (putL nums).length) ((l ++ putL nums).map bv)) := by
  obtain ⟨i0, hi, iz0, iz1, iz2⟩ := info_parts Tryz.info5
  have H := Lib.hid h.self
  have HF := Lib.hid h
  have HD := Lib.hid hd
  have HN := Lib.hid hn
  have HI := Lib.hid hi64
  clear h hn hi64 hd
  go_enter Tryz.func89, Tryz.ntmps89
  go_wp2
  go_loopw [0, 11] (fun o i wr => ∃ (k : Nat) (A' : Option Addr) (c' : Nat), k ≤ nums.length ∧ i = .int .i64 k ∧ o = .slice A' (m + (putL (nums.take k)).length) c' ∧ Hid (Own wr (newFp (ownIn A cap) w wr) 5 1 A' (m + (putL (nums.take k)).length) c' ((l ++ putL (nums.take k)).map bv) ∧ Keep (ownIn A cap) w wr)) (fun _ i _ => nums.length - (intOf i).toNat)
  case atStart => exact ⟨0, A, cap, Nat.zero_le _, rfl, rfl, by simpa [putL] using H.out.mono fun k _ hk => .inl hk, Keep.refl _ _⟩
  case round =>
    obtain ⟨k, A', c', hk, rfl, rfl, HR⟩ := hrel
    by_cases hlt : k < nums.length
    · have hrd : Rd wr Fn 3 An (nums.map (Value.int .i64)) := HN.out.keep HR.out.2 fun q hq hF hS => HD.out q hq hF (ownIn_blk HF.out hS)
      obtain ⟨g, off, rfl, _, _, hc⟩ := hrd.at_ (j := k) (by simpa using hlt)
      have hck := hc k (.int .i64 nums[k]) (by simp [hlt])
      clear hc hrd
      have hin : In64 nums[k] := HI.out _ (List.getElem_mem hlt)
      have hzz := Lib.zigzag_lt hin.1 hin.2
      have hbl := bitLen_le (Lib.zigzag nums[k])
      have HIN := Lib.hid hin
      have HPT := Lib.hid (putL_take_succ nums k hlt)
      have hpl := putL_length_le (nums.take k)
      have htk : (nums.take k).length ≤ k := by simp; omega
      have hnl := numL_length nums[k]
      have hns := numSize_le nums[k]
      clear hin
      go_wp2_with fail
      refine (turned_any _ _ HIN.out).mono ?_
      rintro e w1 ⟨rfl, rfl⟩
      go_wp2_with fail
      refine (len64_any _ _ hzz).mono ?_
      rintro e w1 ⟨rfl, rfl⟩
      have HZ := Lib.hid (size_eq nums[k])
      have HSB := Lib.hid (size_byte nums[k])
      go_wp2_with (at_builtin; go_must (rw [HZ.out]; refine wpList_append_Own (F := newFp (ownIn A cap) w wr) (A := A') (n := m + (putL (nums.take k)).length) (cap := c') (xs := (l ++ putL (nums.take k)).map bv) (size := 1) rfl (.tmp 21) (.tmp 24) 87 87 rfl 5 i0 (.int .u8 0) 1 Tryz.underlying87 hi iz0 iz1 iz2 rfl rfl (HR.out.1.alloc _) 1 [bv (UInt8.ofNat (numSize nums[k]))] ?c1 ?c2 ?c3 ?_))
      case c1 =>
        have h1 := Rd.new wr 5 [bv (UInt8.ofNat (numSize nums[k]))] _ rfl
        unfold bv at h1
        rw [← HSB.out] at h1
        have h2 := h1.src (P := Tryz.prog) (size := 1) (tx := 87) Tryz.underlying87 1 1 (by simp) (by omega) (by intro u hu; simp at hu; subst hu; rfl)
        unfold bv
        rw [← HSB.out]
        exact h2
      case c2 => unfold maxLen; omega
      case c3 => omega
      intro A1 c1 w1 hown hK1 _
      have hz1 := hK1.size
      have hz2 := HR.out.2.size
      simp only [World.size_alloc] at hz1
      have hK1' : Keep (ownIn A cap) w w1 := (HR.out.2.alloc _).trans hK1 fun b hb hS => by
        rcases ownIn_blk (HR.out.1) hS with hS | hS
        · exact hS
        · omega
      have HK1 := Lib.hid hK1'
      have h3 := hown.mono (F' := newFp (ownIn A cap) w w1) fun q hq hF => by
        rcases hF with (hF | hF) | hF
        · exact .inl hF
        · exact .inr ⟨hF.1, hq⟩
        · exact .inr ⟨by omega, hq⟩
      have HO1 := Lib.hid h3
      clear hown hK1 hK1' h3
      go_wp2_with fail
      refine (low_any (newFp (ownIn A cap) w w1) A1 (m + (putL (nums.take k)).length + 1) c1 (l ++ putL (nums.take k) ++ [UInt8.ofNat (numSize nums[k])]) (Lib.zigzag nums[k]) (numSize nums[k]) _ (by simpa using HO1.out) (Few.of (by omega)) (by omega) hns).mono ?_
      rintro e w2 ⟨A2, c2, rfl, hown2, hK2⟩
      have hK2' : Keep (ownIn A cap) w w2 := HK1.out.trans hK2 fun b hb hS => by
        rcases ownIn_blk HO1.out hS with hS | hS
        · exact hS
        · omega
      have hz3 := hK2.size
      have h4 := hown2.mono (F' := newFp (ownIn A cap) w w2) fun q hq hF => by
        rcases hF with hF | hF
        · rcases ownIn_blk HO1.out hF with hF | hF
          · exact .inl hF
          · exact .inr ⟨hF.1, hq⟩
        · exact .inr ⟨by omega, hq⟩
      have HO2 := Lib.hid h4
      have HK2 := Lib.hid hK2'
      clear hown2 hK2 hK2' h4
      have HL := Lib.hid hnl
      clear hnl
      go_wp2
      go_roundw
      case rel =>
        have e1 : m + (putL (nums.take k)).length + 1 + numSize nums[k] = m + (putL (nums.take (k + 1))).length := by
          rw [HPT.out, List.length_append, HL.out]; omega
        refine ⟨k + 1, A2, c2, by omega, by go_num, by rw [e1], ?_, HK2.out⟩
        have := HO2.out
        rw [e1] at this
        rw [HPT.out] at this ⊢
        simpa [numL] using this
      case measure => simp [intOf]; omega
    · have hkn : k = nums.length := by omega
      subst hkn
      go_wp2
      go_ret
      have := HR.out
      rw [List.take_length] at this
      exact ⟨A', c', by simp, this.1, this.2⟩
end Go.Proofs.YtepflhniomineaaGreat
