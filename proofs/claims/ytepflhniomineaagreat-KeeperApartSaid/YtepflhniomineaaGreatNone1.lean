/- estuarylaw12.alive: the fixed fact. -/
import Derived.Test.YtepflhniomineaaGreatHandle2
import Derived.Test.YtepflhniomineaaGreatHandle4
import Derived.Test.YtepflhniomineaaGreatHandle3
import Derived.Test.YtepflhniomineaaGreatClear
namespace Go.Proofs.YtepflhniomineaaGreat
open Go.RowKit
set_option maxRecDepth 100000 in
set_option maxHeartbeats 8000000 in
theorem alive_any (w : World) : Calls Tryz.prog 43 #[] w (BoolIs true w) := by
  go_enter Tryz.func43, Tryz.ntmps43
  go_wp2_with fail
  refine (tnew_any _).mono ?_
  rintro e w1 ⟨rfl, rfl⟩
  go_wp2_with fail
  have hT := tape_new w
  generalize hw1 : w.alloc (.cells (tapeCells (.slice none 0 0) (.int .i64 0) (.int .i64 0) ⟨false, 0, false, 0, false⟩) 146) = w1 at *
  have HB1 : Hid (Below w.heap.size w w1) := by subst hw1; exact (Below.refl _ _).alloc (Nat.le_refl _) _
  have hz1 : w1.heap.size = w.heap.size + 1 := by subst hw1; simp
  clear hw1
  refine (kopen_empty 3 w.heap.size _ _ _ hT rfl rfl (by omega) (by omega)).mono ?_
  rintro e w2 ⟨k, rfl, hK, hb2⟩
  have HKa := Lib.hid hK
  have HB2 := Lib.hid hb2
  clear hK hb2 hT
  go_wp2_with fail
  have hfr0 : (⟨3, ⟨⟨[], 0, ⟨false, 0, false, 0, false⟩⟩, 0, w.heap.size⟩, []⟩ : KeeperM).fresh 0 := ⟨rfl, by simp, rfl⟩
  obtain ⟨hs1, hf1, hn1, hr1⟩ := alive_a hfr0 rfl
  generalize hK0 : (⟨3, ⟨⟨[], 0, ⟨false, 0, false, 0, false⟩⟩, 0, w.heap.size⟩, []⟩ : KeeperM) = K0 at *
  have hnodea : K0.node = 3 := by subst hK0; rfl
  have hregsa : K0.regs = [] := by subst hK0; rfl
  have hrow0 : K0.d.rows = 0 := hfr0.rows
  clear hK0 hfr0
  have hz2 := HB2.out.size
  have hfla : ∀ q, newFp (· = w.heap.size) w1 w2 q → q < w2.heap.size := fun q hq => by
    rcases hq with hq | hq
    · have hq : q = w.heap.size := hq
      omega
    · exact hq.2
  have hge0 : ∀ q, newFp (· = w.heap.size) w1 w2 q → w.heap.size ≤ q := fun q hq => by
    rcases hq with hq | hq
    · have hq : q = w.heap.size := hq
      omega
    · omega
  generalize newFp (· = w.heap.size) w1 w2 = fp0 at *
  have ha := handle_prep k fp0 (fun q => w2.heap.size ≤ q) K0 ⟨1, 5, 3, [0, 1, 5, 0], [], 0⟩ ⟨some ⟨w2.heap.size, 0, none⟩, 4, none, 0, none, 0⟩ 0 ⟨1, 5, 0⟩ [] (w2.alloc (.cells #[.int .i64 0, .int .i64 1, .int .i64 5, .int .i64 0] 3))
    (HKa.out.below ((Below.refl _ _).alloc (Nat.le_refl _) _))
    ⟨Rd.new_ge w2 3 [.int .i64 0, .int .i64 1, .int .i64 5, .int .i64 0], Rd.nil _ _ _ _⟩ (by unfold NoteM.small In64; simp) (by rw [hnodea]) (by decide) rfl rfl (by simp) ⟨by omega, by omega⟩ (by unfold Bal.wf In64; simp) (by rw [hregsa]; exact ⟨by unfold Reg.wf Bal.wf In64; simp [lookR, Reg.zero], by simp [lookR, Reg.zero]⟩) (by omega)
    (fun q hq h => by have := hfla q h; omega)
  rw [hs1] at ha
  refine ha.mono ?_
  rintro e w3 ⟨B1, hBl1, hBu1, hK1, hkp1, g1, A1, c1, rfl, hblk1, hg1, hrd1, hc1⟩
  have HKb := Lib.hid hK1
  have HA1 := Lib.hid (And.intro hblk1 hrd1)
  have HP1 := Lib.hid hkp1
  simp only [World.size_alloc] at hBl1
  clear hK1 hblk1 hrd1 hkp1 ha
  generalize (K0.save 0 ra).1 = K1 at *
  have hnodeb : K1.node = 3 := by rw [hn1, hnodea]
  have hregsb := hr1
  have hrow1 : K1.d.rows = 1 := hf1.rows
  have hflb : ∀ q, (fun q => fp0 q ∨ (w2.heap.size + 1 ≤ q ∧ q < B1)) q → q < B1 := fun q hq => by
    rcases (show fp0 q ∨ (w2.heap.size + 1 ≤ q ∧ q < B1) from hq) with hq | hq
    · have := hfla q hq; omega
    · exact hq.2
  have hge1 : ∀ q, (fun q => fp0 q ∨ (w2.heap.size + 1 ≤ q ∧ q < B1)) q → w.heap.size ≤ q := fun q hq => by
    rcases (show fp0 q ∨ (w2.heap.size + 1 ≤ q ∧ q < B1) from hq) with hq | hq
    · exact hge0 q hq
    · omega
  simp only [World.size_alloc] at HKb
  generalize (fun q => fp0 q ∨ (w2.heap.size + 1 ≤ q ∧ q < B1)) = fp1 at *
  obtain ⟨hs2, hf2, hn2, hr2⟩ := alive_b hf1 hr1
  go_wp2_with fail
  have hb := handle_acc k fp1 (fun q => w3.heap.size ≤ q) K1 ⟨3, 5, 3, [0, 1, 5, 0, 7], [], 0⟩ ⟨some ⟨w3.heap.size, 0, none⟩, 5, none, 0, none, 0⟩ 0 ⟨1, 5, 0⟩ [7] (w3.alloc (.cells #[.int .i64 0, .int .i64 1, .int .i64 5, .int .i64 0, .int .i64 7] 3))
    (HKb.out.below ((Below.refl _ _).alloc (Nat.le_refl _) _))
    ⟨Rd.new_ge w3 3 [.int .i64 0, .int .i64 1, .int .i64 5, .int .i64 0, .int .i64 7], Rd.nil _ _ _ _⟩ (by unfold NoteM.small In64; simp) (by rw [hnodeb]) (by decide) rfl rfl (by simp) ⟨by omega, by omega⟩ (by unfold Bal.wf In64; simp) (by rw [hregsb]; exact ⟨by unfold Reg.wf Bal.wf In64; simp [lookR, ra], by simp [lookR, ra]⟩) (by omega)
    (fun q hq h => by have := hflb q h; omega) (by simp)
  rw [hs2] at hb
  refine hb.mono ?_
  rintro e w4 ⟨B2, hBl2, hBu2, hK2, hkp2, g2, A2, c2, rfl, hblk2, hg2, hrd2, hc2⟩
  have HKc := Lib.hid hK2
  have HA12 := Lib.hid ((HA1.out.1.alloc (.cells #[.int .i64 0, .int .i64 1, .int .i64 5, .int .i64 0, .int .i64 7] 3)).keep hkp2 fun h => by have := hflb g1 h; omega)
  have HA2 := Lib.hid hblk2
  have hzz2 := hkp2.size
  have hgl1 := HA1.out.1.lt
  simp only [World.size_alloc] at hBl2 hzz2
  have HP2 := Lib.hid hkp2
  clear hK2 hblk2 hrd2 hkp2 hb
  generalize (K1.save 0 rb).1 = K2 at *
  have hnodec : K2.node = 3 := by rw [hn2, hnodeb]
  have hregsc := hr2
  have hrow2 : K2.d.rows = 2 := hf2.rows
  have hflc : ∀ q, (fun q => fp1 q ∨ (w3.heap.size + 1 ≤ q ∧ q < B2)) q → q < B2 := fun q hq => by
    rcases (show fp1 q ∨ (w3.heap.size + 1 ≤ q ∧ q < B2) from hq) with hq | hq
    · have := hflb q hq; omega
    · exact hq.2
  have hng1 : ¬ (fun q => fp1 q ∨ (w3.heap.size + 1 ≤ q ∧ q < B2)) g1 := fun h => by
    rcases (show fp1 g1 ∨ (w3.heap.size + 1 ≤ g1 ∧ g1 < B2) from h) with h | h
    · have := hflb g1 h; omega
    · omega
  have hge2 : ∀ q, (fun q => fp1 q ∨ (w3.heap.size + 1 ≤ q ∧ q < B2)) q → w.heap.size ≤ q := fun q hq => by
    rcases (show fp1 q ∨ (w3.heap.size + 1 ≤ q ∧ q < B2) from hq) with hq | hq
    · exact hge1 q hq
    · omega
  simp only [World.size_alloc] at HKc
  generalize (fun q => fp1 q ∨ (w3.heap.size + 1 ≤ q ∧ q < B2)) = fp2 at *
  have hs3 := alive_c hr2
  go_wp2_with fail
  have hc := handle_prep k fp2 (fun q => w4.heap.size ≤ q) K2 ⟨1, 5, 3, [0, 1, 4, 0], [], 0⟩ ⟨some ⟨w4.heap.size, 0, none⟩, 4, none, 0, none, 0⟩ 0 ⟨1, 4, 0⟩ [] (w4.alloc (.cells #[.int .i64 0, .int .i64 1, .int .i64 4, .int .i64 0] 3))
    (HKc.out.below ((Below.refl _ _).alloc (Nat.le_refl _) _))
    ⟨Rd.new_ge w4 3 [.int .i64 0, .int .i64 1, .int .i64 4, .int .i64 0], Rd.nil _ _ _ _⟩ (by unfold NoteM.small In64; simp) (by rw [hnodec]) (by decide) rfl rfl (by simp) ⟨by omega, by omega⟩ (by unfold Bal.wf In64; simp) (by rw [hregsc]; exact ⟨by unfold Reg.wf Bal.wf In64; simp [lookR, rb], by simp [lookR, rb]⟩) (by omega)
    (fun q hq h => by have := hflc q h; omega)
  rw [hs3] at hc
  refine hc.mono ?_
  rintro e w5 ⟨B3, hBl3, hBu3, hK3, hkp3, g3, A3, c3, rfl, hblk3, hg3, hrd3, hc3⟩
  have hzz3 := hkp3.size
  have hgl2 := HA2.out.lt
  simp only [World.size_alloc] at hzz3
  have hB3 : Below w.heap.size w w5 := by
    have h1 : Below w.heap.size w w2 := HB1.out.trans (HB2.out.mono (by omega))
    have h2 : Below w.heap.size w w3 := (h1.alloc (by omega) _).trans (HP1.out.below (by simp; omega) fun q hq hS => by have := hge0 q hS; omega)
    have h3 : Below w.heap.size w w4 := (h2.alloc (by omega) _).trans (HP2.out.below (by simp; omega) fun q hq hS => by have := hge1 q hS; omega)
    exact (h3.alloc (by omega) _).trans (hkp3.below (by simp; omega) fun q hq hS => by have := hge2 q hS; omega)
  have HB5 := Lib.hid hB3
  have ha1 := (HA12.out.alloc (.cells #[.int .i64 0, .int .i64 1, .int .i64 4, .int .i64 0] 3)).keep hkp3 hng1
  have ha2 := (HA2.out.alloc (.cells #[.int .i64 0, .int .i64 1, .int .i64 4, .int .i64 0] 3)).keep hkp3 fun h => by have := hflc g2 h; omega
  have HKd := Lib.hid hK3
  have HA := Lib.hid (And.intro ha1 (And.intro ha2 hblk3))
  have hlk : lookR K2.regs 0 = rb := by rw [hregsc]; rfl
  have hgl3 := hblk3.lt
  clear ha1 ha2 hblk3 hrd3 hkp3 hc hK3 hB3
  go_wp2_with fail
  have hreg := register_any k _ K2 0 w5 HKd.out (by rw [hlk]; simp [rb])
  rw [hlk] at hreg
  refine hreg.mono ?_
  rintro e w6 ⟨A', c', rfl, hlen, hrd, hb6⟩
  obtain ⟨gv, ov, rfl, hgv, _, hcv⟩ := hrd.at_ (j := 0) (by simp [rb])
  have v0 := hcv 0 (.int .i64 7) rfl
  simp only [Nat.add_zero] at v0
  have HB6 := Lib.hid hb6
  obtain ⟨a0, a1, a2, a3, a4, a5, af⟩ := (HA.out.1.below hb6 (by omega)).cells6
  obtain ⟨b0, b1, b2, b3, b4, b5, bf⟩ := (HA.out.2.1.below hb6 (by omega)).cells6
  obtain ⟨d0, d1, d2, d3, d4, d5, df⟩ := (HA.out.2.2.below hb6 hgl3).cells6
  have hz6 := hb6.size
  have l1 : g1 < w6.heap.size := by omega
  have l2 : g2 < w6.heap.size := by omega
  have l3 : g3 < w6.heap.size := by omega
  clear hb6 hrd hcv hreg
  go_wp2_with fail
  refine (rows_any k _ K2 _ (HKd.out.below (HB6.out.alloc (by omega) _))).mono ?_
  rintro e w7 ⟨rfl, rfl⟩
  rw [hrow2]
  go_wp2_with fail
  go_ret
  exact ⟨by simp, (HB5.out.trans (HB6.out.mono (by omega))).alloc (by omega) _⟩
end Go.Proofs.YtepflhniomineaaGreat
