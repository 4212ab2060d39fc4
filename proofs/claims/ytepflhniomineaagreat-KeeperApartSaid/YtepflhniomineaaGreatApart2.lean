/- KeeperApart: the walk. -/
import Derived.Test.YtepflhniomineaaGreatApart1
import Derived.Test.YtepflhniomineaaGreatSame
import Derived.Test.YtepflhniomineaaGreatNone1
import Derived.Test.YtepflhniomineaaGreatOpenArgs
import Derived.Deep.CutRange
import Derived.Deep.RegionHeld3
namespace Go.Proofs.YtepflhniomineaaGreat
open Go.RowKit
/-- What holds at a round's head. -/
structure ApartI (w wr : World) (ka kb : Nat) (key : Int) (k : Nat) (fpa fpb : Nat → Prop) (Ka Kb : KeeperM) : Prop where
  below : Below w.heap.size w wr
  ra : KeeperR wr ka fpa Ka
  rb : KeeperR wr kb fpb Kb
  geA : ∀ q, fpa q → w.heap.size ≤ q ∧ q < wr.heap.size
  geB : ∀ q, fpb q → w.heap.size ≤ q ∧ q < wr.heap.size
  dis : ∀ q, fpa q → ¬ fpb q
  na : Ka.node = 1
  nb : Kb.node = 1
  ca : Ka.calm k
  cb : Kb.calm k
  oa : Ka.ok
  ob : Kb.ok
  same : lookR Ka.regs key = lookR Kb.regs key
theorem KeeperR.fpl {w : World} {k : Nat} {fp : Nat → Prop} {K : KeeperM} (h : KeeperR w k fp K) : ∀ q, fp q → q < w.heap.size := by
  obtain ⟨_, _, _, _, _, _, _, _, _, _, _, _, _, _, h⟩ := h
  exact h
theorem apart_start {w w1 w2 w3 w4 w5 : World} {ka kb : Nat} {key : Int} (h1 : Below w.heap.size w w1)
    (e2 : w2 = w1.alloc (.cells (tapeCells (.slice none 0 0) (.int .i64 0) (.int .i64 0) ⟨false, 0, false, 0, false⟩) 146))
    (h3 : KeeperR w3 ka (newFp (· = w1.heap.size) w2 w3) ⟨1, ⟨⟨[], 0, ⟨false, 0, false, 0, false⟩⟩, 0, w1.heap.size⟩, []⟩) (b3 : Below w2.heap.size w2 w3)
    (e4 : w4 = w3.alloc (.cells (tapeCells (.slice none 0 0) (.int .i64 0) (.int .i64 0) ⟨false, 0, false, 0, false⟩) 146))
    (h5 : KeeperR w5 kb (newFp (· = w3.heap.size) w4 w5) ⟨1, ⟨⟨[], 0, ⟨false, 0, false, 0, false⟩⟩, 0, w3.heap.size⟩, []⟩) (b5 : Below w4.heap.size w4 w5) :
    ApartI w w5 ka kb key 0 (newFp (· = w1.heap.size) w2 w3) (newFp (· = w3.heap.size) w4 w5) ⟨1, ⟨⟨[], 0, ⟨false, 0, false, 0, false⟩⟩, 0, w1.heap.size⟩, []⟩ ⟨1, ⟨⟨[], 0, ⟨false, 0, false, 0, false⟩⟩, 0, w3.heap.size⟩, []⟩ := by
  have z1 := h1.size
  have z2 : w2.heap.size = w1.heap.size + 1 := by subst e2; simp
  have z3 := b3.size
  have z4 : w4.heap.size = w3.heap.size + 1 := by subst e4; simp
  have z5 := b5.size
  have b12 : Below w1.heap.size w1 w2 := by subst e2; exact (Below.refl _ _).alloc (Nat.le_refl _) _
  have b34 : Below w3.heap.size w3 w4 := by subst e4; exact (Below.refl _ _).alloc (Nat.le_refl _) _
  have b35 : Below w3.heap.size w3 w5 := bstep b34 b5
  have calm : ∀ t, (⟨1, ⟨⟨[], 0, ⟨false, 0, false, 0, false⟩⟩, 0, t⟩, []⟩ : KeeperM).calm 0   := fun _ => ⟨rfl, by simp, Nat.le_refl _⟩
  have ok : ∀ t, (⟨1, ⟨⟨[], 0, ⟨false, 0, false, 0, false⟩⟩, 0, t⟩, []⟩ : KeeperM).ok   := fun _ p hp => by simp at hp
  refine ⟨bstep (bstep (bstep h1 b12) b3) b35, h3.below b35, h5, fun q hq => ?_, fun q hq => ?_, fun q hq hq' => ?_, rfl, rfl, calm _, calm _, ok _, ok _, rfl⟩
  · rcases hq with hq | hq
    · have hq : q = w1.heap.size := hq
      omega
    · omega
  · rcases hq with hq | hq
    · have hq : q = w3.heap.size := hq
      omega
    · omega
  · have hq : q = w1.heap.size ∨ (w2.heap.size ≤ q ∧ q < w3.heap.size) := hq
    have hq' : q = w3.heap.size ∨ (w4.heap.size ≤ q ∧ q < w5.heap.size) := hq'
    omega
/-- Behind a note's box: all as it was. -/
theorem ApartI.box {w wr W : World} {ka kb : Nat} {key : Int} {k : Nat} {fpa fpb : Nat → Prop} {Ka Kb : KeeperM} (h : ApartI w wr ka kb key k fpa fpb Ka Kb) (hb : Below wr.heap.size wr W) : ApartI w W ka kb key k fpa fpb Ka Kb :=
  ⟨bstep h.below hb, h.ra.below hb, h.rb.below hb, fun q hq => ⟨(h.geA q hq).1, Nat.lt_of_lt_of_le (h.geA q hq).2 hb.size⟩, fun q hq => ⟨(h.geB q hq).1, Nat.lt_of_lt_of_le (h.geB q hq).2 hb.size⟩, h.dis, h.na, h.nb, h.ca, h.cb, h.oa, h.ob, h.same⟩
/-- Behind the first keeper's Handle. -/
theorem ApartI.first {w W w2 : World} {ka kb B : Nat} {key : Int} {k : Nat} {fpa fpb : Nat → Prop} {Ka Kb Ka' : KeeperM} (h : ApartI w W ka kb key k fpa fpb Ka Kb) (_ : W.heap.size ≤ B) (hB2 : B ≤ w2.heap.size)
    (hr : KeeperR w2 ka (fun q => fpa q ∨ (W.heap.size ≤ q ∧ q < B)) Ka') (hk : Keep fpa W w2) (hc : Ka'.calm (k + 1)) (hn : Ka'.node = Ka.node) (ho : Ka'.ok) (hs : lookR Ka'.regs key = lookR Kb.regs key) :
    ApartI w w2 ka kb key (k + 1) (fun q => fpa q ∨ (W.heap.size ≤ q ∧ q < B)) fpb Ka' Kb := by
  have hz := h.below.size
  refine ⟨h.below.trans (hk.below hz fun q hq hS => by have := h.geA q hS; omega), hr, h.rb.keep hk fun q hq hS => h.dis q hS hq, fun q hq => ?_, fun q hq => ⟨(h.geB q hq).1, Nat.lt_of_lt_of_le (h.geB q hq).2 hk.size⟩, fun q hq hq' => ?_,
    hn.trans h.na, h.nb, hc, h.cb.mono (by omega), ho, h.ob, hs⟩
  · rcases hq with hq | hq
    · exact ⟨(h.geA q hq).1, Nat.lt_of_lt_of_le (h.geA q hq).2 hk.size⟩
    · omega
  · rcases hq with hq | hq
    · exact h.dis q hq hq'
    · have := h.geB q hq'; omega
theorem ApartI.second {w W w2 : World} {ka kb B : Nat} {key : Int} {k : Nat} {fpa fpb : Nat → Prop} {Ka Kb Kb' : KeeperM} (hra : KeeperR W ka fpa Ka) (_ : KeeperR W kb fpb Kb) (hbl : Below w.heap.size w W) (hga : ∀ q, fpa q → w.heap.size ≤ q ∧ q < W.heap.size) (hgb : ∀ q, fpb q → w.heap.size ≤ q ∧ q < W.heap.size)
    (hd : ∀ q, fpa q → ¬ fpb q) (hna : Ka.node = 1) (hca : Ka.calm k) (hoa : Ka.ok) (_ : W.heap.size ≤ B) (hB2 : B ≤ w2.heap.size)
    (hr : KeeperR w2 kb (fun q => fpb q ∨ (W.heap.size ≤ q ∧ q < B)) Kb') (hk : Keep fpb W w2) (hc : Kb'.calm k) (hn : Kb'.node = 1) (ho : Kb'.ok) (hs : lookR Ka.regs key = lookR Kb'.regs key) :
    ApartI w w2 ka kb key k fpa (fun q => fpb q ∨ (W.heap.size ≤ q ∧ q < B)) Ka Kb' := by
  have hz := hbl.size
  refine ⟨hbl.trans (hk.below hz fun q hq hS => by have := hgb q hS; omega), hra.keep hk fun q hq hS => hd q hq hS, hr, fun q hq => ⟨(hga q hq).1, Nat.lt_of_lt_of_le (hga q hq).2 hk.size⟩, fun q hq => ?_, fun q hq hq' => ?_,
    hna, hn, hca, hc, hoa, ho, hs⟩
  · rcases hq with hq | hq
    · exact ⟨(hgb q hq).1, Nat.lt_of_lt_of_le (hgb q hq).2 hk.size⟩
    · omega
  · rcases hq' with hq' | hq'
    · exact hd q hq hq'
    · have := hga q hq; omega
/-- What an answer's slice holds. -/
def AnsIs (o : Option (Int × List Int)) (from_ dest : Int) (B : Nat) (w : World) (A : Option Addr) (l c : Nat) : Prop :=
  match o with
  | none => A = none ∧ l = 0 ∧ c = 0
  | some (kd, nums) => ∃ g A' c', A = some ⟨g, 0, none⟩ ∧ l = 1 ∧ c = 1 ∧ Blk w g 30 #[.int .i64 kd, .int .i64 from_, .int .i64 dest, .slice A' nums.length c', .slice none 0 0, .slice none 0 0] ∧ B ≤ g ∧
      Rd w (fun q => B ≤ q) 3 A' (nums.map (Value.int .i64))
theorem NoteOpt.ans {o : Option (Int × List Int)} {from_ dest : Int} {B : Nat} {e : Ending} {w : World} (h : NoteOpt o from_ dest B e w) : ∃ A l c, e = .returned (.slice A l c) ∧ l ≤ 1 ∧ AnsIs o from_ dest B w A l c := by
  cases o with
  | none => exact ⟨none, 0, 0, h, by omega, rfl, rfl, rfl⟩
  | some q =>
    obtain ⟨kd, nums⟩ := q
    obtain ⟨g, A', c', h1, h2, h3, h4, _⟩ := h
    exact ⟨some ⟨g, 0, none⟩, 1, 1, h1, by omega, g, A', c', rfl, rfl, rfl, h2, h3, h4⟩
theorem AnsIs.keep {o : Option (Int × List Int)} {from_ dest : Int} {B : Nat} {w w' : World} {S : Nat → Prop} {A : Option Addr} {l c : Nat} (h : AnsIs o from_ dest B w A l c) (hk : Keep S w w') (hn : ∀ q, B ≤ q → ¬ S q) : AnsIs o from_ dest B w' A l c := by
  cases o with
  | none => exact h
  | some q =>
    obtain ⟨kd, nums⟩ := q
    obtain ⟨g, A', c', h1, h2, h3, h4, h5, h6⟩ := h
    exact ⟨g, A', c', h1, h2, h3, h4.keep hk (hn g h5), h5, h6.keep hk fun q _ hq => hn q hq⟩
def NoteM.dest1 (n : NoteM) : NoteM := ⟨n.kind, n.from_, 1, n.nums, n.ops, n.nent⟩
theorem NoteM.dest1_small {n : NoteM} (h : n.small) : n.dest1.small := ⟨h.1, h.2.1, h.2.2.1, by unfold In64 NoteM.dest1; simp, h.2.2.2.2⟩
/-- What is known of the notes that came in. -/
def NotesIn (w : World) (A : Option Addr) (l : Nat) (n : Nat → NoteM) (p : Nat → NoteAt) : Prop :=
  ∀ i, i < l → NoteR w (fun q => q < w.heap.size) (n i) (p i) ∧ (n i).small ∧ (n i).nums.length ≤ (p i).cn ∧
    ∃ g off, A = some ⟨g, off, none⟩ ∧ g < w.heap.size ∧ ∀ j u, ((n i).cells (p i))[j]? = some u → w.cell? ⟨g, off + (i * 6 + j), none⟩ = some u
set_option maxRecDepth 100000 in
set_option maxHeartbeats 8000000 in
theorem apart_many (A : Option Addr) (l c : Nat) (key : Int) (w : World) (hl : 150 < l) : Calls Tryz.prog 8 #[.slice A l c, .int .i64 key] w (BoolIs true w) := by
  have hl' : (150 : Int) < (l : Int) := by omega
  go_enter Tryz.func8, Tryz.ntmps8
  go_wp2_with fail
  refine (alive_any _).mono ?_
  rintro e w1 ⟨rfl, hb1⟩
  have HB1 := Lib.hid hb1
  clear hb1
  go_wp2_with fail
  go_ret
  exact ⟨by simp, HB1.out⟩
set_option maxRecDepth 100000 in
set_option maxHeartbeats 8000000 in
theorem apart_any (A : Option Addr) (l c : Nat) (key : Int) (n : Nat → NoteM) (p : Nat → NoteAt) (w : World) (hl : l ≤ 150) (hn : NotesIn w A l n p) : Calls Tryz.prog 8 #[.slice A l c, .int .i64 key] w (BoolIs true w) := by
  have hl' : ¬ (150 : Int) < (l : Int) := by omega
  have HN := Lib.hid hn
  clear hn
  go_enter Tryz.func8, Tryz.ntmps8
  go_wp2_with fail
  refine (alive_any _).mono ?_
  rintro e w1 ⟨rfl, hb1⟩
  have HB1 := Lib.hid hb1
  clear hb1
  go_wp2_with fail
  refine (tnew_any _).mono ?_
  rintro e w2 ⟨rfl, hw2⟩
  have HW2 := Lib.hid hw2.symm
  have hT := tape_new w1
  rw [hw2] at hT
  clear hw2
  go_wp2_with fail
  refine (kopen_empty 1 w1.heap.size _ _ _ hT rfl rfl (by omega) (by omega)).mono ?_
  rintro e w3 ⟨ka, rfl, hKa, hb3⟩
  have HKA := Lib.hid hKa
  have HB3 := Lib.hid hb3
  clear hKa hb3 hT
  go_wp2_with fail
  refine (tnew_any _).mono ?_
  rintro e w4 ⟨rfl, hw4⟩
  have HW4 := Lib.hid hw4.symm
  have hT := tape_new w3
  rw [hw4] at hT
  clear hw4
  go_wp2_with fail
  refine (kopen_empty 1 w3.heap.size _ _ _ hT rfl rfl (by omega) (by omega)).mono ?_
  rintro e w5 ⟨kb, rfl, hKb, hb5⟩
  have HI0 := fun key' => apart_start (key := key') HB1.out HW2.out HKA.out HB3.out HW4.out hKb hb5
  generalize hK0 : (⟨1, ⟨⟨[], 0, ⟨false, 0, false, 0, false⟩⟩, 0, w1.heap.size⟩, []⟩ : KeeperM) = Ka0 at HI0
  generalize hK1 : (⟨1, ⟨⟨[], 0, ⟨false, 0, false, 0, false⟩⟩, 0, w3.heap.size⟩, []⟩ : KeeperM) = Kb0 at HI0
  generalize newFp (· = w1.heap.size) w2 w3 = fpa0 at HI0
  generalize newFp (· = w3.heap.size) w4 w5 = fpb0 at HI0
  have HI := Lib.hid HI0
  clear hKb hb5 hT HI0 HKA HB3 HW4 HW2 HB1 hK0 hK1
  go_wp2_with fail
  generalize wrap64 ((IntKind.u64.wrap key).tmod 4) = key'
  have HI1 := Lib.hid (HI.out key')
  clear HI
  go_loopw [40] (fun i wr => ∃ (k : Nat) (fpa fpb : Nat → Prop) (Ka Kb : KeeperM), k ≤ l ∧ i = .int .i64 k ∧ Hid (ApartI w wr ka kb key' k fpa fpb Ka Kb)) (fun i _ => l - (intOf i).toNat)
  case atStart => exact ⟨0, fpa0, fpb0, Ka0, Kb0, Nat.zero_le _, rfl, HI1.out⟩
  case round =>
    obtain ⟨k, fpa, fpb, Ka, Kb, hk, rfl, HR⟩ := hrel
    clear HI1
    by_cases hlt : k < l
    · obtain ⟨hnr, hsm, hcn, g, off, rfl, hgl, hgc⟩ := HN.out k hlt
      have cell : ∀ j u, ((n k).cells (p k))[j]? = some u → wr.cell? ⟨g, off + k * 6 + j, none⟩ = some u := fun j u hu => by
        rw [Nat.add_assoc]
        exact (HR.out.below.cell hgl).trans (hgc j u hu)
      generalize n k = nk at hnr hsm hcn hgc cell
      generalize p k = pk at hnr hcn hgc cell
      obtain ⟨an, cn, ao, co, ae, ce⟩ := pk
      obtain ⟨c0, c1, c2, c3, c4, c5⟩ : wr.cell? ⟨g, off + k * 6, none⟩ = some (.int .i64 nk.kind) ∧ wr.cell? ⟨g, off + k * 6 + 1, none⟩ = some (.int .i64 nk.from_) ∧ wr.cell? ⟨g, off + k * 6 + 2, none⟩ = some (.int .i64 nk.to) ∧
          wr.cell? ⟨g, off + k * 6 + 3, none⟩ = some (.slice an nk.nums.length cn) ∧ wr.cell? ⟨g, off + k * 6 + 4, none⟩ = some (.slice ao nk.ops.length co) ∧ wr.cell? ⟨g, off + k * 6 + 5, none⟩ = some (.slice ae nk.nent ce) :=
        ⟨cell 0 _ rfl, cell 1 _ rfl, cell 2 _ rfl, cell 3 _ rfl, cell 4 _ rfl, cell 5 _ rfl⟩
      have HS := Lib.hid (And.intro hnr (And.intro hsm hcn))
      have hgr : g < wr.heap.size := Nat.lt_of_lt_of_le hgl HR.out.below.size
      have hli : (k : Int) < (l : Int) := by omega
      clear cell hgc hnr hsm hcn hgl
      by_cases h100 : 100 < nk.nums.length
      · have h100' : (100 : Int) < (nk.nums.length : Int) := by omega
        go_wp2_with fail
        go_ret
        exact ⟨by simp, HR.out.below.alloc HR.out.below.size _⟩
      · have h100' : ¬ (100 : Int) < (nk.nums.length : Int) := by omega
        have HBX := Lib.hid (HR.out.box (W := wr.alloc (.cells #[.int .i64 nk.kind, .int .i64 nk.from_, .int .i64 1, .slice an nk.nums.length cn, .slice ao nk.ops.length co, .slice ae nk.nent ce] 30)) ((Below.refl _ _).alloc (Nat.le_refl _) _))
        have HM := Lib.hid (handle_calm HR.out.ca (by omega) HR.out.oa nk.dest1 HS.out.2.1.1)
        have HM2 := Lib.hid (handle_calm HR.out.cb (by omega) HR.out.ob nk.dest1 HS.out.2.1.1)
        have HNR := Lib.hid (HS.out.1.below HBX.out.below)
        have ha := handle_all ka fpa (fun q => q < w.heap.size) Ka nk.dest1 ⟨an, cn, ao, co, ae, ce⟩ _ HBX.out.ra ⟨HNR.out.nums, HNR.out.ops⟩ (NoteM.dest1_small HS.out.2.1) HBX.out.na.symm HS.out.2.2 HBX.out.oa (by have := HBX.out.ca.rows; omega)
          (fun q hq hf => by have := (HBX.out.geA q hf).1; omega)
        have HA := Lib.hid ha
        clear ha
        have hfa : ¬ fpa wr.heap.size := fun h => by have := (HR.out.geA _ h).2; omega
        have hfb : ¬ fpb wr.heap.size := fun h => by have := (HR.out.geB _ h).2; omega
        go_wp2_with fail
        refine HA.out.mono ?_
        rintro e w6 ⟨B, hB1, hB2, hr, hkp, ho⟩
        obtain ⟨A1, l1, d1, rfl, hl1, hans⟩ := ho.ans
        have HR6 := Lib.hid (And.intro hr (And.intro hkp hans))
        have HB6 := Lib.hid (And.intro hB1 hB2)
        have hbk := (Blk.new wr 30 #[.int .i64 nk.kind, .int .i64 nk.from_, .int .i64 1, .slice an nk.nums.length cn, .slice ao nk.ops.length co, .slice ae nk.nent ce]).keep hkp hfa
        obtain ⟨b0, b1, b2, b3, b4, b5, bf⟩ := hbk.cells6
        have HBK := Lib.hid hbk
        have hz6 : w.heap.size ≤ w6.heap.size := by have := HBX.out.below.size; omega
        clear hr hkp ho hans hbk HA hB1 hB2
        by_cases hz : nk.nums.length = 0
        · have hz' : ((nk.nums.length : Int) == 0) = true := by simpa using hz
          have HF := Lib.hid (HBX.out.first HB6.out.1 HB6.out.2 HR6.out.1 HR6.out.2.1 HM.out.1 HM.out.2.2.1 HM.out.2.1 (by
            rw [HM.out.2.2.2.1 key' (by
              have : nk.nums = [] := List.eq_nil_of_length_eq_zero hz
              show nk.nums.head? ≠ some key'
              rw [this]; simp)]
            exact HR.out.same))
          clear hz
          go_wp2_with fail
          go_roundw
          case rel => exact ⟨k + 1, _, _, _, _, by omega, by go_num, HF.out⟩
          case measure => simp [intOf]; omega
        · have hz' : ((nk.nums.length : Int) == 0) = false := by simpa using hz
          have hzp : (0 : Int) < (nk.nums.length : Int) := by omega
          obtain ⟨x, rest, hnum⟩ : ∃ x rest, nk.nums = x :: rest := by
            cases h : nk.nums with
            | nil => rw [h] at hz; simp at hz
            | cons x rest => exact ⟨x, rest, rfl⟩
          have HX := Lib.hid hnum
          obtain ⟨gn, on, rfl, hgn, _, hgc⟩ := HS.out.1.nums.at_ (j := 0) (by simp; omega)
          have HB06 : Hid (Below w.heap.size w w6) := HBX.out.below.trans (HR6.out.2.1.below HBX.out.below.size fun q hq hf => by have := (HBX.out.geA q hf).1; omega)
          have n0 : w6.cell? ⟨gn, on, none⟩ = some (.int .i64 x) := (HB06.out.cell hgn).trans (by
            have := hgc 0 (.int .i64 x) (by simp [hnum])
            simpa using this)
          clear hgc hz hnum
          by_cases hx : x = key'
          · subst hx
            have hxb : (x != x) = false := by simp
            have hb := handle_all kb fpb (fun q => q < w.heap.size) Kb nk.dest1 ⟨some ⟨gn, on, none⟩, cn, ao, co, ae, ce⟩ w6 (HBX.out.rb.keep HR6.out.2.1 fun q hq hS => HBX.out.dis q hS hq) (by
                have := HS.out.1.below HB06.out
                exact ⟨this.nums, this.ops⟩) (NoteM.dest1_small HS.out.2.1) HBX.out.nb.symm HS.out.2.2 HBX.out.ob (by have := HBX.out.cb.rows; omega)
              (fun q hq hf => by have := (HBX.out.geB q hf).1; omega)
            have HA := Lib.hid hb
            clear hb
            go_wp2_with fail
            refine HA.out.mono ?_
            rintro e w7 ⟨B', hB1, hB2, hr, hkp, ho⟩
            obtain ⟨A2, l2, d2, rfl, hl2, hans⟩ := ho.ans
            have hhead : nk.dest1.nums.head? = some x := by
              show nk.nums.head? = some x
              rw [HX.out]; rfl
            have HF := Lib.hid (ApartI.second (w := w) (k := k + 1) HR6.out.1 (HBX.out.rb.keep HR6.out.2.1 fun q hq hS => HBX.out.dis q hS hq) HB06.out (fun q hq => by
                rcases hq with hq | hq
                · have := HBX.out.geA q hq; have := HB6.out; omega
                · have := HB6.out; have := HBX.out.below.size; omega) (fun q hq => by have := HBX.out.geB q hq; have := HB6.out; omega) (fun q hq hq' => by
                rcases hq with hq | hq
                · exact HBX.out.dis q hq hq'
                · have := HBX.out.geB q hq'; omega) (HM.out.2.2.1.trans HR.out.na) HM.out.1 HM.out.2.1 hB1 hB2 hr hkp HM2.out.1 (HM2.out.2.2.1.trans HR.out.nb) HM2.out.2.1 (by
                rw [(HM.out.2.2.2.2 x hhead).2, (HM2.out.2.2.2.2 x hhead).2, HR.out.same]))
            have hbB : ∀ q, B ≤ q → ¬ fpb q := fun q hq hS => by have := HBX.out.geB q hS; have := HB6.out; omega
            have h1 := HR6.out.2.2.keep hkp hbB
            rw [(HM.out.2.2.2.2 x hhead).1, HR.out.same] at h1
            rw [(HM2.out.2.2.2.2 x hhead).1] at hans
            have hlen : ∀ q, ((lookR Kb.regs x).handle nk.dest1).2 = some q → q.2.length ≤ 39 := fun q hq => Reg.handle_len (HR.out.ob.look x).2 hq
            generalize ((lookR Kb.regs x).handle nk.dest1).2 = o at h1 hans hlen
            clear hr hkp ho hbB HA hB1 hB2 b0 b1 b2 b3 b4 b5 bf n0
            cases o with
            | none =>
              obtain ⟨rfl, rfl, rfl⟩ := h1
              obtain ⟨rfl, rfl, rfl⟩ := hans
              clear hlen
              go_wp2_with fail
              go_quiet (fail)
              go_wp2_with fail
              go_roundw
              case rel => exact ⟨k + 1, _, _, _, _, by omega, by go_num, HF.out.box (below_drewN (Below.refl _ _) _)⟩
              case measure => simp [intOf]; omega
            | some q =>
              obtain ⟨kd, nums⟩ := q
              have hlen := hlen _ rfl
              obtain ⟨g1, A1', c1', rfl, rfl, rfl, k1, _, r1⟩ := h1
              obtain ⟨g2, A2', c2', rfl, rfl, rfl, k2, _, r2⟩ := hans
              obtain ⟨a0, a1, a2, a3, a4, a5, af⟩ := k1.cells6
              obtain ⟨e0, e1, e2, e3, e4, e5, ef⟩ := k2.cells6
              have hg1 := k1.lt
              have hg2 := k2.lt
              have HRR := Lib.hid (And.intro r1 r2)
              clear k1 k2 r1 r2
              go_wp2_with fail
              go_region_held3 (fun w' => ∀ q : Addr, q.block < w7.heap.size → w'.cell? q = w7.cell? q)
                (first | (intro q hq; simp only [World.cell?_drew]) | (intro q hq; exact hb8.cell (by simpa using hq)) | go_keep)
                (first | (go_at_call 14; refine (same05_eq _ _ kd nk.dest1.to nk.dest1.from_ nums A1' A2' c1' c2' _ HRR.out.1.drew HRR.out.2.drew (by omega)).mono ?_; rintro e w8 ⟨rfl, hb8⟩))
              go_wp2_with fail
              go_roundw
              case rel => exact ⟨k + 1, _, _, _, _, by omega, by go_num, HF.out.box (bstep (Below.refl _ w7).drew hb8)⟩
              case measure => simp [intOf]; omega
          · have hxb : (x != key') = true := by simpa using hx
            have HF := Lib.hid (HBX.out.first HB6.out.1 HB6.out.2 HR6.out.1 HR6.out.2.1 HM.out.1 HM.out.2.2.1 HM.out.2.1 (by
              rw [HM.out.2.2.2.1 key' (by
                show nk.nums.head? ≠ some key'
                rw [HX.out]
                simpa using hx)]
              exact HR.out.same))
            clear hx
            go_wp2_with fail
            go_roundw
            case rel => exact ⟨k + 1, _, _, _, _, by omega, by go_num, HF.out⟩
            case measure => simp [intOf]; omega
    · have hkn : k = l := by omega
      subst hkn
      have hla := (HR.out.oa.look key').2
      have hlb := (HR.out.ob.look key').2
      have HSE : Hid ((lookR Ka.regs key').sameB (lookR Kb.regs key') = true) := (Reg.sameB_iff _ _).2 HR.out.same
      go_wp2_with fail
      refine (register_any ka fpa Ka key' _ HR.out.ra (by omega)).mono ?_
      rintro e w6 ⟨A1, d1, rfl, _, hr1, hb1⟩
      have HR1 := Lib.hid (And.intro hr1 hb1)
      clear hr1 hb1
      go_wp2_with fail
      refine (register_any kb fpb Kb key' _ (HR.out.rb.below HR1.out.2) (by omega)).mono ?_
      rintro e w7 ⟨A2, d2, rfl, _, hr2, hb2⟩
      have HR2 := Lib.hid (And.intro hr2 hb2)
      clear hr2 hb2
      go_wp2_with fail
      have h9 := same09_any _ _ (lookR Ka.regs key') (lookR Kb.regs key') A1 A2 d1 d2 w7 (HR1.out.1.below HR2.out.2) HR2.out.1 (by omega) (by omega)
      rw [HSE.out] at h9
      refine h9.mono ?_
      rintro e w8 ⟨rfl, hb8⟩
      have HB8 := Lib.hid hb8
      clear hb8 h9
      go_wp2_with fail
      go_ret
      exact ⟨by simp, bstep (bstep (bstep HR.out.below HR1.out.2) HR2.out.2) HB8.out⟩
end Go.Proofs.YtepflhniomineaaGreat
