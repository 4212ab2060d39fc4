/- note.Check, joined. -/
import Derived.Test.YtepflhniomineaaGreatNote4
import Derived.Test.YtepflhniomineaaGreatNote5
import Derived.Test.YtepflhniomineaaGreatNote6
namespace Go.Proofs.YtepflhniomineaaGreat
open Go.RowKit
theorem ncheck_any (F : Nat → Prop) (n : NoteM) (p : NoteAt) (w : World) (h : NoteR w F n p) (hs : n.small) : Calls Tryz.prog 69 #[n.v p] w (ErrIs n.err w) := by
  by_cases hok : n.ok1 = true ∧ n.ok2 = true
  · by_cases a9 : 16 < n.ops.length
    · exact ncheck_B F n p w h hs hok a9
    · by_cases a10 : 0 < n.ops.length
      · by_cases hk : n.kind = 7
        · have h3 : n.ok3 = true := by simp [NoteM.ok3, hk]; omega
          by_cases a12 : 16 < n.nent
          · exact ncheck_C2 F n p w h hs hok a9 a10 hk a12 (by simp [NoteM.err, NoteM.good, NoteM.ok4, Nat.not_le.2 a12])
          · by_cases a13 : 0 < n.nent
            · exact ncheck_D1 F n p w h hs hok a9 a10 hk a12 a13 (by omega) (by simp [NoteM.err, NoteM.good, NoteM.ok4, hk, Nat.pos_iff_ne_zero.1 a13])
            · have a13' : n.nent = 0 := by omega
              cases hbad : n.ops.any OpM.bad
              · exact ncheck_D2 F n p w h hs hok a9 a10 hk a12 a13 hbad (by simp only [NoteM.err, NoteM.good, hok.1, hok.2, h3, hbad]; simp [NoteM.ok4, a13'])
              · exact ncheck_D3 F n p w h hs hok a9 a10 hk a12 a13 hbad (by simp only [NoteM.err, NoteM.good, hbad]; simp)
        · exact ncheck_C1 F n p w h hs hok a9 a10 hk (by simp [NoteM.err, NoteM.good, NoteM.ok3, hk, Nat.pos_iff_ne_zero.1 a10])
      · have a10' : n.ops.length = 0 := by omega
        have h3 : n.ok3 = true := by simp [NoteM.ok3, a10']
        have hbad : n.ops.any OpM.bad = false := by rw [List.eq_nil_of_length_eq_zero a10']; rfl
        by_cases a12 : 16 < n.nent
        · exact ncheck_C3 F n p w h hs hok a9 a10 a12 (by simp [NoteM.err, NoteM.good, NoteM.ok4, Nat.not_le.2 a12])
        · by_cases a13 : 0 < n.nent
          · by_cases hk8 : n.kind = 8
            · exact ncheck_E1 F n p w h hs hok a9 a10 a12 a13 hk8 hbad (by simp only [NoteM.err, NoteM.good, hok.1, hok.2, h3, hbad]; simp [NoteM.ok4, hk8]; omega)
            · exact ncheck_E2 F n p w h hs hok a9 a10 a12 a13 hk8 (by simp [NoteM.err, NoteM.good, NoteM.ok4, hk8, Nat.pos_iff_ne_zero.1 a13])
          · have a13' : n.nent = 0 := by omega
            exact ncheck_E3 F n p w h hs hok a9 a10 a12 a13 hbad (by simp only [NoteM.err, NoteM.good, hok.1, hok.2, h3, hbad]; simp [NoteM.ok4, a13'])
  · exact ncheck_A F n p w h hs hok
end Go.Proofs.YtepflhniomineaaGreat
