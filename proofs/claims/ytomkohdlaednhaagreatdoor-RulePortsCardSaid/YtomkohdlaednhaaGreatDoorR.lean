import Derived.Test.YtomkohdlaednhaaGreatDoorD
set_option linter.unusedSimpArgs false
set_option linter.unusedVariables false
namespace Go.Proofs.YtomkohdlaednhaaGreatDoor
open Go.RowKit Go.Proofs.YtomkohdlaednhaaGreatDoorW.PrintWords PConfParses

/-! ### what the printed functions come to -/
theorem bt_get (s : ByteArray) (i : Nat) : bt s (i : Int) = ((s.data.toList[i]?.getD 0).toNat : Int) := by
  unfold bt
  split
  · rename_i h
    have h' : i < s.data.toList.length := by rw [← Lib.size_eq]; simpa using h
    rw [List.getElem?_eq_getElem h']
    rfl
  · rename_i h
    have h' : s.data.toList.length ≤ i := by rw [← Lib.size_eq]; simpa using h
    rw [List.getElem?_eq_none h']
    rfl
theorem drop_at {l : List UInt8} {i : Nat} (h : i < l.length) : l.drop i = l[i]?.getD 0 :: l.drop (i + 1) := by
  rw [List.drop_eq_getElem_cons h, List.getElem?_eq_getElem h]; rfl
theorem w_succ (i : Nat) (h : i < 9223372036854775807) : wrap64 ((i : Int) + 1) = ((i + 1 : Nat) : Int) := by unfold wrap64; omega
theorem w_dig (acc b : Nat) (h : acc < 100000000) (h1 : 48 ≤ b) (h2 : b ≤ 57) : wrap64 ((wrap64 ((wrap64 (10 * (acc : Int))) + (wrap64 (b : Int)))) - 48) = ((acc * 10 + (b - 48) : Nat) : Int) := by
  have w1 : wrap64 (10 * (acc : Int)) = 10 * (acc : Int) := by unfold wrap64; omega
  have w2 : wrap64 (b : Int) = (b : Int) := by unfold wrap64; omega
  rw [w1, w2]
  have w3 : wrap64 (10 * (acc : Int) + (b : Int)) = 10 * (acc : Int) + (b : Int) := by unfold wrap64; omega
  rw [w3]
  unfold wrap64; omega
abbrev digF : Nat → UInt8 → Nat := fun a b => a * 10 + (b.toNat - 48)
theorem num_l0 (s : ByteArray) (most : Int) (hs : s.size ≤ 9) : ∀ (d k i acc : Nat), i + d = s.size → d < k → acc < 10 ^ i →
    castellanref3_Num.l0 k s most (acc : Int) (i : Int) = some (if (s.data.toList.drop i).all isDig then (((s.data.toList.drop i).foldl digF acc : Nat) : Int) else 0, (s.data.toList.drop i).all isDig && decide ((((s.data.toList.drop i).foldl digF acc : Nat) : Int) ≤ most)) := by
  intro d
  induction d with
  | zero =>
    intro k i acc hi hk ha
    obtain ⟨k, rfl⟩ : ∃ m, k = m + 1 := ⟨k - 1, by omega⟩
    have hd : s.data.toList.drop i = [] := List.drop_of_length_le (by rw [← Lib.size_eq]; omega)
    simp only [castellanref3_Num.l0]
    rw [if_neg (by omega), hd]
    simp [digF]
    try rfl
  | succ d ih =>
    intro k i acc hi hk ha
    obtain ⟨k, rfl⟩ : ∃ m, k = m + 1 := ⟨k - 1, by omega⟩
    have hlt : i < s.data.toList.length := by rw [← Lib.size_eq]; omega
    have hd := drop_at hlt
    have hb := bt_get s i
    generalize s.data.toList[i]?.getD 0 = b at *
    have hp : (10 : Nat) ^ i ≤ 10 ^ 8 := Nat.pow_le_pow_right (by omega) (by omega)
    have hp' : acc < 100000000 := by
      have : (10 : Nat) ^ 8 = 100000000 := by decide
      omega
    have hbl := b.toNat_lt
    simp only [castellanref3_Num.l0]
    rw [if_pos (by omega), if_pos (by omega), hb, hd]
    by_cases h1 : (b.toNat : Int) < 48
    · rw [if_pos h1]
      have : isDig b = false := by simp [isDig]; omega
      simp [this]
    · rw [if_neg h1]
      by_cases h2 : (b.toNat : Int) > 57
      · rw [if_pos h2]
        have : isDig b = false := by simp [isDig]; omega
        simp [this]
      · rw [if_neg h2]
        have hdg : isDig b = true := by simp [isDig]; omega
        have hacc : acc * 10 + (b.toNat - 48) < 10 ^ (i + 1) := by rw [Nat.pow_succ]; omega
        have e1 := w_dig acc b.toNat hp' (by omega) (by omega)
        have e2 := w_succ i (by omega)
        rw [e1, e2, ih k (i + 1) (acc * 10 + (b.toNat - 48)) (by omega) (by omega) hacc]
        simp only [List.all_cons, hdg, Bool.true_and, List.foldl_cons]
        rfl
theorem Num_eq (k : Nat) (hk : 12 ≤ k) (s : ByteArray) (most : Int) : castellanref3_Num.f k s most = some (numR 9 most s) := by
  obtain ⟨k, rfl⟩ : ∃ m, k = m + 12 := ⟨k - 12, by omega⟩
  unfold castellanref3_Num.f
  by_cases h1 : (s.size : Int) < 1
  · rw [if_pos h1]
    have : numOk 9 s = false := by
      have : ¬ 1 ≤ s.size := by omega
      simp [numOk, this]
    simp [castellanref3_Num.j0, numR, this]
  · rw [if_neg h1]
    by_cases h2 : (s.size : Int) > 9
    · rw [if_pos h2]
      have : numOk 9 s = false := numOk_long (by omega)
      simp [castellanref3_Num.j0, numR, this]
    · rw [if_neg h2]
      have hl0 := num_l0 s most (by omega) s.size (k + 11) 0 0 (by omega) (by omega) (by simp)
      have hne : ¬ s.toList = [] := by
        intro e
        have : s.size = 0 := by rw [Lib.size_eq, ← Lib.toList_data, e]; rfl
        omega
      have hfin : ¬ (s.data.toList.head? = some 48 ∧ 1 < s.size) → castellanref3_Num.l0 (k + 11) s most 0 0 = some (numR 9 most s) := by
        intro hn
        rw [show (0 : Int) = ((0 : Nat) : Int) from rfl, hl0]
        simp only [List.drop_zero]
        cases hd : s.data.toList.all isDig with
        | true =>
          rw [numR, if_pos (numOk_yes hne (by omega) hn hd)]
          simp [decN, digF]
        | false =>
          have hno : numOk 9 s = false := numOk_other hd
          simp [numR, hno]
      by_cases h3 : (s.size : Int) > 1
      · rw [if_pos h3, if_pos (by omega)]
        have hp : 0 < s.size := by omega
        cases h4 : (bt s 0 == 48) with
        | true =>
          have hh : s.data.toList.head? = some 48 := (bt_head hp).1 (by simpa using h4)
          have : numOk 9 s = false := numOk_nought hh (by omega)
          simp [castellanref3_Num.j0, numR, this]
        | false =>
          simp only [castellanref3_Num.j0]
          rw [if_neg (by decide)]
          exact hfin (by rintro ⟨hh, _⟩; exact absurd ((bt_head hp).2 hh) (by simpa using h4))
      · rw [if_neg h3]
        simp only [castellanref3_Num.j0]
        rw [if_neg (by decide)]
        exact hfin (by rintro ⟨_, hh⟩; omega)
theorem Num_calls (s : ByteArray) (most : Int) (w : World) :
    Calls Tryz.prog 86 #[.string s, .int .i64 most] w fun e w' => e = .returned (.tuple #[.int .i64 (numR 9 most s).1, .bool (numR 9 most s).2]) ∧ Grows w w' :=
  (castellanref3_Num.calls 12 s most _ _ w (Num_eq 12 (by omega) s most)).mono fun e w' ⟨h1, h2⟩ => ⟨h1, h2.below⟩
end Go.Proofs.YtomkohdlaednhaaGreatDoor
