import Derived.Test.YtomkohdlaednhaaGreatDoorS
import Derived.Lib.CountLaws
set_option linter.unusedSimpArgs false
set_option linter.unusedVariables false
namespace Go.Proofs.YtomkohdlaednhaaGreatDoor
open Go.RowKit Go.Proofs.YtomkohdlaednhaaGreatDoorW.PrintWords PConfParses

theorem index_one (b c : UInt8) (l : List UInt8) : Lib.index (b :: l) [c] = if b = c then 0 else if Lib.index l [c] == -1 then -1 else Lib.index l [c] + 1 := by
  simp only [Lib.index, List.isPrefixOf]
  by_cases h : b = c
  · subst h; simp
  · have h2 : (c == b) = false := by rw [beq_eq_false_iff_ne]; exact fun e => h e.symm
    simp [h, h2]
theorem index_low (c : UInt8) : ∀ l, -1 ≤ Lib.index l [c]
  | [] => by simp [Lib.index]
  | b :: l => by
    rw [index_one]
    have := index_low c l
    split
    · omega
    · split <;> omega
theorem spl_none (c : UInt8) : ∀ l, Lib.index l [c] = -1 → spl c l = [l]
  | [], _ => rfl
  | b :: l, h => by
    rw [index_one] at h
    have hl := index_low c l
    by_cases hb : b = c
    · rw [if_pos hb] at h; omega
    · rw [if_neg hb] at h
      have h' : Lib.index l [c] = -1 := by
        by_cases e : (Lib.index l [c] == -1) = true
        · simpa using e
        · rw [if_neg e] at h; omega
      rw [spl, if_neg hb, spl_none c l h']
theorem spl_some (c : UInt8) : ∀ (l : List UInt8) (i : Nat), Lib.index l [c] = i → spl c l = l.take i :: spl c (l.drop (i + 1))
  | [], i, h => by simp [Lib.index] at h
  | b :: l, i, h => by
    rw [index_one] at h
    have hl := index_low c l
    by_cases hb : b = c
    · rw [if_pos hb] at h
      obtain rfl : i = 0 := by omega
      subst hb
      rw [spl_hit]
      simp
    · rw [if_neg hb] at h
      by_cases e : (Lib.index l [c] == -1) = true
      · rw [if_pos e] at h; omega
      · rw [if_neg e] at h
        have e' : Lib.index l [c] ≠ -1 := by simpa using e
        obtain ⟨j, hj⟩ := Int.eq_ofNat_of_zero_le (show 0 ≤ Lib.index l [c] by omega)
        obtain rfl : i = j + 1 := by omega
        rw [spl, if_neg hb, spl_some c l j hj]
        simp
theorem parts_map (c : UInt8) : ∀ (n : Nat) (s : ByteArray), s.size ≤ n → (parts ⟨#[c]⟩ s).map (·.data.toList) = spl c s.data.toList := by
  intro n
  induction n with
  | zero =>
    intro s hs
    have e0 : s.data.toList = [] := List.eq_nil_of_length_eq_zero (by rw [← Lib.size_eq]; omega)
    have hm : Lib.indexB s ⟨#[c]⟩ = -1 := by show Lib.index s.data.toList [c] = -1; rw [e0]; rfl
    rw [parts, Lib.countB_miss s _ hm, Lib.splitB_zero]
    simp [e0, spl]
  | succ n ih =>
    intro s hs
    by_cases h : Lib.index s.data.toList [c] = -1
    · have hm : Lib.indexB s ⟨#[c]⟩ = -1 := h
      rw [parts, Lib.countB_miss s _ hm, Lib.splitB_zero, spl_none c _ h]
      rfl
    · have hl := index_low c s.data.toList
      obtain ⟨i, hi⟩ := Int.eq_ofNat_of_zero_le (show 0 ≤ Lib.index s.data.toList [c] by omega)
      have hm : Lib.indexB s ⟨#[c]⟩ = i := hi
      rw [parts, Lib.countB_hit s (⟨#[c]⟩ : ByteArray) i (Nat.le_refl 1) hm, Nat.add_comm, Lib.splitB_hit _ _ _ _ i hm]
      rw [spl_some c _ i hi]
      have hne : s.size ≠ 0 := by
        intro e
        have e0 : s.data.toList = [] := List.eq_nil_of_length_eq_zero (by rw [← Lib.size_eq]; omega)
        rw [e0] at hi
        simp [Lib.index] at hi
      have := ih (s.extract (i + 1) s.size) (by rw [ByteArray.size_extract]; omega)
      simp only [List.map_cons]
      congr 1
      · rw [Lib.extract_data]; simp
      · have e3 : (⟨#[c]⟩ : ByteArray).size = 1 := rfl
        rw [e3]
        refine this.trans ?_
        rw [Lib.extract_data]
        congr 1
        rw [List.take_of_length_le]
        rw [List.length_drop, ← Lib.size_eq]
        omega
theorem parts_eq (c : UInt8) (s : ByteArray) : parts ⟨#[c]⟩ s = splitS c s := by
  have := congrArg (List.map mkB) (parts_map c s.size s (Nat.le_refl _))
  rw [List.map_map] at this
  rw [splitS, ← this]
  have e : (mkB ∘ fun x : ByteArray => x.data.toList) = id := funext fun x => mkB_eta x
  rw [e, List.map_id]
end Go.Proofs.YtomkohdlaednhaaGreatDoor
