import Derived.Test.YtomkohdlaednhaaGreatDoorR
set_option linter.unusedSimpArgs false
set_option linter.unusedVariables false
namespace Go.Proofs.YtomkohdlaednhaaGreatDoor
open Go.RowKit Go.Proofs.YtomkohdlaednhaaGreatDoorW.PrintWords PConfParses

def mkB (l : List UInt8) : ByteArray := ⟨l.toArray⟩
theorem mkB_data (l : List UInt8) : (mkB l).data.toList = l := rfl
theorem mkB_eta (s : ByteArray) : mkB s.data.toList = s := Lib.mk_data s
/-- The parts between a byte. -/
def spl (c : UInt8) : List UInt8 → List (List UInt8)
  | [] => [[]]
  | b :: l => if b = c then [] :: spl c l else match spl c l with
    | [] => [[b]]
    | h :: t => (b :: h) :: t
theorem spl_ne (c : UInt8) : ∀ l, spl c l ≠ []
  | [] => by simp [spl]
  | b :: l => by
    unfold spl
    split
    · simp
    · split <;> simp
/-- The first part longer by what stood ahead of it. -/
def longer (p : List UInt8) : List (List UInt8) → List ByteArray
  | [] => []
  | h :: t => mkB (p ++ h) :: t.map mkB
theorem longer_nil (L : List (List UInt8)) : longer [] L = L.map mkB := by cases L <;> simp [longer]
theorem spl_hit (c : UInt8) (l : List UInt8) : spl c (c :: l) = [] :: spl c l := by simp [spl]
theorem longer_miss {c b : UInt8} (h : b ≠ c) (p l : List UInt8) : longer p (spl c (b :: l)) = longer (p ++ [b]) (spl c l) := by
  rw [spl, if_neg h]
  cases hs : spl c l with
  | nil => exact absurd hs (spl_ne c l)
  | cons x t => simp [longer]
theorem split_l0 (s : ByteArray) (c : UInt8) (hs : s.size ≤ 4294967296) : ∀ (d k i from_ : Nat) (acc : List ByteArray), i + d = s.size → d + 1 < k → from_ ≤ i → acc.length ≤ i →
    castellanref3_Split.l0 k s (c.toNat : Int) acc (from_ : Int) (i : Int) = some (acc ++ longer ((s.data.toList.drop from_).take (i - from_)) (spl c (s.data.toList.drop i))) := by
  intro d
  induction d with
  | zero =>
    intro k i from_ acc hi hk hf ha
    obtain ⟨k, rfl⟩ : ∃ m, k = m + 2 := ⟨k - 2, by omega⟩
    have hd : s.data.toList.drop i = [] := List.drop_of_length_le (by rw [← Lib.size_eq]; omega)
    have e2 := w_succ i (by omega)
    simp only [castellanref3_Split.l0]
    rw [if_pos (by omega), if_pos (by omega), if_pos (by omega), if_pos (by omega), if_pos (by omega), e2, if_neg (by omega), hd]
    simp only [spl, longer, List.append_nil, List.map_nil]
    rw [Lib.extract_eq]
    rfl
  | succ d ih =>
    intro k i from_ acc hi hk hf ha
    obtain ⟨k, rfl⟩ : ∃ m, k = m + 1 := ⟨k - 1, by omega⟩
    have hlt : i < s.data.toList.length := by rw [← Lib.size_eq]; omega
    have hd := drop_at hlt
    have hb := bt_get s i
    have htk : (s.data.toList.drop from_).take (i + 1 - from_) = (s.data.toList.drop from_).take (i - from_) ++ [s.data.toList[i]?.getD 0] := by
      rw [show i + 1 - from_ = (i - from_) + 1 from by omega, List.take_add_one]
      congr 1
      rw [List.getElem?_drop, show from_ + (i - from_) = i from by omega, List.getElem?_eq_getElem hlt]
      rfl
    generalize s.data.toList[i]?.getD 0 = b at *
    have e2 := w_succ i (by omega)
    simp only [castellanref3_Split.l0]
    rw [if_pos (by omega), if_neg (by omega), if_pos (by omega), if_pos (by omega), hb, e2, hd]
    by_cases hq : b = c
    · subst hq
      rw [if_pos rfl, if_pos (by omega), if_pos (by omega), if_pos (by omega), ih k (i + 1) (i + 1) _ (by omega) (by omega) (by omega) (by simp; omega)]
      rw [spl_hit, Nat.sub_self, List.take_zero, longer_nil, Lib.extract_eq]
      simp only [longer, List.append_nil, List.append_assoc, List.singleton_append]
      rfl
    · rw [if_neg (by intro e; exact hq (UInt8.toNat_inj.1 (by omega))), ih k (i + 1) from_ acc (by omega) (by omega) (by omega) (by omega), htk, longer_miss hq]
/-- A text's parts between a byte. -/
def splitS (c : UInt8) (s : ByteArray) : List ByteArray := (spl c s.data.toList).map mkB
theorem Split_eq (k : Nat) (s : ByteArray) (c : UInt8) (hs : s.size ≤ 4294967296) (hk : s.size + 1 < k) : castellanref3_Split.f k s (c.toNat : Int) = some (splitS c s) := by
  have := split_l0 s c hs s.size k 0 0 [] (by omega) hk (by omega) (by simp)
  unfold castellanref3_Split.f
  rw [show (0 : Int) = ((0 : Nat) : Int) from rfl, this]
  simp [longer_nil, splitS]
end Go.Proofs.YtomkohdlaednhaaGreatDoor
