import Derived.Lib.Atoi
import Derived.Lib.ItoaNum
import Derived.Lib.SlTrimSet
import Derived.Lib.Strings
set_option linter.unusedSimpArgs false
set_option linter.unusedVariables false
namespace Go.Proofs.YtomkohdlaednhaaGreatDoor

def isDig (b : UInt8) : Bool := decide (48 ≤ b.toNat ∧ b.toNat ≤ 57)
/-- Digits, at least one and at most k, without a nought ahead. -/
def numOk (k : Nat) (s : ByteArray) : Bool := decide (1 ≤ s.size ∧ s.size ≤ k) && !(decide (s.data.toList.head? = some 48) && decide (1 < s.size)) && s.data.toList.all isDig
def decN (l : List UInt8) : Nat := l.foldl (fun a b => a * 10 + (b.toNat - 48)) 0
def numV (k : Nat) (s : ByteArray) : Int := if numOk k s then (decN s.data.toList : Int) else 0

theorem decFrom_foldl : ∀ (l : List UInt8) (a : Nat), l.all isDig = true → Lib.decFrom a l = some (l.foldl (fun a b => a * 10 + (b.toNat - 48)) a)
  | [], a, _ => rfl
  | b :: l, a, h => by
    simp only [List.all_cons, Bool.and_eq_true] at h
    have hb : 48 ≤ b.toNat ∧ b.toNat ≤ 57 := by simpa [isDig] using h.1
    simp only [Lib.decFrom, Lib.digitVal, if_pos hb, List.foldl_cons]
    exact decFrom_foldl l _ h.2
theorem atoi_digits (l : List UInt8) (hne : l ≠ []) (h : l.all isDig = true) : Lib.atoi l = some (decN l : Int) := by
  cases l with
  | nil => exact absurd rfl hne
  | cons b r =>
    have hb : 48 ≤ b.toNat ∧ b.toNat ≤ 57 := by
      have h' := h
      simp only [List.all_cons, Bool.and_eq_true] at h'
      simpa [isDig] using h'.1
    have h1 : (b == 45) = false := by
      rw [beq_eq_false_iff_ne]; rintro rfl; simp at hb
    have h2 : (b == 43) = false := by
      rw [beq_eq_false_iff_ne]; rintro rfl; simp at hb
    simp only [Lib.atoi, h1, h2, Lib.decNat, List.isEmpty_cons, Bool.false_eq_true, if_false, decFrom_foldl _ _ h]
    rfl
theorem dropWhile_nil {α : Type} (p : α → Bool) : ∀ l : List α, l.dropWhile p = [] ↔ l.all p = true
  | [] => by simp
  | a :: l => by
    by_cases h : p a = true
    · simp [List.dropWhile_cons, h, dropWhile_nil p l]
    · simp [List.dropWhile_cons, h]
theorem trimS_nil (l cs : List UInt8) : Lib.trimS l cs = [] ↔ l.all (cs.contains ·) = true := by
  unfold Lib.trimS Lib.trimLeftS Lib.trimRightS
  rw [dropWhile_nil, List.all_eq_true, List.all_eq_true]
  simp only [List.mem_reverse]
  constructor
  · intro h x hx
    rcases Classical.em ((x ∈ (l.reverse.dropWhile (cs.contains ·)))) with h1 | h1
    · exact h x h1
    · have : ∀ (m : List UInt8), x ∈ m → ¬ x ∈ m.dropWhile (cs.contains ·) → cs.contains x = true := by
        intro m
        induction m with
        | nil => simp
        | cons a m ih =>
          intro h2 h3
          by_cases ha : cs.contains a = true
          · simp only [List.dropWhile_cons, ha, if_true] at h3
            rcases List.mem_cons.1 h2 with rfl | h2
            · exact ha
            · exact ih h2 h3
          · simp only [List.dropWhile_cons, ha] at h3
            exact absurd h2 h3
      exact this l.reverse (by simpa using hx) h1
  · intro h x hx
    exact h x (by have := (List.dropWhile_sublist (l := l.reverse) (cs.contains ·)).mem hx; simpa using this)
def digs : ByteArray := ⟨#[48, 49, 50, 51, 52, 53, 54, 55, 56, 57]⟩
theorem contains_digs (b : UInt8) : digs.data.toList.contains b = isDig b := by
  have : ∀ b : Fin 256, digs.data.toList.contains (UInt8.ofNat b.val) = isDig (UInt8.ofNat b.val) := by decide +kernel
  have h := this ⟨b.toNat, b.toNat_lt⟩
  simpa using h
theorem toList_inj {x s : ByteArray} : x.toList = s.toList ↔ x = s := by
  rw [Lib.toList_data, Lib.toList_data]
  constructor
  · intro h
    rw [← Lib.mk_data x, h, Lib.mk_data]
  · rintro rfl; rfl
theorem lit_yes {s : ByteArray} {l : List UInt8} (h : (s.toList == l) = true) : s = ⟨l.toArray⟩ := by
  have : s.toList = l := by simpa using h
  rw [← Lib.mk_data s, ← Lib.toList_data, this]
theorem lit_no {s : ByteArray} {l : List UInt8} (h : (s.toList == l) = false) : s ≠ ⟨l.toArray⟩ := by
  rintro rfl
  rw [Lib.toList_data] at h
  simp at h
theorem beq_yes {x s : ByteArray} (h : (x.toList == s.toList) = true) : x = s := toList_inj.1 (by simpa using h)
theorem beq_no {x s : ByteArray} (h : ¬ (x.toList == s.toList) = true) : x ≠ s := fun e => h (by simp [e])
theorem numOk_yes {k : Nat} {s : ByteArray} (h1 : ¬ s.toList = []) (h2 : s.size ≤ k) (h3 : ¬ (s.data.toList.head? = some 48 ∧ 1 < s.size)) (h4 : s.data.toList.all isDig = true) : numOk k s = true := by
  have : s.size ≠ 0 := fun e => h1 (by rw [Lib.toList_data]; exact List.eq_nil_of_length_eq_zero (by rw [← Lib.size_eq]; exact e))
  simp only [numOk, h4, Bool.and_true, Bool.and_eq_true, decide_eq_true_eq, Bool.not_eq_true', Bool.and_eq_false_iff, decide_eq_false_iff_not]
  refine ⟨⟨by omega, h2⟩, ?_⟩
  rcases Classical.em (s.data.toList.head? = some 48) with h | h
  · exact .inr fun h' => h3 ⟨h, h'⟩
  · exact .inl h
theorem numOk_empty {k : Nat} {s : ByteArray} (h1 : s.toList = []) : numOk k s = false := by
  have : s.size = 0 := by rw [Lib.size_eq, ← Lib.toList_data, h1]; rfl
  simp [numOk, this]
theorem numOk_long {k : Nat} {s : ByteArray} (h2 : k < s.size) : numOk k s = false := by
  have : ¬ s.size ≤ k := by omega
  simp [numOk, this]
theorem numOk_nought {k : Nat} {s : ByteArray} (h3 : s.data.toList.head? = some 48) (h : 1 < s.size) : numOk k s = false := by simp [numOk, h3, h]
theorem numOk_other {k : Nat} {s : ByteArray} (h4 : s.data.toList.all isDig = false) : numOk k s = false := by simp only [numOk, h4, Bool.and_false]
theorem trim_digs (s : ByteArray) : (Lib.trimS s.data.toList digs.data.toList).isEmpty = s.data.toList.all isDig := by
  rw [Bool.eq_iff_iff, List.isEmpty_iff, trimS_nil]
  simp only [contains_digs]
theorem size_pos_of {s : ByteArray} (h1 : ¬ s.toList = []) : 0 < s.size := by
  rcases Nat.eq_zero_or_pos s.size with e | e
  · exact absurd (by rw [Lib.toList_data]; exact List.eq_nil_of_length_eq_zero (by rw [← Lib.size_eq]; exact e)) h1
  · exact e
end Go.Proofs.YtomkohdlaednhaaGreatDoor
