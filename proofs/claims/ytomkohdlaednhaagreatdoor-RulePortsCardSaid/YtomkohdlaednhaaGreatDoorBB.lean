import Derived.Test.YtomkohdlaednhaaGreatDoorBA
import Derived.Laws.BitsAllLaws
set_option linter.unusedSimpArgs false
set_option linter.unusedVariables false
namespace Go.Proofs.YtomkohdlaednhaaGreatDoor
open Go.RowKit Go.Proofs.YtomkohdlaednhaaGreatDoorW.PrintWords PConfParses

/-! ### numerals -/
theorem dec_small {u : Nat} (h : u < 10) : Lib.decDigits u = [UInt8.ofNat (48 + u)] := by rw [Lib.decDigits, dif_pos h]
theorem dec_big {u : Nat} (h : ¬ u < 10) : Lib.decDigits u = Lib.decDigits (u / 10) ++ [UInt8.ofNat (48 + u % 10)] := by rw [Lib.decDigits, dif_neg h]
theorem digit_nat {d : Nat} (h : d < 10) : (UInt8.ofNat (48 + d)).toNat = 48 + d := by rw [UInt8.toNat_ofNat']; omega
theorem dec_all (u : Nat) : (Lib.decDigits u).all isDig = true := by
  induction u using Nat.strongRecOn with
  | _ u ih =>
    have hd : ∀ d : Nat, d < 10 → isDig (UInt8.ofNat (48 + d)) = true := fun d hd => by
      unfold isDig; rw [digit_nat hd, decide_eq_true_eq]; omega
    by_cases h : u < 10
    · rw [dec_small h, List.all_cons, hd u h]; rfl
    · rw [dec_big h, List.all_append, ih (u / 10) (by omega)]
      rw [List.all_cons, hd (u % 10) (by omega)]; rfl
theorem dec_fold (u : Nat) : (Lib.decDigits u).foldl digF 0 = u := by
  induction u using Nat.strongRecOn with
  | _ u ih =>
    by_cases h : u < 10
    · rw [dec_small h]
      simp only [List.foldl_cons, List.foldl_nil, digF, digit_nat h]; omega
    · rw [dec_big h, List.foldl_append, ih (u / 10) (by omega)]
      simp only [List.foldl_cons, List.foldl_nil, digF, digit_nat (Nat.mod_lt u (by omega : 10 > 0))]; omega
theorem dec_ne (u : Nat) : Lib.decDigits u ≠ [] := by
  by_cases h : u < 10
  · rw [dec_small h]; simp
  · rw [dec_big h]; simp
theorem dec_head (u : Nat) (h1 : 1 ≤ u) : (Lib.decDigits u).head? ≠ some 48 := by
  induction u using Nat.strongRecOn with
  | _ u ih =>
    by_cases h : u < 10
    · rw [dec_small h]
      simp only [List.head?_cons, ne_eq, Option.some.injEq]
      intro e
      have := congrArg UInt8.toNat e
      rw [digit_nat h] at this
      have e0 : (48 : UInt8).toNat = 48 := rfl
      omega
    · rw [dec_big h, List.head?_append]
      have := ih (u / 10) (by omega) (by omega)
      cases hq : (Lib.decDigits (u / 10)).head? with
      | none => exact absurd (List.head?_eq_none_iff.1 hq) (dec_ne _)
      | some x => rw [hq] at this; simpa using this
theorem dec_len : ∀ (k u : Nat), 1 ≤ k → u < 10 ^ k → (Lib.decDigits u).length ≤ k
  | 0, u, h, _ => by omega
  | k + 1, u, _, h => by
    by_cases hu : u < 10
    · rw [dec_small hu]; simp
    · rw [dec_big hu, List.length_append]
      have : 1 ≤ k := by
        rcases Nat.eq_zero_or_pos k with rfl | h'
        · simp at h; omega
        · exact h'
      have := dec_len k (u / 10) this (by rw [Nat.pow_succ] at h; omega)
      simp; omega
/-- A number as a text. -/
def itoaS (n : Int) : ByteArray := mkB (Lib.itoa n)
theorem itoaS_nat (u : Nat) : itoaS (u : Int) = mkB (Lib.decDigits u) := by rw [itoaS, Lib.itoa_nonneg]
theorem numOk_dec (k u : Nat) (hk : 1 ≤ k) (h : u < 10 ^ k) : numOk k (mkB (Lib.decDigits u)) = true := by
  have hz := mkB_size (Lib.decDigits u)
  have h1 : 1 ≤ (Lib.decDigits u).length := by
    have := dec_ne u
    rcases Nat.eq_zero_or_pos (Lib.decDigits u).length with h | h
    · exact absurd (List.eq_nil_of_length_eq_zero h) this
    · exact h
  have h2 := dec_len k u hk h
  unfold numOk
  rw [mkB_data, hz, dec_all]
  by_cases h0 : u = 0
  · subst h0
    have : (Lib.decDigits 0).length = 1 := by rw [dec_small (by omega)]; rfl
    simp [this, hk]
  · have := dec_head u (by omega)
    simp [this, h1, h2]
theorem decN_dec (u : Nat) : decN (mkB (Lib.decDigits u)).data.toList = u := by
  rw [mkB_data]; exact dec_fold u
theorem numV_dec (k u : Nat) (hk : 1 ≤ k) (h : u < 10 ^ k) : numV k (mkB (Lib.decDigits u)) = (u : Int) := by
  rw [numV, if_pos (numOk_dec k u hk h), decN_dec]
theorem numR_dec (k u : Nat) (m : Int) (hk : 1 ≤ k) (h : u < 10 ^ k) : numR k m (mkB (Lib.decDigits u)) = ((u : Int), decide ((u : Int) ≤ m)) := by
  rw [numR, if_pos (numOk_dec k u hk h), decN_dec]
theorem dec_not (c : UInt8) (hc : isDig c = false) (u : Nat) : c ∉ Lib.decDigits u := by
  intro h
  have := List.all_eq_true.1 (dec_all u) c h
  rw [hc] at this
  exact absurd this (by decide)

/-! ### parts between a byte -/
theorem spl_plain (c : UInt8) : ∀ l : List UInt8, c ∉ l → spl c l = [l]
  | [], _ => rfl
  | b :: l, h => by
    simp only [List.mem_cons, not_or] at h
    rw [spl, if_neg (fun e => h.1 e.symm), spl_plain c l h.2]
theorem spl_cons (c : UInt8) : ∀ (p l : List UInt8), c ∉ p → spl c (p ++ c :: l) = p :: spl c l
  | [], l, _ => spl_hit c l
  | b :: p, l, h => by
    simp only [List.mem_cons, not_or] at h
    rw [List.cons_append, spl, if_neg (fun e => h.1 e.symm), spl_cons c p l h.2]
theorem index_plain (c : UInt8) : ∀ l : List UInt8, c ∉ l → Lib.index l [c] = -1
  | [], _ => by simp [Lib.index]
  | b :: l, h => by
    simp only [List.mem_cons, not_or] at h
    rw [index_one, if_neg (fun e => h.1 e.symm), index_plain c l h.2]; rfl
theorem index_cons (c : UInt8) : ∀ (p l : List UInt8), c ∉ p → Lib.index (p ++ c :: l) [c] = p.length
  | [], l, _ => by rw [List.nil_append, index_one, if_pos rfl]; rfl
  | b :: p, l, h => by
    simp only [List.mem_cons, not_or] at h
    rw [List.cons_append, index_one, if_neg (fun e => h.1 e.symm), index_cons c p l h.2]
    have : ((p.length : Int) == -1) = false := by rw [beq_eq_false_iff_ne]; omega
    rw [this]; simp
theorem cut_plain (c : UInt8) (l : List UInt8) (h : c ∉ l) : cutS (mkB l) ⟨#[c]⟩ = (mkB l, ⟨#[]⟩, false) :=
  (cut_none c (mkB l) (index_plain c l h)).1
theorem cut_cons (c : UInt8) (p l : List UInt8) (h : c ∉ p) : cutS (mkB (p ++ c :: l)) ⟨#[c]⟩ = (mkB p, mkB l, true) := by
  rw [(cut_some c (mkB (p ++ c :: l)) p.length (index_cons c p l h)).1, mkB_data]
  simp

/-! ### addresses -/
def oct (a : Int) (k : Nat) : Nat := (a / 2 ^ (8 * k) % 256).toNat
/-- An address as a text. -/
def addrL (a : Int) : List UInt8 := Lib.decDigits (oct a 3) ++ 46 :: (Lib.decDigits (oct a 2) ++ 46 :: (Lib.decDigits (oct a 1) ++ 46 :: Lib.decDigits (oct a 0)))
def addrP (a : Int) : ByteArray := mkB (addrL a)
theorem oct_lt (a : Int) (k : Nat) : oct a k < 256 := by
  unfold oct
  have := Int.emod_nonneg (a / 2 ^ (8 * k)) (by decide : (256 : Int) ≠ 0)
  have := Int.emod_lt_of_pos (a / 2 ^ (8 * k)) (by decide : (0 : Int) < 256)
  omega
theorem or_byte (a n : Nat) (h : n < 256) (ha : a * 256 + n < 4294967296) : Go.bits .or .u32 ((a : Int) * 256 % 4294967296) ((n : Int) % 4294967296) = ((a * 256 + n : Nat) : Int) := by
  rw [u32_or _ _ (by omega) (by omega) (by omega) (by omega)]
  have e1 : ((a : Int) * 256 % 4294967296).toNat = a <<< 8 := by rw [Nat.shiftLeft_eq]; omega
  have e2 : ((n : Int) % 4294967296).toNat = n := by omega
  rw [e1, e2, ← Nat.shiftLeft_add_eq_or_of_lt (by omega), Nat.shiftLeft_eq]
theorem octs_dec (u : Nat) (hu : u < 256) (L : List ByteArray) (a : Nat) (ha : a * 256 + u < 4294967296) : octs (mkB (Lib.decDigits u) :: L) a = octs L ((a * 256 + u : Nat) : Int) := by
  rw [octs, numR_dec 3 u 255 (by omega) (by omega)]
  have : ((u : Int) ≤ 255) := by omega
  simp only [this, decide_true, if_true]
  rw [or_byte a u hu ha]
theorem addr_back (a : Int) (h0 : 0 ≤ a) (h1 : a < 4294967296) : addrR (addrP a) = (a, 0) := by
  have hs : parts dotS (addrP a) = [mkB (Lib.decDigits (oct a 3)), mkB (Lib.decDigits (oct a 2)), mkB (Lib.decDigits (oct a 1)), mkB (Lib.decDigits (oct a 0))] := by
    rw [show parts dotS (addrP a) = splitS 46 (addrP a) from parts_eq 46 _, splitS, addrP, mkB_data, addrL]
    have hn := dec_not 46 (by decide)
    rw [spl_cons 46 _ _ (hn _), spl_cons 46 _ _ (hn _), spl_cons 46 _ _ (hn _), spl_plain 46 _ (hn _)]
    rfl
  rw [addrR, hs, if_pos (show List.length [_, _, _, _] = 4 from rfl)]
  obtain ⟨u, rfl⟩ := Int.eq_ofNat_of_zero_le h0
  have e3 : oct (u : Int) 3 = u / 16777216 % 256 := by unfold oct; omega
  have e2 : oct (u : Int) 2 = u / 65536 % 256 := by unfold oct; omega
  have e1 : oct (u : Int) 1 = u / 256 % 256 := by unfold oct; omega
  have e0 : oct (u : Int) 0 = u % 256 := by unfold oct; omega
  rw [show (0 : Int) = ((0 : Nat) : Int) from rfl, octs_dec _ (oct_lt _ _) _ _ (by omega), octs_dec _ (oct_lt _ _) _ _ (by omega), octs_dec _ (oct_lt _ _) _ _ (by omega), octs_dec _ (oct_lt _ _) _ _ (by omega)]
  rw [e3, e2, e1, e0, octs]
  have : (((0 * 256 + u / 16777216 % 256) * 256 + u / 65536 % 256) * 256 + u / 256 % 256) * 256 + u % 256 = u := by omega
  rw [this]
  rfl
theorem addr_not (c : UInt8) (h : isDig c = false) (h2 : c ≠ 46) (a : Int) : c ∉ addrL a := by
  have hn := dec_not c h
  unfold addrL
  simp only [List.mem_append, List.mem_cons, not_or]
  exact ⟨hn _, h2, hn _, h2, hn _, h2, hn _⟩

/-- A prefix as a text; nothing, if it is none. -/
def pfxL (a n : Int) : List UInt8 := addrL a ++ 47 :: Lib.itoa n
def pfxP (a n : Int) : ByteArray := if n < 0 ∨ 32 < n then ⟨#[]⟩ else mkB (pfxL a n)
theorem pfx_back (a n : Int) (h0 : 0 ≤ a) (h1 : a < 4294967296) (h2 : 0 ≤ n) (h3 : n ≤ 32) : pfxR (pfxP a n) = (a, n, 0) := by
  obtain ⟨u, rfl⟩ := Int.eq_ofNat_of_zero_le h2
  rw [pfxP, if_neg (by omega), pfxL, Lib.itoa_nonneg, pfxR, show (slashS : ByteArray) = ⟨#[47]⟩ from rfl, cut_cons 47 _ _ (addr_not 47 (by decide) (by decide) a)]
  simp only [numR_dec 3 u 32 (by omega) (by omega)]
  have hu : ((u : Int) ≤ 32) := by omega
  have := addr_back a h0 h1
  rw [addrP] at this
  simp [hu, this]
end Go.Proofs.YtomkohdlaednhaaGreatDoor
