import Derived.Test.YtomkohdlaednhaaGreatDoorBE
set_option linter.unusedSimpArgs false
set_option linter.unusedVariables false
namespace Go.Proofs.YtomkohdlaednhaaGreatDoor
open Go.RowKit Go.Proofs.YtomkohdlaednhaaGreatDoorW.PrintWords PConfParses

/-! ### Dec -/
theorem str_digit (d : Nat) (h : d < 10) : strOfNums ([(wrap64 (48 + (d : Int))) % 256] : List Int) = mkB [UInt8.ofNat (48 + d)] := by
  have : ∀ d : Fin 10, strOfNums ([(wrap64 (48 + (d.val : Int))) % 256] : List Int) = mkB [UInt8.ofNat (48 + d.val)] := by decide +kernel
  exact this ⟨d, h⟩
theorem Dec_eq : ∀ (k u : Nat), k ≤ 18 → u < 10 ^ k → 1 ≤ k → castellanref3_Dec.f k (u : Int) = some (mkB (Lib.decDigits u))
  | 0, u, _, _, h => by omega
  | k + 1, u, hk, hu, _ => by
    unfold castellanref3_Dec.f
    have hpow : 10 ^ (k + 1) ≤ 10 ^ 18 := Nat.pow_le_pow_right (by omega) hk
    have hbig : u < 1000000000000000000 := Nat.lt_of_lt_of_le hu hpow
    by_cases h : u < 10
    · rw [if_pos (by omega), str_digit u h, dec_small h]
    · rw [if_neg (by omega)]
      have e1 : wrap64 (Int.tdiv (u : Int) 10) = ((u / 10 : Nat) : Int) := by
        rw [Int.tdiv_eq_ediv_of_nonneg (by omega)]
        unfold wrap64; omega
      have e2 : Int.tmod (u : Int) 10 = ((u % 10 : Nat) : Int) := by
        rw [Int.tmod_eq_emod_of_nonneg (by omega)]; omega
      have hk1 : 1 ≤ k := by
        rcases Nat.eq_zero_or_pos k with rfl | h'
        · simp at hu; omega
        · exact h'
      have hu1 : u / 10 < 10 ^ k := by rw [Nat.pow_succ] at hu; omega
      have hu2 : u % 10 < 10 ^ k := Nat.lt_of_lt_of_le (Nat.mod_lt _ (by omega)) (by have := Nat.pow_le_pow_right (show 10 > 0 by omega) hk1; simpa using this)
      rw [e1, e2, Dec_eq k (u / 10) (by omega) hu1 hk1, Dec_eq k (u % 10) (by omega) hu2 hk1, Option.bind_some, Option.bind_some]
      have l1 := dec_len k (u / 10) hk1 hu1
      have l2 := dec_len k (u % 10) hk1 hu2
      rw [if_pos (by rw [mkB_size, mkB_size]; omega), mkB_app, dec_small (Nat.mod_lt u (by omega : 10 > 0)), ← dec_big h]
theorem Dec_calls (u : Nat) (w : World) (h : u < 1000000000000000000) :
    Calls Tryz.prog 22 #[.int .i64 (u : Int)] w fun e w' => e = .returned (.string (mkB (Lib.decDigits u))) ∧ Grows w w' :=
  castellanref3_Dec.calls 18 u _ w (Dec_eq 18 u (by omega) h (by omega))

/-! ### flags as letters -/
/-- Is a flag's bit set? (As the program asks.) -/
def bitB (z : Int) (k : Nat) : Bool := Go.bits .and .i64 (z / 2 ^ k) 1 == 1
def letter (k : Nat) : ByteArray := mkB ([[70], [83], [82], [80], [65], [85]].getD k [])
/-- The letters of the first k flags. -/
def ltrs (z : Int) : Nat → ByteArray
  | 0 => ⟨#[]⟩
  | k + 1 => if bitB z k then ltrs z k ++ letter k else ltrs z k
theorem ltrs_flags : ∀ n : Fin 64, flagsS (n.val : Int) = (if ltrs (n.val : Int) 6 = ⟨#[]⟩ then ⟨#[45]⟩ else ltrs (n.val : Int) 6) ∧ (n.val ≠ 0 → ltrs (n.val : Int) 6 ≠ ⟨#[]⟩) := by decide +kernel
theorem ltrs_small : ∀ n : Fin 64, ∀ k : Fin 7, (ltrs (n.val : Int) k.val).size ≤ 6 := by decide +kernel

/-! ### the rule of some flags -/
def anyV : SideV := ⟨true, ⟨#[]⟩, 0, 0, 0, 65535⟩
def flagsV (s m : Int) : RuleV := { zRef with pass := true, proto := 6, src := anyV, dst := anyV, set := s, mask := m }
theorem flags_parse (s m : Int) (h0 : 0 ≤ s) (h1 : s ≤ 63) (h2 : 1 ≤ m) (h3 : m ≤ 63) : parseR (toks (flagsV s m)) = ⟨flagsV s m, [], false⟩ := by
  have hs : sideB anyV 6 = true := by decide +kernel
  have hk : 0 ≤ anyV.addr ∧ anyV.addr < 4294967296 := by decide
  unfold parseR
  rw [back1, back3, back4, back5 _ _ rfl, back6 _ _ rfl (by show (0 : Int) ≤ 6; decide) (by show (6 : Int) ≤ 255; decide), back7, back8 _ _ hs hk, back9, back10 _ _ hs hk,
    back11 _ _ rfl rfl h0 h1 (by show (0 : Int) ≤ m; omega) h3 (fun e => by have : m = 0 := e; omega) (by show (-1 : Int) ≤ -1; decide) (by show (-1 : Int) ≤ 255; decide), back12, back13 _ _ (show pinB noPin = true by decide +kernel) (show 0 ≤ noPin.gate ∧ noPin.gate < 4294967296 by decide), back14 _ _ (show pinB noPin = true by decide +kernel) (show 0 ≤ noPin.gate ∧ noPin.gate < 4294967296 by decide), back15 _ _ rfl (by show (0 : Int) ≤ 0; decide) (by show (0 : Int) < 4; decide)]
theorem flags_isB (s m : Int) (h0 : 0 ≤ s) (h1 : s ≤ 63) (h2 : 1 ≤ m) (h3 : m ≤ 63) : isB (flagsV s m) = (Go.bits .andNot .i64 s m == 0) := by
  have hs : sideB anyV 6 = true := by decide +kernel
  have hm : (0 : Int) ≤ m := by omega
  simp only [isB, flagsV, passB, lookB, flagB, typeB, hs, zRef, zRule]
  simp [hm, h3, emptyB, pinB, noPin]
theorem flags_rule (s m : Int) (h0 : 0 ≤ s) (h1 : s ≤ 63) (h2 : 1 ≤ m) (h3 : m ≤ 63) : ruleOf (toks (flagsV s m)) = if (Go.bits .andNot .i64 s m == 0) then (flagsV s m, 0) else (zRule, 2) := by
  rw [ruleOf, flags_parse s m h0 h1 h2 h3]
  simp only [flags_isB s m h0 h1 h2 h3, List.isEmpty_nil, Bool.not_true, Bool.or_false, Bool.false_or]
  cases (Go.bits .andNot .i64 s m == 0) <;> rfl
/-- What the law's text is made of. -/
def preF : ByteArray := ⟨#[112, 97, 115, 115, 32, 112, 114, 111, 116, 111, 32, 116, 99, 112, 32, 102, 114, 111, 109, 32, 97, 110, 121, 32, 116, 111, 32, 97, 110, 121, 32, 102, 108, 97, 103, 115, 32]⟩
theorem flags_text (s m : Int) (h2 : m ≠ 0) : textOf (toks (flagsV s m)) = preF ++ flagsS s ++ ⟨#[47]⟩ ++ flagsS m := by
  have e : toks (flagsV s m) = [passW, protoW, protoS 6, fromW, anyS, toW, anyS, flagsW, flagsP (flagsV s m)] := by
    have hm : (m == 0) = false := by rw [beq_eq_false_iff_ne]; exact h2
    have e0 : emptyB ⟨#[]⟩ = true := by decide +kernel
    simp [toks, t3, t4, t5, t6, t7, t8, t9, t10, t11, t12, t13, t14, t15, t16, flagsV, zRef, zRule, anyV, sideT, portsT, headP, allPorts, hm, e0, opt, noPin]
  rw [e, flagsP_eq]
  show textOf [passW, protoW, protoS 6, fromW, anyS, toW, anyS, flagsW, flagsS s ++ ⟨#[47]⟩ ++ flagsS m] = _
  have e2 : preF ++ flagsS s ++ ⟨#[47]⟩ ++ flagsS m = preF ++ (flagsS s ++ ⟨#[47]⟩ ++ flagsS m) := by simp only [ByteArray.append_assoc]
  rw [e2]
  generalize flagsS s ++ ⟨#[47]⟩ ++ flagsS m = X
  have e3 : passW.data.toList ++ tailL [protoW, protoS 6, fromW, anyS, toW, anyS, flagsW] ++ [32] = preF.data.toList := by decide +kernel
  rw [textOf, join_tail, show [protoW, protoS 6, fromW, anyS, toW, anyS, flagsW, X] = [protoW, protoS 6, fromW, anyS, toW, anyS, flagsW] ++ [X] from rfl, tailL_app, tailL_cons X, ← mkB_eta preF, ← e3, ← mkB_eta X, mkB_app, mkB_data]
  simp [tailL]
end Go.Proofs.YtomkohdlaednhaaGreatDoor
