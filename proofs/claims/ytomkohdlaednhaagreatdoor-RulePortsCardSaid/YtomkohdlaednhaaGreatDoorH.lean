import Derived.Test.YtomkohdlaednhaaGreatDoorG
set_option linter.unusedSimpArgs false
set_option linter.unusedVariables false
namespace Go.Proofs.YtomkohdlaednhaaGreatDoor
open Go.RowKit Go.Proofs.YtomkohdlaednhaaGreatDoorW.PrintWords

theorem below_of_drawn {w w1 : World} (h : Drawn0 w w1) : Grows w w1 := h.below
/-- Bits as letters. -/
def flagsS (n : Int) : ByteArray := (PConfParses.rule_flags.f 10 n).getD ⟨#[]⟩
theorem flags_all : ∀ n : Fin 64, PConfParses.rule_flags.f 10 (n.val : Int) = some (flagsS (n.val : Int)) ∧ PConfParses.castellanref14_letters.f 10 (n.val : Int) = some (flagsS (n.val : Int)) := by decide +kernel
theorem flags_calls (n : Nat) (hn : n < 64) (w : World) :
    Calls Tryz.prog 55 #[.int .i64 (n : Int)] w fun e w' => e = .returned (.string (flagsS n)) ∧ Grows w w' :=
  (PConfParses.rule_flags.calls 10 n _ w (flags_all ⟨n, hn⟩).1).mono fun e w' ⟨h1, h2⟩ => ⟨h1, h2.below⟩
theorem letters_calls (n : Nat) (hn : n < 64) (w : World) :
    Calls Tryz.prog 65 #[.int .i64 (n : Int)] w fun e w' => e = .returned (.string (flagsS n)) ∧ Grows w w' :=
  (PConfParses.castellanref14_letters.calls 10 n _ w (flags_all ⟨n, hn⟩).2).mono fun e w' ⟨h1, h2⟩ => ⟨h1, h2.below⟩
theorem flags_inj : ∀ a b : Fin 64, flagsS (a.val : Int) = flagsS (b.val : Int) → a = b := by decide +kernel

/-- The number whose letters these are. -/
def bitsF (s : ByteArray) : Option Nat := (List.range 64).find? (fun (n : Nat) => decide (flagsS (n : Int) = s))
def bitsV (s : ByteArray) : Int := ((bitsF s).getD 0 : Nat)
theorem bitsF_some {s : ByteArray} {n : Nat} (hn : n < 64) (h : flagsS n = s) : bitsF s = some n := by
  unfold bitsF
  cases hf : (List.range 64).find? (fun (n : Nat) => decide (flagsS (n : Int) = s)) with
  | none =>
    rw [List.find?_eq_none] at hf
    exact absurd h (by simpa using hf n (by simpa using hn))
  | some m =>
    have h1 := List.find?_some hf
    have h2 := List.mem_of_find?_eq_some hf
    simp only [decide_eq_true_eq] at h1
    simp only [List.mem_range] at h2
    have := flags_inj ⟨m, h2⟩ ⟨n, hn⟩ (h1.trans h.symm)
    simp only [Fin.mk.injEq] at this
    rw [this]
theorem bitsF_none {s : ByteArray} (h : ∀ n : Nat, n < 64 → flagsS (n : Int) ≠ s) : bitsF s = none := by
  unfold bitsF
  rw [List.find?_eq_none]
  intro n hn
  simpa using h n (by simpa using hn)
theorem bits_calls (w0 w : World) (g : Nat) (l : List ByteArray) (bad : Bool) (s : ByteArray) (h : WS 68 w0 w g l bad) :
    Calls Tryz.prog 82 #[.pointer (some ⟨g, 0, none⟩), .string s] w fun e w' => e = .returned (.int .i64 (bitsV s)) ∧ WPost 68 w0 w w' g l (bad || (bitsF s).isNone) := by
  have H0 := Lib.hid h.post
  clear h
  go_enter Tryz.func82, Tryz.ntmps82
  go_wp2_with fail
  go_loopw [6] (fun v6 wr => ∃ k : Nat, k ≤ 64 ∧ v6 = .int .i64 k ∧ Hid (∀ n : Nat, n < k → flagsS (n : Int) ≠ s) ∧ Hid (WPost 68 w0 w wr g l bad)) (fun v6 _ => 64 - (intOf v6).toNat)
  case atStart => exact ⟨0, by omega, rfl, Lib.hid (fun n h => by omega), H0⟩
  case round =>
    obtain ⟨k, hk, rfl, hN, hP⟩ := hrel
    by_cases hlt : k < 64
    · go_wp2_with fail
      refine (flags_calls k hlt wr).mono ?_
      rintro e w2 ⟨rfl, hb⟩
      have HP2 := Lib.hid (hP.out.grow hb)
      cases hq : ((flagsS k).toList == s.toList) with
      | true =>
        have HQ := Lib.hid (beq_yes hq)
        go_wp2_with fail
        go_ret
        have e1 := bitsF_some hlt HQ.out
        exact ⟨ret_int (by rw [bitsV, e1]; rfl), by simpa [e1] using HP2.out⟩
      | false =>
        have HQ := Lib.hid (beq_no (x := flagsS k) (s := s) (by rw [hq]; decide))
        go_wp2_with fail
        go_roundw
        case rel =>
          refine ⟨k + 1, by omega, by go_num, Lib.hid (fun n hn => ?_), HP2⟩
          rcases Nat.lt_or_ge n k with h | h
          · exact hN.out n h
          · obtain rfl : n = k := by omega
            exact HQ.out
        case measure => simp [intOf]; omega
    · obtain rfl : k = 64 := by omega
      obtain ⟨d1, d2⟩ := hP.out.cell1
      have e1 := Lib.hid (bitsF_none hN.out)
      go_wp2_with fail
      go_ret
      exact ⟨ret_int (by rw [bitsV, e1.out]; rfl), by simpa [e1.out] using hP.out.set true⟩
end Go.Proofs.YtomkohdlaednhaaGreatDoor
