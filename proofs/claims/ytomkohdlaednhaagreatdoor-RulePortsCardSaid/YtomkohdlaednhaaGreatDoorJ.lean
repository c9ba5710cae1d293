import Derived.Test.YtomkohdlaednhaaGreatDoorI
set_option linter.unusedSimpArgs false
set_option linter.unusedVariables false
namespace Go.Proofs.YtomkohdlaednhaaGreatDoor
open Go.RowKit Go.Proofs.YtomkohdlaednhaaGreatDoorW.PrintWords

theorem blank_calls (x : Nat) (w : World) (hx : x ≤ 1114111) :
    Calls Tryz.prog 33 #[.int .i32 (x : Int)] w fun e w' => e = .returned (.bool (x == 32)) ∧ w' = w := by
  cases hq : (x == 32) with
  | true =>
    obtain rfl : x = 32 := by simpa using hq
    go_enter Tryz.func33, Tryz.ntmps33
    go_wp2
    go_ret
    exact ⟨rfl, rfl⟩
  | false =>
    have h1 : (((x : Nat) : Int) == 32) = false := by
      rw [beq_eq_false_iff_ne]
      intro h
      have : x = 32 := by omega
      simp [this] at hq
    go_enter Tryz.func33, Tryz.ntmps33
    go_wp2
    go_ret
    exact ⟨rfl, rfl⟩
/-- The words of a text. -/
def wordsS (s : ByteArray) : List ByteArray := Lib.goFieldsP (· == 32) s
theorem fields_calls (s : ByteArray) (w : World) (hs : s.size ≤ 4294967280) :
    Calls Tryz.prog 32 #[.string s, .func (.func 33) #[] #[]] w fun e w' => ∃ A, e = .returned (.slice A (wordsS s).length (wordsS s).length) ∧ Strs w' A (wordsS s).length (wordsS s) ∧ Grows w w' := by
  refine (Tryz.strings_FieldsFunc_runes 33 #[] ?_ (· == 32) s w (by omega) ?_).mono ?_
  · exact enters_of Tryz.func33 (by kernel_rfl) rfl
  · intro W x hx hb
    exact (blank_calls x W hx).mono fun e w' ⟨h1, h2⟩ => ⟨h1, 0, h2⟩
  · rintro e w' ⟨A, rfl, hA, ho, hb⟩
    refine ⟨_, rfl, ?_, hb⟩
    show Strs w' _ (Lib.goFieldsP _ s).length (Lib.goFieldsP _ s)
    generalize Lib.goFieldsP (· == 32) s = L at *
    have hm : L.length ≤ 9223372036854775807 := by
      rcases ho.2 with ⟨_, h1⟩ | ⟨g', cap', cur, he, _, _, h1, h2, _⟩
      · omega
      · simp only [maxLen] at h2
        omega
    refine ⟨Nat.le_refl _, hm, fun _ => ⟨A, 0, rfl, fun j x hx => ?_⟩⟩
    have := ho.cells (g := A) rfl j (.string x) (by simp [hx])
    rw [add_plain] at this
    rwa [Nat.zero_add]
end Go.Proofs.YtomkohdlaednhaaGreatDoor
