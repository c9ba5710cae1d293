import Derived.Test.YtomkohdlaednhaaGreatDoorAL
import Derived.Test.YtomkohdlaednhaaGreatDoorBE
set_option linter.unusedSimpArgs false
set_option linter.unusedVariables false
namespace Go.Proofs.YtomkohdlaednhaaGreatDoor
open Go.RowKit Go.Proofs.YtomkohdlaednhaaGreatDoorW.PrintWords PConfParses

set_option maxRecDepth 100000 in
set_option maxHeartbeats 4000000 in
theorem settles_no (s : ByteArray) (w : World) (he : Env w) (hs : ¬ 400 < s.size) (hq : ruleOf (wordsS s) = (zRule, 2)) :
    Calls Tryz.prog 5 #[.string s] w fun e w' => e = .returned (.bool true) ∧ Grows w w' := by
  have HE := Lib.hid he
  have hp := parse_calls s w (by omega) HE.out
  rw [hq] at hp
  have e0 : (zRule, (2 : Int)).1.val = .agg zRule.cells := rfl
  rw [e0] at hp
  have HP := Lib.hid hp
  have hq2 : ∀ w1, Grows w w1 → Calls Tryz.prog 12 #[.string s] w1 fun e w' => e = .returned (.tuple #[.agg zRule.cells, .int .i64 2]) ∧ Grows w1 w' := by
    intro w1 h1
    have := rparse_calls s w1 (by omega) (HE.out.below h1)
    rw [parse_same, hq] at this
    exact this
  have HQ := Lib.hid hq2
  clear he hp hq2 e0 hq
  go_enter Tryz.func5, Tryz.ntmps5
  go_wp2_with fail
  refine HP.out.mono ?_
  rintro e w1 ⟨rfl, hb⟩
  have HB := Lib.hid hb
  have HZ := Lib.hid (heap_alloc_new w1 (ruleBlk zRule))
  clear hb HP
  go_upto_region 4 with (refine wpList_store_row rfl 32 (.tmp 3) (.tmp 15) rfl w1.heap.size zRule.cells rfl rfl 32 zRule.cells HZ.out (by kernel_rfl) rfl (rule_one _) ?_)
  rw [lit32]
  obtain ⟨w2, e2⟩ : ∃ w2, w2 = (w1.alloc (ruleBlk zRule)).setRow w1.heap.size zRule.cells := ⟨_, rfl⟩
  have h2 := row_laid HB.out zRule.cells
  rw [← e2] at h2 ⊢
  have HW2 : Hid (Grows w w2) := Lib.hid (below_then HB.out HB.out.size h2.2)
  clear e2 h2 HZ
  go_wp2_with fail
  refine (HQ.out w2 HW2.out).mono ?_
  rintro e w3 ⟨rfl, hb⟩
  have HW3 : Hid (Grows w w3) := Lib.hid (below_then HW2.out HW2.out.size hb)
  have HZ := Lib.hid (heap_alloc_new w3 (ruleBlk zRule))
  clear hb HW2 HQ
  go_upto_region 6 with (refine wpList_store_row rfl 32 (.tmp 5) (.tmp 22) rfl w3.heap.size zRule.cells rfl rfl 32 zRule.cells HZ.out (by kernel_rfl) rfl (rule_one _) ?_)
  rw [lit32]
  obtain ⟨w4, e4⟩ : ∃ w4, w4 = (w3.alloc (ruleBlk zRule)).setRow w3.heap.size zRule.cells := ⟨_, rfl⟩
  have h4 := row_laid HW3.out zRule.cells
  rw [← e4] at h4 ⊢
  have HW4 : Hid (Grows w w4) := Lib.hid (below_then HW3.out HW3.out.size h4.2)
  clear e4 h4 HZ HW3
  go_wp2_with fail
  refine (known_calls w4 (HE.out.below HW4.out)).mono ?_
  rintro e w8 ⟨rfl, hb⟩
  have HW8 : Hid (Grows w w8) := Lib.hid (below_then HW4.out HW4.out.size hb)
  clear hb HW4
  go_wp2_with fail
  go_ret
  exact ⟨rfl, HW8.out⟩
set_option maxRecDepth 100000 in
set_option maxHeartbeats 4000000 in
theorem settles_yes (s : ByteArray) (w : World) (V : RuleV) (he : Env w) (hs : ¬ 400 < s.size) (hq : ruleOf (wordsS s) = (V, 0)) (hI : isB V = true) (hK : Kinds V) (hS : -9223372036854775808 ≤ V.set ∧ V.set ≤ 9223372036854775807) :
    Calls Tryz.prog 5 #[.string s] w fun e w' => e = .returned (.bool true) ∧ Grows w w' := by
  have HE := Lib.hid he
  have e0 : (V, (0 : Int)).1.val = .agg V.cells := rfl
  have e1 : V.val = .agg V.cells := rfl
  have hp := parse_calls s w (by omega) HE.out
  rw [hq, e0] at hp
  have HP := Lib.hid hp
  have hR := isB_R hI hK hS.1 hS.2
  have hsz : (printR V).size ≤ 4100 := by rw [printR, hI]; exact text_size V hI hR
  have hpr : ∀ w1, Grows w w1 → Calls Tryz.prog 19 #[.agg V.cells] w1 fun e w' => e = .returned (.string (printR V)) ∧ Grows w1 w' := fun w1 h1 => by
    have := print_calls V w1 (HE.out.below h1) hK hS
    rw [e1] at this
    exact this
  have hp2 : ∀ w1, Grows w w1 → Calls Tryz.prog 11 #[.string (printR V)] w1 fun e w' => e = .returned (.tuple #[.agg V.cells, .int .i64 0]) ∧ Grows w1 w' := fun w1 h1 => by
    have := parse_calls (printR V) w1 (by omega) (HE.out.below h1)
    rw [print_back V hI hK hS, e0] at this
    exact this
  have hsame : ∀ w1, Calls Tryz.prog 13 #[.agg V.cells, .agg V.cells] w1 fun e w' => e = .returned (.bool true) ∧ Grows w1 w' := fun w1 => by
    have := rsame_calls V V w1
    rw [sameB_refl, e1] at this
    exact this
  have his : ∀ w1, Calls Tryz.prog 21 #[.agg V.cells] w1 fun e w' => e = .returned (.bool true) ∧ Grows w1 w' := fun w1 => by
    have := is_calls' V w1
    rw [hI, e1] at this
    exact this
  have HPR := Lib.hid hpr
  have HP2 := Lib.hid hp2
  have HSM := Lib.hid hsame
  have HIS := Lib.hid his
  clear he hp e0 e1 hq hR hsz hpr hp2 hsame his hI hK hS
  go_enter Tryz.func5, Tryz.ntmps5
  go_wp2_with fail
  refine HP.out.mono ?_
  rintro e w1 ⟨rfl, hb⟩
  have HB := Lib.hid hb
  have HZ := Lib.hid (heap_alloc_new w1 (ruleBlk zRule))
  clear hb HP
  go_upto_region 4 with (refine wpList_store_row rfl 32 (.tmp 3) (.tmp 15) rfl w1.heap.size V.cells rfl rfl 32 zRule.cells HZ.out (by kernel_rfl) rfl (rule_one _) ?_)
  rw [lit32]
  obtain ⟨w2, e2⟩ : ∃ w2, w2 = (w1.alloc (ruleBlk zRule)).setRow w1.heap.size V.cells := ⟨_, rfl⟩
  have h2 := row_laid HB.out V.cells
  rw [← e2] at h2 ⊢
  have HR2 := Lib.hid h2.1
  have HW2 : Hid (Grows w w2) := Lib.hid (below_then HB.out HB.out.size h2.2)
  clear e2 h2 HZ
  obtain ⟨b1, hb1⟩ : ∃ b1, b1 = w1.heap.size := ⟨_, rfl⟩
  rw [← hb1] at HR2 ⊢
  clear hb1 HB
  go_wp2_with (refine Go.BigFrame.wpList_want (by go_simp) fun K hK => wp_load_row 32 (.tmp 3) rfl b1 rfl 32 V.cells (0, 0) _ HR2.out Tryz.underlying32 rfl (by kernel_rfl) (hK _ _ ?_))
  refine (HPR.out w2 HW2.out).mono ?_
  rintro e w3 ⟨rfl, hb⟩
  have HR3 := Lib.hid (blkG HR2.out hb)
  have HW3 : Hid (Grows w w3) := Lib.hid (below_then HW2.out HW2.out.size hb)
  clear hb HR2 HW2 HPR
  go_wp2_with fail
  refine (HP2.out w3 HW3.out).mono ?_
  rintro e w4 ⟨rfl, hb⟩
  have HR4 := Lib.hid (blkG HR3.out hb)
  have HW4 : Hid (Grows w w4) := Lib.hid (below_then HW3.out HW3.out.size hb)
  have HZ := Lib.hid (heap_alloc_new w4 (ruleBlk zRule))
  clear hb HR3 HW3 HP2
  go_upto_region 8 with (refine wpList_store_row rfl 32 (.tmp 7) (.tmp 33) rfl w4.heap.size V.cells rfl rfl 32 zRule.cells HZ.out (by kernel_rfl) rfl (rule_one _) ?_)
  rw [lit32]
  obtain ⟨w5, e5⟩ : ∃ w5, w5 = (w4.alloc (ruleBlk zRule)).setRow w4.heap.size V.cells := ⟨_, rfl⟩
  have h5 := row_laid HW4.out V.cells
  rw [← e5] at h5 ⊢
  have HR5 := Lib.hid h5.1
  have HR5a := Lib.hid (blkG HR4.out h5.2)
  have HW5 : Hid (Grows w w5) := Lib.hid (below_then HW4.out HW4.out.size h5.2)
  clear e5 h5 HZ HR4
  obtain ⟨b2, hb2⟩ : ∃ b2, b2 = w4.heap.size := ⟨_, rfl⟩
  rw [← hb2] at HR5 ⊢
  clear hb2 HW4
  go_wp2_with (first
    | (refine Go.BigFrame.wpList_want (by go_simp) fun K hK => wp_load_row 32 (.tmp 3) rfl b1 rfl 32 V.cells (0, 0) _ HR5a.out Tryz.underlying32 rfl (by kernel_rfl) (hK _ _ ?_))
    | (refine Go.BigFrame.wpList_want (by go_simp) fun K hK => wp_load_row 32 (.tmp 7) rfl b2 rfl 32 V.cells (0, 0) _ HR5.out Tryz.underlying32 rfl (by kernel_rfl) (hK _ _ ?_)))
  refine (HSM.out w5).mono ?_
  rintro e w6 ⟨rfl, hb⟩
  have HR6 := Lib.hid (blkG HR5a.out hb)
  have HW6 : Hid (Grows w w6) := Lib.hid (below_then HW5.out HW5.out.size hb)
  clear hb HR5 HR5a HW5
  go_wp2_with (refine Go.BigFrame.wpList_want (by go_simp) fun K hK => wp_load_row 32 (.tmp 3) rfl b1 rfl 32 V.cells (0, 0) _ HR6.out Tryz.underlying32 rfl (by kernel_rfl) (hK _ _ ?_))
  refine (HIS.out w6).mono ?_
  rintro e w7 ⟨rfl, hb⟩
  have HW7 : Hid (Grows w w7) := Lib.hid (below_then HW6.out HW6.out.size hb)
  clear hb HW6
  go_wp2_with fail
  refine (known_calls w7 (HE.out.below HW7.out)).mono ?_
  rintro e w8 ⟨rfl, hb⟩
  have HW8 : Hid (Grows w w8) := Lib.hid (below_then HW7.out HW7.out.size hb)
  clear hb HW7
  go_wp2_with fail
  go_ret
  exact ⟨rfl, HW8.out⟩
theorem lawSettles_calls (s : ByteArray) (w : World) (he : Env w) (hs : s.size ≤ 9223372036854775807) :
    Calls Tryz.prog 5 #[.string s] w fun e w' => e = .returned (.bool true) ∧ Grows w w' := by
  by_cases hl : 400 < s.size
  · go_enter Tryz.func5, Tryz.ntmps5
    go_wp2_with fail
    go_ret
    exact ⟨rfl, Below.refl _ _⟩
  · rcases rule_cases (wordsS s) with h | ⟨V, h, hI, hK, hS⟩
    · exact settles_no s w he hl h
    · exact settles_yes s w V he hl h hI hK hS
end Go.Proofs.YtomkohdlaednhaaGreatDoor
