import Derived.Test.YtomkohdlaednhaaGreatDoorAK
import Derived.Test.YtomkohdlaednhaaGreatDoorAC
set_option linter.unusedSimpArgs false
set_option linter.unusedVariables false
namespace Go.Proofs.YtomkohdlaednhaaGreatDoor
open Go.RowKit Go.Proofs.YtomkohdlaednhaaGreatDoorW.PrintWords PConfParses

/-- A rule in a new block, as a walk lays it: the block, then the row. -/
theorem row_laid {w w1 : World} (h : Grows w w1) (cs : Array Value) :
    ((w1.alloc (ruleBlk zRule)).setRow w1.heap.size cs).heap[w1.heap.size]? = some (.cells cs 32 (0, 0)) ∧ Grows w1 ((w1.alloc (ruleBlk zRule)).setRow w1.heap.size cs) :=
  ⟨setRow_heap _ _ zRule.cells cs 32 (0, 0) (heap_alloc_new w1 (ruleBlk zRule)), below_setRow (below_alloc (Below.refl _ _) _) (Nat.le_refl _) _⟩
theorem lit32 : (Obj.cells #[.bool false, .bool false, .bool false, .string ⟨#[]⟩, .int .i64 0, .bool false, .string ⟨#[]⟩, .int .u32 0, .int .i64 0, .int .i64 0, .int .i64 0, .bool false, .string ⟨#[]⟩, .int .u32 0, .int .i64 0, .int .i64 0, .int .i64 0, .int .i64 0, .int .i64 0, .int .i64 0, .bool false, .bool false, .string ⟨#[]⟩, .int .u32 0, .bool false, .string ⟨#[]⟩, .int .u32 0, .int .i64 0] 32) = ruleBlk zRule := rfl
set_option maxRecDepth 100000 in
set_option maxHeartbeats 4000000 in
theorem lawParses_calls (s : ByteArray) (w : World) (he : Env w) (hs : s.size ≤ 9223372036854775807) :
    Calls Tryz.prog 3 #[.string s] w fun e w' => e = .returned (.bool true) ∧ Grows w w' := by
  have HE := Lib.hid he
  clear he
  by_cases hl : 400 < s.size
  · go_enter Tryz.func3, Tryz.ntmps3
    go_wp2_with fail
    go_ret
    exact ⟨rfl, Below.refl _ _⟩
  · obtain ⟨R, hR⟩ : ∃ R, R = ruleOf (wordsS s) := ⟨_, rfl⟩
    have HS : Hid (s.size ≤ 400) := Lib.hid (by omega)
    have hp := parse_calls s w (by omega) HE.out
    rw [← hR] at hp
    have e0 : R.1.val = .agg R.1.cells := rfl
    rw [e0] at hp
    have HP := Lib.hid hp
    have hq : ∀ w1, Grows w w1 → Calls Tryz.prog 12 #[.string s] w1 fun e w' => e = .returned (.tuple #[.agg R.1.cells, .int .i64 R.2]) ∧ Grows w1 w' := by
      intro w1 h1
      have := rparse_calls s w1 (by omega) (HE.out.below h1)
      rw [parse_same, ← hR] at this
      exact this
    have HQ := Lib.hid hq
    have HRR := Lib.hid hR
    clear hR hp hq e0
    go_enter Tryz.func3, Tryz.ntmps3
    go_wp2_with fail
    refine HP.out.mono ?_
    rintro e w1 ⟨rfl, hb⟩
    have HB := Lib.hid hb
    have HZ := Lib.hid (heap_alloc_new w1 (ruleBlk zRule))
    clear hb HP
    go_upto_region 4 with (refine wpList_store_row rfl 32 (.tmp 3) (.tmp 13) rfl w1.heap.size R.1.cells rfl rfl 32 zRule.cells HZ.out (by kernel_rfl) rfl (rule_one _) ?_)
    rw [lit32]
    obtain ⟨w2, e2⟩ : ∃ w2, w2 = (w1.alloc (ruleBlk zRule)).setRow w1.heap.size R.1.cells := ⟨_, rfl⟩
    have h2 := row_laid HB.out R.1.cells
    rw [← e2] at h2 ⊢
    have HR2 := Lib.hid h2.1
    have HW2 : Hid (Grows w w2) := Lib.hid (below_then HB.out HB.out.size h2.2)
    clear e2 h2 HZ
    obtain ⟨b1, hb1⟩ : ∃ b1, b1 = w1.heap.size := ⟨_, rfl⟩
    rw [← hb1] at HR2 ⊢
    clear hb1 HB
    go_wp2_with fail
    refine (HQ.out w2 HW2.out).mono ?_
    rintro e w3 ⟨rfl, hb⟩
    have HR3 := Lib.hid (blkG HR2.out hb)
    have HW3 : Hid (Grows w w3) := Lib.hid (below_then HW2.out HW2.out.size hb)
    have HZ := Lib.hid (heap_alloc_new w3 (ruleBlk zRule))
    clear hb HR2 HW2 HQ
    go_upto_region 5 with (refine wpList_store_row rfl 32 (.tmp 5) (.tmp 18) rfl w3.heap.size R.1.cells rfl rfl 32 zRule.cells HZ.out (by kernel_rfl) rfl (rule_one _) ?_)
    rw [lit32]
    obtain ⟨w4, e4⟩ : ∃ w4, w4 = (w3.alloc (ruleBlk zRule)).setRow w3.heap.size R.1.cells := ⟨_, rfl⟩
    have h4 := row_laid HW3.out R.1.cells
    rw [← e4] at h4 ⊢
    have HR4 := Lib.hid h4.1
    have HR4a := Lib.hid (blkG HR3.out h4.2)
    have HW4 : Hid (Grows w w4) := Lib.hid (below_then HW3.out HW3.out.size h4.2)
    clear e4 h4 HZ HR3
    obtain ⟨b2, hb2⟩ : ∃ b2, b2 = w3.heap.size := ⟨_, rfl⟩
    rw [← hb2] at HR4 ⊢
    clear hb2 HW3
    have hsame := rsame_calls R.1 R.1 w4
    rw [sameB_refl] at hsame
    have e0 : R.1.val = .agg R.1.cells := rfl
    rw [e0] at hsame
    have HSM := Lib.hid hsame
    clear hsame e0
    go_wp2_with (first
      | (refine Go.BigFrame.wpList_want (by go_simp) fun K hK => wp_load_row 32 (.tmp 3) rfl b1 rfl 32 R.1.cells (0, 0) _ HR4a.out Tryz.underlying32 rfl (by kernel_rfl) (hK _ _ ?_))
      | (refine Go.BigFrame.wpList_want (by go_simp) fun K hK => wp_load_row 32 (.tmp 5) rfl b2 rfl 32 R.1.cells (0, 0) _ HR4.out Tryz.underlying32 rfl (by kernel_rfl) (hK _ _ ?_)))
    refine HSM.out.mono ?_
    rintro e w5 ⟨rfl, hb⟩
    have HW5 : Hid (Grows w w5) := Lib.hid (below_then HW4.out HW4.out.size hb)
    clear hb HR4 HR4a HW4
    go_wp2_with fail
    refine (name_calls s w5).mono ?_
    rintro e w6 ⟨rfl, hb⟩
    have HW6 : Hid (Grows w w6) := Lib.hid (below_then HW5.out HW5.out.size hb)
    clear hb HW5
    go_wp2_with fail
    refine (rname_calls s w6 (by have := HS.out; omega)).mono ?_
    rintro e w7 ⟨rfl, hb⟩
    have HW7 : Hid (Grows w w7) := Lib.hid (below_then HW6.out HW6.out.size hb)
    clear hb HW6
    go_wp2_with fail
    refine (known_calls w7 (HE.out.below HW7.out)).mono ?_
    rintro e w8 ⟨rfl, hb⟩
    have HW8 : Hid (Grows w w8) := Lib.hid (below_then HW7.out HW7.out.size hb)
    clear hb HW7
    go_wp2_with fail
    go_ret
    exact ⟨rfl, HW8.out⟩
end Go.Proofs.YtomkohdlaednhaaGreatDoor
