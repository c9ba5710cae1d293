import Derived.Test.YtomkohdlaednhaaGreatDoorAI
import Derived.Test.YtomkohdlaednhaaGreatDoorAJ
import Derived.KernelRfl
set_option linter.unusedSimpArgs false
set_option linter.unusedVariables false
namespace Go.Proofs.YtomkohdlaednhaaGreatDoor
open Go.RowKit Go.Proofs.YtomkohdlaednhaaGreatDoorW.PrintWords PConfParses

def knownS : ByteArray := ⟨#[112, 97, 115, 115, 32, 102, 114, 111, 109, 32, 97, 110, 121, 32, 116, 111, 32, 49, 48, 46, 48, 46, 48, 46, 49]⟩
def knownP : ByteArray := ⟨#[112, 97, 115, 115, 32, 102, 114, 111, 109, 32, 97, 110, 121, 32, 116, 111, 32, 49, 48, 46, 48, 46, 48, 46, 49, 47, 51, 50]⟩
def knownR : RuleV := { zRef with pass := true, src := ⟨true, ⟨#[]⟩, 0, 0, 0, 65535⟩, dst := ⟨false, ⟨#[]⟩, 167772161, 32, 0, 65535⟩ }
theorem known_parse : ruleOf (wordsS knownS) = (knownR, 0) := by kernel_rfl
theorem known_print : printR knownR = knownP := by kernel_rfl
theorem known_kinds : Kinds knownR := ⟨by decide, by decide, by decide, by decide⟩
set_option maxRecDepth 100000 in
set_option maxHeartbeats 4000000 in
theorem known_calls (w : World) (he : Env w) :
    Calls Tryz.prog 16 #[] w fun e w' => e = .returned (.bool true) ∧ Grows w w' := by
  have HE := Lib.hid he
  clear he
  go_enter Tryz.func16, Tryz.ntmps16
  go_wp2_with fail
  have hp := parse_calls knownS w (by decide) HE.out
  rw [known_parse] at hp
  have e0 : (knownR, (0 : Int)).1.val = .agg knownR.cells := rfl
  rw [e0] at hp
  have HP := Lib.hid hp
  clear hp e0
  refine HP.out.mono ?_
  rintro e w1 ⟨rfl, hb⟩
  have HB := Lib.hid hb
  have HZ := Lib.hid (heap_alloc_new w1 (ruleBlk zRule))
  clear hb
  go_upto_region 2 with (refine wpList_store_row rfl 32 (.tmp 1) (.tmp 5) rfl w1.heap.size knownR.cells rfl rfl 32 zRule.cells HZ.out (by kernel_rfl) rfl (rule_one _) ?_)
  have hr : ((w1.alloc (ruleBlk zRule)).setRow w1.heap.size knownR.cells).heap[w1.heap.size]? = some (.cells knownR.cells 32 (0, 0)) := setRow_heap _ _ zRule.cells knownR.cells 32 (0, 0) HZ.out
  have hw2 : Grows w ((w1.alloc (ruleBlk zRule)).setRow w1.heap.size knownR.cells) := below_setRow (below_alloc HB.out _) HB.out.size _
  obtain ⟨w2, e2⟩ : ∃ w2, w2 = (w1.alloc (ruleBlk zRule)).setRow w1.heap.size knownR.cells := ⟨_, rfl⟩
  rw [← e2] at hr hw2
  have E2 : Hid ((w1.alloc (.cells #[.bool false, .bool false, .bool false, .string ⟨#[]⟩, .int .i64 0, .bool false, .string ⟨#[]⟩, .int .u32 0, .int .i64 0, .int .i64 0, .int .i64 0, .bool false, .string ⟨#[]⟩, .int .u32 0, .int .i64 0, .int .i64 0, .int .i64 0, .int .i64 0, .int .i64 0, .int .i64 0, .bool false, .bool false, .string ⟨#[]⟩, .int .u32 0, .bool false, .string ⟨#[]⟩, .int .u32 0, .int .i64 0] 32)).setRow w1.heap.size knownR.cells = w2) := Lib.hid e2.symm
  rw [E2.out]
  obtain ⟨b, hb⟩ : ∃ b, b = w1.heap.size := ⟨_, rfl⟩
  rw [← hb] at hr ⊢
  have HR := Lib.hid hr
  have HW2 := Lib.hid hw2
  clear hr hw2 e2 E2 hb HZ HP
  have hp := print_calls knownR w2 (HE.out.below HW2.out) known_kinds ⟨by decide, by decide⟩
  rw [known_print] at hp
  have e0 : knownR.val = .agg knownR.cells := rfl
  rw [e0] at hp
  have HP := Lib.hid hp
  clear hp e0
  go_wp2_with (refine Go.BigFrame.wpList_want (by go_simp) fun K hK => wp_load_row 32 (.tmp 1) rfl b rfl 32 knownR.cells (0, 0) _ HR.out Tryz.underlying32 rfl (by kernel_rfl) (hK _ _ ?_))
  refine HP.out.mono ?_
  rintro e w3 ⟨rfl, hb3⟩
  have HW3 : Hid (Grows w w3) := Lib.hid (below_then HW2.out HW2.out.size hb3)
  clear hb3
  have hs : (knownP.toList == [112, 97, 115, 115, 32, 102, 114, 111, 109, 32, 97, 110, 121, 32, 116, 111, 32, 49, 48, 46, 48, 46, 48, 46, 49, 47, 51, 50]) = true := by decide +kernel
  go_wp2_with fail
  go_ret
  exact ⟨rfl, HW3.out⟩
end Go.Proofs.YtomkohdlaednhaaGreatDoor
