import Derived.Test.YtomkohdlaednhaaGreatDoorM
import Derived.Test.YtomkohdlaednhaaGreatDoorO2
import Derived.Test.YtomkohdlaednhaaGreatDoorO3
import Derived.BigFrame
import Derived.Laws.Tables
import Derived.Laws.CopyOwn
import Derived.Deep.DeepCutAuto
set_option linter.unusedSimpArgs false
set_option linter.unusedVariables false
namespace Go.Proofs.YtomkohdlaednhaaGreatDoor
open Go.RowKit Go.Proofs.YtomkohdlaednhaaGreatDoorW.PrintWords

def sameB (a b : RuleV) : Bool := a.pass == b.pass && (a.ret == b.ret && (a.quick == b.quick && (a.on.toList == b.on.toList && (a.proto == b.proto && ((a.src.any == b.src.any && (a.src.table.toList == b.src.table.toList && ((a.src.addr == b.src.addr && (a.src.len == b.src.len)) && ((a.src.low == b.src.low && (a.src.high == b.src.high)))))) && ((a.dst.any == b.dst.any && (a.dst.table.toList == b.dst.table.toList && ((a.dst.addr == b.dst.addr && (a.dst.len == b.dst.len)) && ((a.dst.low == b.dst.low && (a.dst.high == b.dst.high)))))) && (a.set == b.set && (a.mask == b.mask && (a.type == b.type && (a.keep == b.keep && ((a.route.on == b.route.on && (a.route.iface.toList == b.route.iface.toList && (a.route.gate == b.route.gate))) && ((a.reply.on == b.reply.on && (a.reply.iface.toList == b.reply.iface.toList && (a.reply.gate == b.reply.gate))) && (a.table == b.table)))))))))))))
theorem eq_rows (a b : RuleV) (w : World) : (Op.equalIn 10000 32 (.agg a.cells) (.agg b.cells)).run Tryz.prog w = .ok (sameB a b) w :=
  PConfParses.eqA32 9996 w _ _ _ _ _ _ _ _ _ _ _ _ _ _ _ _ _ _ _ _ _ _ _ _ _ _ _ _ _ _ _ _ _ _ _ _ _ _ _ _ _ _ _ _ _ _ _ _ _ _ _ _ _ _ _ _
theorem sameB_refl (a : RuleV) : sameB a a = true := by simp [sameB]
theorem sameB_eq {a b : RuleV} (h : sameB a b = true) : a = b := by
  obtain ⟨a1, a2, a3, a4, a5, ⟨b1, b2, b3, b4, b5, b6⟩, ⟨c1, c2, c3, c4, c5, c6⟩, a8, a9, a10, a11, ⟨d1, d2, d3⟩, ⟨e1, e2, e3⟩, a14⟩ := a
  obtain ⟨a1', a2', a3', a4', a5', ⟨b1', b2', b3', b4', b5', b6'⟩, ⟨c1', c2', c3', c4', c5', c6'⟩, a8', a9', a10', a11', ⟨d1', d2', d3'⟩, ⟨e1', e2', e3'⟩, a14'⟩ := b
  simp only [sameB, Bool.and_eq_true, beq_iff_eq, toList_inj] at h
  obtain ⟨rfl, rfl, rfl, rfl, rfl, ⟨rfl, rfl, ⟨rfl, rfl⟩, rfl, rfl⟩, ⟨rfl, rfl, ⟨rfl, rfl⟩, rfl, rfl⟩, rfl, rfl, rfl, rfl, ⟨rfl, rfl, rfl⟩, ⟨rfl, rfl, rfl⟩, rfl⟩ := h
  rfl
set_option maxRecDepth 100000 in
set_option maxHeartbeats 4000000 in
theorem rsame_calls (a b : RuleV) (w : World) :
    Calls Tryz.prog 13 #[a.val, b.val] w fun e w' => e = .returned (.bool (sameB a b)) ∧ Grows w w' := by
  have e1 : a.val = .agg a.cells := rfl
  have e2 : b.val = .agg b.cells := rfl
  rw [e1, e2, RuleV.cells, RuleV.cells]
  clear e1 e2
  obtain ⟨n, hn⟩ : ∃ n, n = w.heap.size := ⟨_, rfl⟩
  have HN := Lib.hid hn
  clear hn
  have hq := eq_rows a b
  go_enter Tryz.func13, Tryz.ntmps13
  go_upto_region 0 with fail
  go_cut [4, 3, 2, 1, 0] (fun s4 s3 s2 _ _ wc => s4 = .bool false ∧ s3 = .pointer (some ⟨n + 1, 0, none⟩) ∧ s2 = .pointer (some ⟨n, 0, none⟩) ∧ wc.heap[n]? = some (ruleBlk a) ∧ wc.heap[n + 1]? = some (ruleBlk b) ∧ Grows w wc)
  case first =>
    as_aux_lemma =>
    go_wp2_with fail
    go_meet
    refine ⟨rfl, by rw [HN.out], by rw [HN.out], ?_, ?_, below_alloc (below_alloc (Below.refl _ _) _) _⟩
    · rw [HN.out]; exact blkG (heap_alloc_new w (ruleBlk a)) (below_alloc (Below.refl _ _) _)
    · rw [HN.out]; have := heap_alloc_new (w.alloc (ruleBlk a)) (ruleBlk b); rw [show (w.alloc (ruleBlk a)).heap.size = w.heap.size + 1 from by simp] at this; exact this
  case rest =>
  as_aux_lemma =>
  obtain ⟨rfl, rfl, rfl, hg, hg1, hw⟩ := hcut
  have HG := Lib.hid hg
  have HG1 := Lib.hid hg1
  have HW := Lib.hid hw
  clear hg hg1 hw HN
  go_wp2_with (first
    | (refine Go.BigFrame.wpList_want (by go_simp) fun K hK => wp_load_row 32 (.tmp 2) rfl n rfl 32 a.cells (0, 0) _ HG.out Tryz.underlying32 rfl (by kernel_rfl) (hK _ _ ?_))
    | (refine Go.BigFrame.wpList_want (by go_simp) fun K hK => wp_load_row 32 (.tmp 3) rfl (n + 1) rfl 32 b.cells (0, 0) _ HG1.out Tryz.underlying32 rfl (by kernel_rfl) (hK _ _ ?_)))
  go_ret
  exact ⟨rfl, HW.out⟩
set_option maxRecDepth 100000 in
set_option maxHeartbeats 4000000 in
theorem same_calls (a b : RuleV) (w : World) :
    Calls Tryz.prog 24 #[a.val, b.val] w fun e w' => e = .returned (.bool (sameB a b)) ∧ Grows w w' := by
  have e1 : a.val = .agg a.cells := rfl
  have e2 : b.val = .agg b.cells := rfl
  rw [e1, e2, RuleV.cells, RuleV.cells]
  clear e1 e2
  obtain ⟨n, hn⟩ : ∃ n, n = w.heap.size := ⟨_, rfl⟩
  have HN := Lib.hid hn
  clear hn
  have hq := eq_rows a b
  go_enter Tryz.func24, Tryz.ntmps24
  go_upto_region 0 with fail
  go_cut [4, 3, 2, 1, 0] (fun s4 s3 s2 _ _ wc => s4 = .bool false ∧ s3 = .pointer (some ⟨n + 1, 0, none⟩) ∧ s2 = .pointer (some ⟨n, 0, none⟩) ∧ wc.heap[n]? = some (ruleBlk a) ∧ wc.heap[n + 1]? = some (ruleBlk b) ∧ Grows w wc)
  case first =>
    as_aux_lemma =>
    go_wp2_with fail
    go_meet
    refine ⟨rfl, by rw [HN.out], by rw [HN.out], ?_, ?_, below_alloc (below_alloc (Below.refl _ _) _) _⟩
    · rw [HN.out]; exact blkG (heap_alloc_new w (ruleBlk a)) (below_alloc (Below.refl _ _) _)
    · rw [HN.out]; have := heap_alloc_new (w.alloc (ruleBlk a)) (ruleBlk b); rw [show (w.alloc (ruleBlk a)).heap.size = w.heap.size + 1 from by simp] at this; exact this
  case rest =>
  as_aux_lemma =>
  obtain ⟨rfl, rfl, rfl, hg, hg1, hw⟩ := hcut
  have HG := Lib.hid hg
  have HG1 := Lib.hid hg1
  have HW := Lib.hid hw
  clear hg hg1 hw HN
  go_wp2_with (first
    | (refine Go.BigFrame.wpList_want (by go_simp) fun K hK => wp_load_row 32 (.tmp 2) rfl n rfl 32 a.cells (0, 0) _ HG.out Tryz.underlying32 rfl (by kernel_rfl) (hK _ _ ?_))
    | (refine Go.BigFrame.wpList_want (by go_simp) fun K hK => wp_load_row 32 (.tmp 3) rfl (n + 1) rfl 32 b.cells (0, 0) _ HG1.out Tryz.underlying32 rfl (by kernel_rfl) (hK _ _ ?_)))
  go_ret
  exact ⟨rfl, HW.out⟩
end Go.Proofs.YtomkohdlaednhaaGreatDoor
