import Derived.Test.YtomkohdlaednhaaGreatDoorProg
import Derived.Below
import Derived.Deep.Draws
import Derived.Deep.AppendLies
import Derived.Maps.AppendAt
import Derived.OwnWalk
import Derived.Laws.BytesArg
import Derived.Laws.MakeOwn
import Derived.Laws.OwnMore
import Derived.Deep.OwnRows
import Derived.Tactics
import Derived.Lib.ConvBytes
import Derived.Laws.Slices
import Derived.WalkKit
import Derived.KernelRfl
import Derived.RowKit3
import Derived.Deep.LoopGhost
import Derived.Deep.QuietTactic
import Derived.BigQuiet
import Derived.WideLaws
import Derived.Deep.DeepCutAuto
import Derived.Deep.CutBlock
import Derived.Deep.RegionHeld3
import Derived.Laws.Rows
import Derived.Lib.AppendStr
import Derived.ArgAppend
import Derived.Laws.IdiomCopy
import Derived.OrdersHeld
import Derived.Laws.BitsLemmas
import Derived.RowKit
import Derived.Test.YtomkohdlaednhaaGreatDoorO0
section
namespace Go.Proofs.YtomkohdlaednhaaGreatDoor.PConfParses
open Go.RowKit Go.Proofs.YtomkohdlaednhaaGreatDoorW.PrintWords Go.Proofs.YtomkohdlaednhaaGreatDoorW.PrintLast Go.Proofs.YtomkohdlaednhaaGreatDoorW.PrintMore
attribute [local go_sem] max2_int min2_int max_two min_two max_three min_three max_four min_four   -- for this text's walks alone
set_option linter.unusedVariables false
set_option linter.unusedSimpArgs false
def errW : Option Int → Value
  | none => .nilIface
  | some c => .iface 186 (.int .i64 c)
theorem errW_none : errW none = .nilIface := rfl
theorem errW_some (c : Int) : errW (some c) = .iface 186 (.int .i64 c) := rfl
theorem info9 : (Tryz.prog.info? 9).map (fun i => (i.zero, i.size, i.bytes)) = some (some (.string ⟨#[]⟩), 1, 16) := by kernel_rfl
end Go.Proofs.YtomkohdlaednhaaGreatDoor.PConfParses
end
section
namespace Go.Proofs.YtomkohdlaednhaaGreatDoor.PConfParses
open Go.RowKit Go.Proofs.YtomkohdlaednhaaGreatDoorW.PrintWords Go.Proofs.YtomkohdlaednhaaGreatDoorW.PrintLast Go.Proofs.YtomkohdlaednhaaGreatDoorW.PrintMore
attribute [local go_sem] max2_int min2_int max_two min_two max_three min_three max_four min_four   -- for this text's walks alone
set_option linter.unusedVariables false
set_option linter.unusedSimpArgs false
theorem eqA24 (d : Nat) (w : World) (x0 y0 : Int) (x1 y1 : Int) :
    (Op.equalIn (d + 2) 24 (.agg #[.int .u32 x0, .int .i64 x1]) (.agg #[.int .u32 y0, .int .i64 y1])).run Tryz.prog w = .ok (x0 == y0 && (x1 == y1)) w := by
  refine eqA_of Tryz.underlying24 (by kernel_rfl) ?_
  refine eqf_cons (by rfl) (by go_simp; rfl) (by go_simp; rfl) (by go_simp) ?_
  exact eqf_last (by rfl) (by go_simp; rfl) (by go_simp; rfl) (by go_simp)
end Go.Proofs.YtomkohdlaednhaaGreatDoor.PConfParses
end
section
namespace Go.Proofs.YtomkohdlaednhaaGreatDoor.PConfParses
open Go.RowKit Go.Proofs.YtomkohdlaednhaaGreatDoorW.PrintWords Go.Proofs.YtomkohdlaednhaaGreatDoorW.PrintLast Go.Proofs.YtomkohdlaednhaaGreatDoorW.PrintMore
attribute [local go_sem] max2_int min2_int max_two min_two max_three min_three max_four min_four   -- for this text's walks alone
set_option linter.unusedVariables false
set_option linter.unusedSimpArgs false
theorem eqA30 (d : Nat) (w : World) (x0 y0 : Bool) (x1 y1 : ByteArray) (x2 y2 : Int) :
    (Op.equalIn (d + 2) 30 (.agg #[.bool x0, .string x1, .int .u32 x2]) (.agg #[.bool y0, .string y1, .int .u32 y2])).run Tryz.prog w = .ok (x0 == y0 && (x1.toList == y1.toList && (x2 == y2))) w := by
  refine eqA_of Tryz.underlying30 (by kernel_rfl) ?_
  refine eqf_cons (by rfl) (by go_simp; rfl) (by go_simp; rfl) (by go_simp) ?_
  refine eqf_cons (by rfl) (by go_simp; rfl) (by go_simp; rfl) (by go_simp) ?_
  exact eqf_last (by rfl) (by go_simp; rfl) (by go_simp; rfl) (by go_simp)
end Go.Proofs.YtomkohdlaednhaaGreatDoor.PConfParses
end
section
namespace Go.Proofs.YtomkohdlaednhaaGreatDoor.PConfParses
open Go.RowKit Go.Proofs.YtomkohdlaednhaaGreatDoorW.PrintWords Go.Proofs.YtomkohdlaednhaaGreatDoorW.PrintLast Go.Proofs.YtomkohdlaednhaaGreatDoorW.PrintMore
attribute [local go_sem] max2_int min2_int max_two min_two max_three min_three max_four min_four   -- for this text's walks alone
set_option linter.unusedVariables false
set_option linter.unusedSimpArgs false
theorem eqA26 (d : Nat) (w : World) (x0 y0 : Int) (x1 y1 : Int) :
    (Op.equalIn (d + 2) 26 (.agg #[.int .i64 x0, .int .i64 x1]) (.agg #[.int .i64 y0, .int .i64 y1])).run Tryz.prog w = .ok (x0 == y0 && (x1 == y1)) w := by
  refine eqA_of Tryz.underlying26 (by kernel_rfl) ?_
  refine eqf_cons (by rfl) (by go_simp; rfl) (by go_simp; rfl) (by go_simp) ?_
  exact eqf_last (by rfl) (by go_simp; rfl) (by go_simp; rfl) (by go_simp)
theorem eqA28 (d : Nat) (w : World) (x0 y0 : Bool) (x1 y1 : ByteArray) (x2 y2 : Int) (x3 y3 : Int) (x4 y4 : Int) (x5 y5 : Int) :
    (Op.equalIn (d + 3) 28 (.agg #[.bool x0, .string x1, .int .u32 x2, .int .i64 x3, .int .i64 x4, .int .i64 x5]) (.agg #[.bool y0, .string y1, .int .u32 y2, .int .i64 y3, .int .i64 y4, .int .i64 y5])).run Tryz.prog w = .ok (x0 == y0 && (x1.toList == y1.toList && ((x2 == y2 && (x3 == y3)) && ((x4 == y4 && (x5 == y5)))))) w := by
  refine eqA_of Tryz.underlying28 (by kernel_rfl) ?_
  refine eqf_cons (by rfl) (by go_simp; rfl) (by go_simp; rfl) (by go_simp) ?_
  refine eqf_cons (by rfl) (by go_simp; rfl) (by go_simp; rfl) (by go_simp) ?_
  refine eqf_cons (by rfl) (by go_simp) (by go_simp) (eqA24 (d + 0) w _ _ _ _) ?_
  exact eqf_last (by rfl) (by go_simp) (by go_simp) (eqA26 (d + 0) w _ _ _ _)
theorem eqA32 (d : Nat) (w : World) (x0 y0 : Bool) (x1 y1 : Bool) (x2 y2 : Bool) (x3 y3 : ByteArray) (x4 y4 : Int) (x5 y5 : Bool) (x6 y6 : ByteArray) (x7 y7 : Int) (x8 y8 : Int) (x9 y9 : Int) (x10 y10 : Int) (x11 y11 : Bool) (x12 y12 : ByteArray) (x13 y13 : Int) (x14 y14 : Int) (x15 y15 : Int) (x16 y16 : Int) (x17 y17 : Int) (x18 y18 : Int) (x19 y19 : Int) (x20 y20 : Bool) (x21 y21 : Bool) (x22 y22 : ByteArray) (x23 y23 : Int) (x24 y24 : Bool) (x25 y25 : ByteArray) (x26 y26 : Int) (x27 y27 : Int) :
    (Op.equalIn (d + 4) 32 (.agg #[.bool x0, .bool x1, .bool x2, .string x3, .int .i64 x4, .bool x5, .string x6, .int .u32 x7, .int .i64 x8, .int .i64 x9, .int .i64 x10, .bool x11, .string x12, .int .u32 x13, .int .i64 x14, .int .i64 x15, .int .i64 x16, .int .i64 x17, .int .i64 x18, .int .i64 x19, .bool x20, .bool x21, .string x22, .int .u32 x23, .bool x24, .string x25, .int .u32 x26, .int .i64 x27]) (.agg #[.bool y0, .bool y1, .bool y2, .string y3, .int .i64 y4, .bool y5, .string y6, .int .u32 y7, .int .i64 y8, .int .i64 y9, .int .i64 y10, .bool y11, .string y12, .int .u32 y13, .int .i64 y14, .int .i64 y15, .int .i64 y16, .int .i64 y17, .int .i64 y18, .int .i64 y19, .bool y20, .bool y21, .string y22, .int .u32 y23, .bool y24, .string y25, .int .u32 y26, .int .i64 y27])).run Tryz.prog w = .ok (x0 == y0 && (x1 == y1 && (x2 == y2 && (x3.toList == y3.toList && (x4 == y4 && ((x5 == y5 && (x6.toList == y6.toList && ((x7 == y7 && (x8 == y8)) && ((x9 == y9 && (x10 == y10)))))) && ((x11 == y11 && (x12.toList == y12.toList && ((x13 == y13 && (x14 == y14)) && ((x15 == y15 && (x16 == y16)))))) && (x17 == y17 && (x18 == y18 && (x19 == y19 && (x20 == y20 && ((x21 == y21 && (x22.toList == y22.toList && (x23 == y23))) && ((x24 == y24 && (x25.toList == y25.toList && (x26 == y26))) && (x27 == y27)))))))))))))) w := by
  refine eqA_of Tryz.underlying32 (by kernel_rfl) ?_
  refine eqf_cons (by rfl) (by go_simp; rfl) (by go_simp; rfl) (by go_simp) ?_
  refine eqf_cons (by rfl) (by go_simp; rfl) (by go_simp; rfl) (by go_simp) ?_
  refine eqf_cons (by rfl) (by go_simp; rfl) (by go_simp; rfl) (by go_simp) ?_
  refine eqf_cons (by rfl) (by go_simp; rfl) (by go_simp; rfl) (by go_simp) ?_
  refine eqf_cons (by rfl) (by go_simp; rfl) (by go_simp; rfl) (by go_simp) ?_
  refine eqf_cons (by rfl) (by go_simp) (by go_simp) (eqA28 (d + 0) w _ _ _ _ _ _ _ _ _ _ _ _) ?_
  refine eqf_cons (by rfl) (by go_simp) (by go_simp) (eqA28 (d + 0) w _ _ _ _ _ _ _ _ _ _ _ _) ?_
  refine eqf_cons (by rfl) (by go_simp; rfl) (by go_simp; rfl) (by go_simp) ?_
  refine eqf_cons (by rfl) (by go_simp; rfl) (by go_simp; rfl) (by go_simp) ?_
  refine eqf_cons (by rfl) (by go_simp; rfl) (by go_simp; rfl) (by go_simp) ?_
  refine eqf_cons (by rfl) (by go_simp; rfl) (by go_simp; rfl) (by go_simp) ?_
  refine eqf_cons (by rfl) (by go_simp) (by go_simp) (eqA30 (d + 1) w _ _ _ _ _ _) ?_
  refine eqf_cons (by rfl) (by go_simp) (by go_simp) (eqA30 (d + 1) w _ _ _ _ _ _) ?_
  exact eqf_last (by rfl) (by go_simp; rfl) (by go_simp; rfl) (by go_simp)
end Go.Proofs.YtomkohdlaednhaaGreatDoor.PConfParses
end
section
namespace Go.Proofs.YtomkohdlaednhaaGreatDoor.PConfParses
open Go.RowKit Go.Proofs.YtomkohdlaednhaaGreatDoorW.PrintWords Go.Proofs.YtomkohdlaednhaaGreatDoorW.PrintLast Go.Proofs.YtomkohdlaednhaaGreatDoorW.PrintMore
attribute [local go_sem] max2_int min2_int max_two min_two max_three min_three max_four min_four   -- for this text's walks alone
set_option linter.unusedVariables false
set_option linter.unusedSimpArgs false
attribute [local go_sem high] eqA24
def rule_isPass.f (a0_0 : Bool) (a0_1 : Bool) (a0_2 : Bool) (a0_3 : ByteArray) (a0_4 : Int) (a0_5 : Bool) (a0_6 : ByteArray) (a0_7 : Int) (a0_8 : Int) (a0_9 : Int) (a0_10 : Int) (a0_11 : Bool) (a0_12 : ByteArray) (a0_13 : Int) (a0_14 : Int) (a0_15 : Int) (a0_16 : Int) (a0_17 : Int) (a0_18 : Int) (a0_19 : Int) (a0_20 : Bool) (a0_21 : Bool) (a0_22 : ByteArray) (a0_23 : Int) (a0_24 : Bool) (a0_25 : ByteArray) (a0_26 : Int) (a0_27 : Int) : Option (Bool) := if a0_0 = true then (some true) else (if a0_20 = true then (some false) else (if a0_21 = true then (some false) else (if a0_24 = true then (some false) else (some (a0_27 == 0)))))
set_option maxHeartbeats 8000000 in
set_option maxRecDepth 100000 in
theorem rule_isPass.calls (a0_0 : Bool) (a0_1 : Bool) (a0_2 : Bool) (a0_3 : ByteArray) (a0_4 : Int) (a0_5 : Bool) (a0_6 : ByteArray) (a0_7 : Int) (a0_8 : Int) (a0_9 : Int) (a0_10 : Int) (a0_11 : Bool) (a0_12 : ByteArray) (a0_13 : Int) (a0_14 : Int) (a0_15 : Int) (a0_16 : Int) (a0_17 : Int) (a0_18 : Int) (a0_19 : Int) (a0_20 : Bool) (a0_21 : Bool) (a0_22 : ByteArray) (a0_23 : Int) (a0_24 : Bool) (a0_25 : ByteArray) (a0_26 : Int) (a0_27 : Int) (r : Bool) (w : World) (h : rule_isPass.f a0_0 a0_1 a0_2 a0_3 a0_4 a0_5 a0_6 a0_7 a0_8 a0_9 a0_10 a0_11 a0_12 a0_13 a0_14 a0_15 a0_16 a0_17 a0_18 a0_19 a0_20 a0_21 a0_22 a0_23 a0_24 a0_25 a0_26 a0_27 = some r) :
    Calls Tryz.prog 59 #[.agg #[.bool a0_0, .bool a0_1, .bool a0_2, .string a0_3, .int .i64 a0_4, .bool a0_5, .string a0_6, .int .u32 a0_7, .int .i64 a0_8, .int .i64 a0_9, .int .i64 a0_10, .bool a0_11, .string a0_12, .int .u32 a0_13, .int .i64 a0_14, .int .i64 a0_15, .int .i64 a0_16, .int .i64 a0_17, .int .i64 a0_18, .int .i64 a0_19, .bool a0_20, .bool a0_21, .string a0_22, .int .u32 a0_23, .bool a0_24, .string a0_25, .int .u32 a0_26, .int .i64 a0_27]] w fun e w' => e = .returned (.bool r) ∧ Below w.heap.size w w' := by
  have hu32 := Tryz.underlying32
  have HB := Aside0.mk (Below.refl w.heap.size w)
  have H : (if a0_0 = true then (some true) else (if a0_20 = true then (some false) else (if a0_21 = true then (some false) else (if a0_24 = true then (some false) else (some (a0_27 == 0)))))) = some r := h
  clear h
  by_cases c2 : a0_0 = true
  · subst c2
    have H1 : (some true) = some r := by rw [if_pos rfl] at H; exact H
    clear H
    have H := H1
    clear H1
    obtain rfl := Option.some.inj H
    go_enter Tryz.func59, Tryz.ntmps59
    go_wp2_with (first | ((with_reducible refine gate_dst (N := 1) rfl ?_); refine box_event ?hg (N := 1) ?hd (cs := #[.bool true, .bool a0_1, .bool a0_2, .string a0_3, .int .i64 a0_4, .bool a0_5, .string a0_6, .int .u32 a0_7, .int .i64 a0_8, .int .i64 a0_9, .int .i64 a0_10, .bool a0_11, .string a0_12, .int .u32 a0_13, .int .i64 a0_14, .int .i64 a0_15, .int .i64 a0_16, .int .i64 a0_17, .int .i64 a0_18, .int .i64 a0_19, .bool a0_20, .bool a0_21, .string a0_22, .int .u32 a0_23, .bool a0_24, .string a0_25, .int .u32 a0_26, .int .i64 a0_27]) (t := 32) ?hr ?_; (case hd => rfl); (case hg => rfl); (case hr => first | (go_simp; done) | (go_simp; rfl)); intro gb106 hg w3 hbox hb; have n0_ := Aside0.mk (below_step (by repeat (first | (with_reducible first | exact HB.out | apply below_alloc | apply pw_below_drewN | apply below_drew1) | exact HB.out)) hb); have n1_ := Aside0.mk (hbox); have n2_ := Aside0.mk ((by rw [hg]; exact (below_size (by repeat (first | (with_reducible first | exact HB.out | apply below_alloc | apply pw_below_drewN | apply below_drew1) | exact HB.out))) : w.heap.size ≤ gb106)); have n3_ := Aside0.mk ((by rw [hg]; exact (below_size (by repeat (first | (with_reducible first | exact HB.out | apply below_alloc | apply pw_below_drewN | apply below_drew1) | exact HB.out))) : w.heap.size ≤ gb106)); clear HB; have HB := n0_; have BK106 := n1_; have GW106 := n2_; have GE106 := n3_; clear n0_ n1_ n2_ n3_; clear hb hbox hg; have hcz4_0 : w3.cell? ⟨gb106, 0, none⟩ = some (.bool true) := (blk_cell BK106.out 0).trans rfl; have hcz4_1 : w3.cell? ⟨gb106, 1, none⟩ = some (.bool a0_1) := (blk_cell BK106.out 1).trans rfl; have hcz4_2 : w3.cell? ⟨gb106, 2, none⟩ = some (.bool a0_2) := (blk_cell BK106.out 2).trans rfl; have hcz4_3 : w3.cell? ⟨gb106, 3, none⟩ = some (.string a0_3) := (blk_cell BK106.out 3).trans rfl; have hcz4_4 : w3.cell? ⟨gb106, 4, none⟩ = some (.int .i64 a0_4) := (blk_cell BK106.out 4).trans rfl; have hcz4_5 : w3.cell? ⟨gb106, 5, none⟩ = some (.bool a0_5) := (blk_cell BK106.out 5).trans rfl; have hcz4_6 : w3.cell? ⟨gb106, 6, none⟩ = some (.string a0_6) := (blk_cell BK106.out 6).trans rfl; have hcz4_7 : w3.cell? ⟨gb106, 7, none⟩ = some (.int .u32 a0_7) := (blk_cell BK106.out 7).trans rfl; have hcz4_8 : w3.cell? ⟨gb106, 8, none⟩ = some (.int .i64 a0_8) := (blk_cell BK106.out 8).trans rfl; have hcz4_9 : w3.cell? ⟨gb106, 9, none⟩ = some (.int .i64 a0_9) := (blk_cell BK106.out 9).trans rfl; have hcz4_10 : w3.cell? ⟨gb106, 10, none⟩ = some (.int .i64 a0_10) := (blk_cell BK106.out 10).trans rfl; have hcz4_11 : w3.cell? ⟨gb106, 11, none⟩ = some (.bool a0_11) := (blk_cell BK106.out 11).trans rfl; have hcz4_12 : w3.cell? ⟨gb106, 12, none⟩ = some (.string a0_12) := (blk_cell BK106.out 12).trans rfl; have hcz4_13 : w3.cell? ⟨gb106, 13, none⟩ = some (.int .u32 a0_13) := (blk_cell BK106.out 13).trans rfl; have hcz4_14 : w3.cell? ⟨gb106, 14, none⟩ = some (.int .i64 a0_14) := (blk_cell BK106.out 14).trans rfl; have hcz4_15 : w3.cell? ⟨gb106, 15, none⟩ = some (.int .i64 a0_15) := (blk_cell BK106.out 15).trans rfl; have hcz4_16 : w3.cell? ⟨gb106, 16, none⟩ = some (.int .i64 a0_16) := (blk_cell BK106.out 16).trans rfl; have hcz4_17 : w3.cell? ⟨gb106, 17, none⟩ = some (.int .i64 a0_17) := (blk_cell BK106.out 17).trans rfl; have hcz4_18 : w3.cell? ⟨gb106, 18, none⟩ = some (.int .i64 a0_18) := (blk_cell BK106.out 18).trans rfl; have hcz4_19 : w3.cell? ⟨gb106, 19, none⟩ = some (.int .i64 a0_19) := (blk_cell BK106.out 19).trans rfl; have hcz4_20 : w3.cell? ⟨gb106, 20, none⟩ = some (.bool a0_20) := (blk_cell BK106.out 20).trans rfl; have hcz4_21 : w3.cell? ⟨gb106, 21, none⟩ = some (.bool a0_21) := (blk_cell BK106.out 21).trans rfl; have hcz4_22 : w3.cell? ⟨gb106, 22, none⟩ = some (.string a0_22) := (blk_cell BK106.out 22).trans rfl; have hcz4_23 : w3.cell? ⟨gb106, 23, none⟩ = some (.int .u32 a0_23) := (blk_cell BK106.out 23).trans rfl; have hcz4_24 : w3.cell? ⟨gb106, 24, none⟩ = some (.bool a0_24) := (blk_cell BK106.out 24).trans rfl; have hcz4_25 : w3.cell? ⟨gb106, 25, none⟩ = some (.string a0_25) := (blk_cell BK106.out 25).trans rfl; have hcz4_26 : w3.cell? ⟨gb106, 26, none⟩ = some (.int .u32 a0_26) := (blk_cell BK106.out 26).trans rfl; have hcz4_27 : w3.cell? ⟨gb106, 27, none⟩ = some (.int .i64 a0_27) := (blk_cell BK106.out 27).trans rfl; have hfz4_0 := blk_frozen BK106.out 0; have hfz4_1 := blk_frozen BK106.out 1; have hfz4_2 := blk_frozen BK106.out 2; have hfz4_3 := blk_frozen BK106.out 3; have hfz4_4 := blk_frozen BK106.out 4; have hfz4_5 := blk_frozen BK106.out 5; have hfz4_6 := blk_frozen BK106.out 6; have hfz4_7 := blk_frozen BK106.out 7; have hfz4_8 := blk_frozen BK106.out 8; have hfz4_9 := blk_frozen BK106.out 9; have hfz4_10 := blk_frozen BK106.out 10; have hfz4_11 := blk_frozen BK106.out 11; have hfz4_12 := blk_frozen BK106.out 12; have hfz4_13 := blk_frozen BK106.out 13; have hfz4_14 := blk_frozen BK106.out 14; have hfz4_15 := blk_frozen BK106.out 15; have hfz4_16 := blk_frozen BK106.out 16; have hfz4_17 := blk_frozen BK106.out 17; have hfz4_18 := blk_frozen BK106.out 18; have hfz4_19 := blk_frozen BK106.out 19; have hfz4_20 := blk_frozen BK106.out 20; have hfz4_21 := blk_frozen BK106.out 21; have hfz4_22 := blk_frozen BK106.out 22; have hfz4_23 := blk_frozen BK106.out 23; have hfz4_24 := blk_frozen BK106.out 24; have hfz4_25 := blk_frozen BK106.out 25; have hfz4_26 := blk_frozen BK106.out 26; have hfz4_27 := blk_frozen BK106.out 27))
    go_ret
    exact ⟨by first | rfl | (simp [errW_none, errW_some] <;> rfl) | (simp [*, errW_none, errW_some] <;> rfl), by repeat (first | (with_reducible first | exact HB.out | apply below_alloc | apply pw_below_drewN | apply below_drew1 | refine below_set ?_ GE106.out) | exact HB.out)⟩
  · replace c2 := Bool.eq_false_iff.mpr c2
    subst c2
    have H1 : (if a0_20 = true then (some false) else (if a0_21 = true then (some false) else (if a0_24 = true then (some false) else (some (a0_27 == 0))))) = some r := by rw [if_neg (show ¬ (false = true) by decide)] at H; exact H
    clear H
    have H := H1
    clear H1
    by_cases c5 : a0_20 = true
    · subst c5
      have H1 : (some false) = some r := by rw [if_pos rfl] at H; exact H
      clear H
      have H := H1
      clear H1
      obtain rfl := Option.some.inj H
      go_enter Tryz.func59, Tryz.ntmps59
      go_wp2_with (first | ((with_reducible refine gate_dst (N := 1) rfl ?_); refine box_event ?hg (N := 1) ?hd (cs := #[.bool false, .bool a0_1, .bool a0_2, .string a0_3, .int .i64 a0_4, .bool a0_5, .string a0_6, .int .u32 a0_7, .int .i64 a0_8, .int .i64 a0_9, .int .i64 a0_10, .bool a0_11, .string a0_12, .int .u32 a0_13, .int .i64 a0_14, .int .i64 a0_15, .int .i64 a0_16, .int .i64 a0_17, .int .i64 a0_18, .int .i64 a0_19, .bool true, .bool a0_21, .string a0_22, .int .u32 a0_23, .bool a0_24, .string a0_25, .int .u32 a0_26, .int .i64 a0_27]) (t := 32) ?hr ?_; (case hd => rfl); (case hg => rfl); (case hr => first | (go_simp; done) | (go_simp; rfl)); intro gb106 hg w6 hbox hb; have n0_ := Aside0.mk (below_step (by repeat (first | (with_reducible first | exact HB.out | apply below_alloc | apply pw_below_drewN | apply below_drew1) | exact HB.out)) hb); have n1_ := Aside0.mk (hbox); have n2_ := Aside0.mk ((by rw [hg]; exact (below_size (by repeat (first | (with_reducible first | exact HB.out | apply below_alloc | apply pw_below_drewN | apply below_drew1) | exact HB.out))) : w.heap.size ≤ gb106)); have n3_ := Aside0.mk ((by rw [hg]; exact (below_size (by repeat (first | (with_reducible first | exact HB.out | apply below_alloc | apply pw_below_drewN | apply below_drew1) | exact HB.out))) : w.heap.size ≤ gb106)); clear HB; have HB := n0_; have BK106 := n1_; have GW106 := n2_; have GE106 := n3_; clear n0_ n1_ n2_ n3_; clear hb hbox hg; have hcz7_0 : w6.cell? ⟨gb106, 0, none⟩ = some (.bool false) := (blk_cell BK106.out 0).trans rfl; have hcz7_1 : w6.cell? ⟨gb106, 1, none⟩ = some (.bool a0_1) := (blk_cell BK106.out 1).trans rfl; have hcz7_2 : w6.cell? ⟨gb106, 2, none⟩ = some (.bool a0_2) := (blk_cell BK106.out 2).trans rfl; have hcz7_3 : w6.cell? ⟨gb106, 3, none⟩ = some (.string a0_3) := (blk_cell BK106.out 3).trans rfl; have hcz7_4 : w6.cell? ⟨gb106, 4, none⟩ = some (.int .i64 a0_4) := (blk_cell BK106.out 4).trans rfl; have hcz7_5 : w6.cell? ⟨gb106, 5, none⟩ = some (.bool a0_5) := (blk_cell BK106.out 5).trans rfl; have hcz7_6 : w6.cell? ⟨gb106, 6, none⟩ = some (.string a0_6) := (blk_cell BK106.out 6).trans rfl; have hcz7_7 : w6.cell? ⟨gb106, 7, none⟩ = some (.int .u32 a0_7) := (blk_cell BK106.out 7).trans rfl; have hcz7_8 : w6.cell? ⟨gb106, 8, none⟩ = some (.int .i64 a0_8) := (blk_cell BK106.out 8).trans rfl; have hcz7_9 : w6.cell? ⟨gb106, 9, none⟩ = some (.int .i64 a0_9) := (blk_cell BK106.out 9).trans rfl; have hcz7_10 : w6.cell? ⟨gb106, 10, none⟩ = some (.int .i64 a0_10) := (blk_cell BK106.out 10).trans rfl; have hcz7_11 : w6.cell? ⟨gb106, 11, none⟩ = some (.bool a0_11) := (blk_cell BK106.out 11).trans rfl; have hcz7_12 : w6.cell? ⟨gb106, 12, none⟩ = some (.string a0_12) := (blk_cell BK106.out 12).trans rfl; have hcz7_13 : w6.cell? ⟨gb106, 13, none⟩ = some (.int .u32 a0_13) := (blk_cell BK106.out 13).trans rfl; have hcz7_14 : w6.cell? ⟨gb106, 14, none⟩ = some (.int .i64 a0_14) := (blk_cell BK106.out 14).trans rfl; have hcz7_15 : w6.cell? ⟨gb106, 15, none⟩ = some (.int .i64 a0_15) := (blk_cell BK106.out 15).trans rfl; have hcz7_16 : w6.cell? ⟨gb106, 16, none⟩ = some (.int .i64 a0_16) := (blk_cell BK106.out 16).trans rfl; have hcz7_17 : w6.cell? ⟨gb106, 17, none⟩ = some (.int .i64 a0_17) := (blk_cell BK106.out 17).trans rfl; have hcz7_18 : w6.cell? ⟨gb106, 18, none⟩ = some (.int .i64 a0_18) := (blk_cell BK106.out 18).trans rfl; have hcz7_19 : w6.cell? ⟨gb106, 19, none⟩ = some (.int .i64 a0_19) := (blk_cell BK106.out 19).trans rfl; have hcz7_20 : w6.cell? ⟨gb106, 20, none⟩ = some (.bool true) := (blk_cell BK106.out 20).trans rfl; have hcz7_21 : w6.cell? ⟨gb106, 21, none⟩ = some (.bool a0_21) := (blk_cell BK106.out 21).trans rfl; have hcz7_22 : w6.cell? ⟨gb106, 22, none⟩ = some (.string a0_22) := (blk_cell BK106.out 22).trans rfl; have hcz7_23 : w6.cell? ⟨gb106, 23, none⟩ = some (.int .u32 a0_23) := (blk_cell BK106.out 23).trans rfl; have hcz7_24 : w6.cell? ⟨gb106, 24, none⟩ = some (.bool a0_24) := (blk_cell BK106.out 24).trans rfl; have hcz7_25 : w6.cell? ⟨gb106, 25, none⟩ = some (.string a0_25) := (blk_cell BK106.out 25).trans rfl; have hcz7_26 : w6.cell? ⟨gb106, 26, none⟩ = some (.int .u32 a0_26) := (blk_cell BK106.out 26).trans rfl; have hcz7_27 : w6.cell? ⟨gb106, 27, none⟩ = some (.int .i64 a0_27) := (blk_cell BK106.out 27).trans rfl; have hfz7_0 := blk_frozen BK106.out 0; have hfz7_1 := blk_frozen BK106.out 1; have hfz7_2 := blk_frozen BK106.out 2; have hfz7_3 := blk_frozen BK106.out 3; have hfz7_4 := blk_frozen BK106.out 4; have hfz7_5 := blk_frozen BK106.out 5; have hfz7_6 := blk_frozen BK106.out 6; have hfz7_7 := blk_frozen BK106.out 7; have hfz7_8 := blk_frozen BK106.out 8; have hfz7_9 := blk_frozen BK106.out 9; have hfz7_10 := blk_frozen BK106.out 10; have hfz7_11 := blk_frozen BK106.out 11; have hfz7_12 := blk_frozen BK106.out 12; have hfz7_13 := blk_frozen BK106.out 13; have hfz7_14 := blk_frozen BK106.out 14; have hfz7_15 := blk_frozen BK106.out 15; have hfz7_16 := blk_frozen BK106.out 16; have hfz7_17 := blk_frozen BK106.out 17; have hfz7_18 := blk_frozen BK106.out 18; have hfz7_19 := blk_frozen BK106.out 19; have hfz7_20 := blk_frozen BK106.out 20; have hfz7_21 := blk_frozen BK106.out 21; have hfz7_22 := blk_frozen BK106.out 22; have hfz7_23 := blk_frozen BK106.out 23; have hfz7_24 := blk_frozen BK106.out 24; have hfz7_25 := blk_frozen BK106.out 25; have hfz7_26 := blk_frozen BK106.out 26; have hfz7_27 := blk_frozen BK106.out 27))
      go_ret
      exact ⟨by first | rfl | (simp [errW_none, errW_some] <;> rfl) | (simp [*, errW_none, errW_some] <;> rfl), by repeat (first | (with_reducible first | exact HB.out | apply below_alloc | apply pw_below_drewN | apply below_drew1 | refine below_set ?_ GE106.out) | exact HB.out)⟩
    · replace c5 := Bool.eq_false_iff.mpr c5
      subst c5
      have H1 : (if a0_21 = true then (some false) else (if a0_24 = true then (some false) else (some (a0_27 == 0)))) = some r := by rw [if_neg (show ¬ (false = true) by decide)] at H; exact H
      clear H
      have H := H1
      clear H1
      by_cases c8 : a0_21 = true
      · subst c8
        have H1 : (some false) = some r := by rw [if_pos rfl] at H; exact H
        clear H
        have H := H1
        clear H1
        obtain rfl := Option.some.inj H
        go_enter Tryz.func59, Tryz.ntmps59
        go_wp2_with (first | ((with_reducible refine gate_dst (N := 1) rfl ?_); refine box_event ?hg (N := 1) ?hd (cs := #[.bool false, .bool a0_1, .bool a0_2, .string a0_3, .int .i64 a0_4, .bool a0_5, .string a0_6, .int .u32 a0_7, .int .i64 a0_8, .int .i64 a0_9, .int .i64 a0_10, .bool a0_11, .string a0_12, .int .u32 a0_13, .int .i64 a0_14, .int .i64 a0_15, .int .i64 a0_16, .int .i64 a0_17, .int .i64 a0_18, .int .i64 a0_19, .bool false, .bool true, .string a0_22, .int .u32 a0_23, .bool a0_24, .string a0_25, .int .u32 a0_26, .int .i64 a0_27]) (t := 32) ?hr ?_; (case hd => rfl); (case hg => rfl); (case hr => first | (go_simp; done) | (go_simp; rfl)); intro gb106 hg w9 hbox hb; have n0_ := Aside0.mk (below_step (by repeat (first | (with_reducible first | exact HB.out | apply below_alloc | apply pw_below_drewN | apply below_drew1) | exact HB.out)) hb); have n1_ := Aside0.mk (hbox); have n2_ := Aside0.mk ((by rw [hg]; exact (below_size (by repeat (first | (with_reducible first | exact HB.out | apply below_alloc | apply pw_below_drewN | apply below_drew1) | exact HB.out))) : w.heap.size ≤ gb106)); have n3_ := Aside0.mk ((by rw [hg]; exact (below_size (by repeat (first | (with_reducible first | exact HB.out | apply below_alloc | apply pw_below_drewN | apply below_drew1) | exact HB.out))) : w.heap.size ≤ gb106)); clear HB; have HB := n0_; have BK106 := n1_; have GW106 := n2_; have GE106 := n3_; clear n0_ n1_ n2_ n3_; clear hb hbox hg; have hcz10_0 : w9.cell? ⟨gb106, 0, none⟩ = some (.bool false) := (blk_cell BK106.out 0).trans rfl; have hcz10_1 : w9.cell? ⟨gb106, 1, none⟩ = some (.bool a0_1) := (blk_cell BK106.out 1).trans rfl; have hcz10_2 : w9.cell? ⟨gb106, 2, none⟩ = some (.bool a0_2) := (blk_cell BK106.out 2).trans rfl; have hcz10_3 : w9.cell? ⟨gb106, 3, none⟩ = some (.string a0_3) := (blk_cell BK106.out 3).trans rfl; have hcz10_4 : w9.cell? ⟨gb106, 4, none⟩ = some (.int .i64 a0_4) := (blk_cell BK106.out 4).trans rfl; have hcz10_5 : w9.cell? ⟨gb106, 5, none⟩ = some (.bool a0_5) := (blk_cell BK106.out 5).trans rfl; have hcz10_6 : w9.cell? ⟨gb106, 6, none⟩ = some (.string a0_6) := (blk_cell BK106.out 6).trans rfl; have hcz10_7 : w9.cell? ⟨gb106, 7, none⟩ = some (.int .u32 a0_7) := (blk_cell BK106.out 7).trans rfl; have hcz10_8 : w9.cell? ⟨gb106, 8, none⟩ = some (.int .i64 a0_8) := (blk_cell BK106.out 8).trans rfl; have hcz10_9 : w9.cell? ⟨gb106, 9, none⟩ = some (.int .i64 a0_9) := (blk_cell BK106.out 9).trans rfl; have hcz10_10 : w9.cell? ⟨gb106, 10, none⟩ = some (.int .i64 a0_10) := (blk_cell BK106.out 10).trans rfl; have hcz10_11 : w9.cell? ⟨gb106, 11, none⟩ = some (.bool a0_11) := (blk_cell BK106.out 11).trans rfl; have hcz10_12 : w9.cell? ⟨gb106, 12, none⟩ = some (.string a0_12) := (blk_cell BK106.out 12).trans rfl; have hcz10_13 : w9.cell? ⟨gb106, 13, none⟩ = some (.int .u32 a0_13) := (blk_cell BK106.out 13).trans rfl; have hcz10_14 : w9.cell? ⟨gb106, 14, none⟩ = some (.int .i64 a0_14) := (blk_cell BK106.out 14).trans rfl; have hcz10_15 : w9.cell? ⟨gb106, 15, none⟩ = some (.int .i64 a0_15) := (blk_cell BK106.out 15).trans rfl; have hcz10_16 : w9.cell? ⟨gb106, 16, none⟩ = some (.int .i64 a0_16) := (blk_cell BK106.out 16).trans rfl; have hcz10_17 : w9.cell? ⟨gb106, 17, none⟩ = some (.int .i64 a0_17) := (blk_cell BK106.out 17).trans rfl; have hcz10_18 : w9.cell? ⟨gb106, 18, none⟩ = some (.int .i64 a0_18) := (blk_cell BK106.out 18).trans rfl; have hcz10_19 : w9.cell? ⟨gb106, 19, none⟩ = some (.int .i64 a0_19) := (blk_cell BK106.out 19).trans rfl; have hcz10_20 : w9.cell? ⟨gb106, 20, none⟩ = some (.bool false) := (blk_cell BK106.out 20).trans rfl; have hcz10_21 : w9.cell? ⟨gb106, 21, none⟩ = some (.bool true) := (blk_cell BK106.out 21).trans rfl; have hcz10_22 : w9.cell? ⟨gb106, 22, none⟩ = some (.string a0_22) := (blk_cell BK106.out 22).trans rfl; have hcz10_23 : w9.cell? ⟨gb106, 23, none⟩ = some (.int .u32 a0_23) := (blk_cell BK106.out 23).trans rfl; have hcz10_24 : w9.cell? ⟨gb106, 24, none⟩ = some (.bool a0_24) := (blk_cell BK106.out 24).trans rfl; have hcz10_25 : w9.cell? ⟨gb106, 25, none⟩ = some (.string a0_25) := (blk_cell BK106.out 25).trans rfl; have hcz10_26 : w9.cell? ⟨gb106, 26, none⟩ = some (.int .u32 a0_26) := (blk_cell BK106.out 26).trans rfl; have hcz10_27 : w9.cell? ⟨gb106, 27, none⟩ = some (.int .i64 a0_27) := (blk_cell BK106.out 27).trans rfl; have hfz10_0 := blk_frozen BK106.out 0; have hfz10_1 := blk_frozen BK106.out 1; have hfz10_2 := blk_frozen BK106.out 2; have hfz10_3 := blk_frozen BK106.out 3; have hfz10_4 := blk_frozen BK106.out 4; have hfz10_5 := blk_frozen BK106.out 5; have hfz10_6 := blk_frozen BK106.out 6; have hfz10_7 := blk_frozen BK106.out 7; have hfz10_8 := blk_frozen BK106.out 8; have hfz10_9 := blk_frozen BK106.out 9; have hfz10_10 := blk_frozen BK106.out 10; have hfz10_11 := blk_frozen BK106.out 11; have hfz10_12 := blk_frozen BK106.out 12; have hfz10_13 := blk_frozen BK106.out 13; have hfz10_14 := blk_frozen BK106.out 14; have hfz10_15 := blk_frozen BK106.out 15; have hfz10_16 := blk_frozen BK106.out 16; have hfz10_17 := blk_frozen BK106.out 17; have hfz10_18 := blk_frozen BK106.out 18; have hfz10_19 := blk_frozen BK106.out 19; have hfz10_20 := blk_frozen BK106.out 20; have hfz10_21 := blk_frozen BK106.out 21; have hfz10_22 := blk_frozen BK106.out 22; have hfz10_23 := blk_frozen BK106.out 23; have hfz10_24 := blk_frozen BK106.out 24; have hfz10_25 := blk_frozen BK106.out 25; have hfz10_26 := blk_frozen BK106.out 26; have hfz10_27 := blk_frozen BK106.out 27))
        go_ret
        exact ⟨by first | rfl | (simp [errW_none, errW_some] <;> rfl) | (simp [*, errW_none, errW_some] <;> rfl), by repeat (first | (with_reducible first | exact HB.out | apply below_alloc | apply pw_below_drewN | apply below_drew1 | refine below_set ?_ GE106.out) | exact HB.out)⟩
      · replace c8 := Bool.eq_false_iff.mpr c8
        subst c8
        have H1 : (if a0_24 = true then (some false) else (some (a0_27 == 0))) = some r := by rw [if_neg (show ¬ (false = true) by decide)] at H; exact H
        clear H
        have H := H1
        clear H1
        by_cases c11 : a0_24 = true
        · subst c11
          have H1 : (some false) = some r := by rw [if_pos rfl] at H; exact H
          clear H
          have H := H1
          clear H1
          obtain rfl := Option.some.inj H
          go_enter Tryz.func59, Tryz.ntmps59
          go_wp2_with (first | ((with_reducible refine gate_dst (N := 1) rfl ?_); refine box_event ?hg (N := 1) ?hd (cs := #[.bool false, .bool a0_1, .bool a0_2, .string a0_3, .int .i64 a0_4, .bool a0_5, .string a0_6, .int .u32 a0_7, .int .i64 a0_8, .int .i64 a0_9, .int .i64 a0_10, .bool a0_11, .string a0_12, .int .u32 a0_13, .int .i64 a0_14, .int .i64 a0_15, .int .i64 a0_16, .int .i64 a0_17, .int .i64 a0_18, .int .i64 a0_19, .bool false, .bool false, .string a0_22, .int .u32 a0_23, .bool true, .string a0_25, .int .u32 a0_26, .int .i64 a0_27]) (t := 32) ?hr ?_; (case hd => rfl); (case hg => rfl); (case hr => first | (go_simp; done) | (go_simp; rfl)); intro gb106 hg w12 hbox hb; have n0_ := Aside0.mk (below_step (by repeat (first | (with_reducible first | exact HB.out | apply below_alloc | apply pw_below_drewN | apply below_drew1) | exact HB.out)) hb); have n1_ := Aside0.mk (hbox); have n2_ := Aside0.mk ((by rw [hg]; exact (below_size (by repeat (first | (with_reducible first | exact HB.out | apply below_alloc | apply pw_below_drewN | apply below_drew1) | exact HB.out))) : w.heap.size ≤ gb106)); have n3_ := Aside0.mk ((by rw [hg]; exact (below_size (by repeat (first | (with_reducible first | exact HB.out | apply below_alloc | apply pw_below_drewN | apply below_drew1) | exact HB.out))) : w.heap.size ≤ gb106)); clear HB; have HB := n0_; have BK106 := n1_; have GW106 := n2_; have GE106 := n3_; clear n0_ n1_ n2_ n3_; clear hb hbox hg; have hcz13_0 : w12.cell? ⟨gb106, 0, none⟩ = some (.bool false) := (blk_cell BK106.out 0).trans rfl; have hcz13_1 : w12.cell? ⟨gb106, 1, none⟩ = some (.bool a0_1) := (blk_cell BK106.out 1).trans rfl; have hcz13_2 : w12.cell? ⟨gb106, 2, none⟩ = some (.bool a0_2) := (blk_cell BK106.out 2).trans rfl; have hcz13_3 : w12.cell? ⟨gb106, 3, none⟩ = some (.string a0_3) := (blk_cell BK106.out 3).trans rfl; have hcz13_4 : w12.cell? ⟨gb106, 4, none⟩ = some (.int .i64 a0_4) := (blk_cell BK106.out 4).trans rfl; have hcz13_5 : w12.cell? ⟨gb106, 5, none⟩ = some (.bool a0_5) := (blk_cell BK106.out 5).trans rfl; have hcz13_6 : w12.cell? ⟨gb106, 6, none⟩ = some (.string a0_6) := (blk_cell BK106.out 6).trans rfl; have hcz13_7 : w12.cell? ⟨gb106, 7, none⟩ = some (.int .u32 a0_7) := (blk_cell BK106.out 7).trans rfl; have hcz13_8 : w12.cell? ⟨gb106, 8, none⟩ = some (.int .i64 a0_8) := (blk_cell BK106.out 8).trans rfl; have hcz13_9 : w12.cell? ⟨gb106, 9, none⟩ = some (.int .i64 a0_9) := (blk_cell BK106.out 9).trans rfl; have hcz13_10 : w12.cell? ⟨gb106, 10, none⟩ = some (.int .i64 a0_10) := (blk_cell BK106.out 10).trans rfl; have hcz13_11 : w12.cell? ⟨gb106, 11, none⟩ = some (.bool a0_11) := (blk_cell BK106.out 11).trans rfl; have hcz13_12 : w12.cell? ⟨gb106, 12, none⟩ = some (.string a0_12) := (blk_cell BK106.out 12).trans rfl; have hcz13_13 : w12.cell? ⟨gb106, 13, none⟩ = some (.int .u32 a0_13) := (blk_cell BK106.out 13).trans rfl; have hcz13_14 : w12.cell? ⟨gb106, 14, none⟩ = some (.int .i64 a0_14) := (blk_cell BK106.out 14).trans rfl; have hcz13_15 : w12.cell? ⟨gb106, 15, none⟩ = some (.int .i64 a0_15) := (blk_cell BK106.out 15).trans rfl; have hcz13_16 : w12.cell? ⟨gb106, 16, none⟩ = some (.int .i64 a0_16) := (blk_cell BK106.out 16).trans rfl; have hcz13_17 : w12.cell? ⟨gb106, 17, none⟩ = some (.int .i64 a0_17) := (blk_cell BK106.out 17).trans rfl; have hcz13_18 : w12.cell? ⟨gb106, 18, none⟩ = some (.int .i64 a0_18) := (blk_cell BK106.out 18).trans rfl; have hcz13_19 : w12.cell? ⟨gb106, 19, none⟩ = some (.int .i64 a0_19) := (blk_cell BK106.out 19).trans rfl; have hcz13_20 : w12.cell? ⟨gb106, 20, none⟩ = some (.bool false) := (blk_cell BK106.out 20).trans rfl; have hcz13_21 : w12.cell? ⟨gb106, 21, none⟩ = some (.bool false) := (blk_cell BK106.out 21).trans rfl; have hcz13_22 : w12.cell? ⟨gb106, 22, none⟩ = some (.string a0_22) := (blk_cell BK106.out 22).trans rfl; have hcz13_23 : w12.cell? ⟨gb106, 23, none⟩ = some (.int .u32 a0_23) := (blk_cell BK106.out 23).trans rfl; have hcz13_24 : w12.cell? ⟨gb106, 24, none⟩ = some (.bool true) := (blk_cell BK106.out 24).trans rfl; have hcz13_25 : w12.cell? ⟨gb106, 25, none⟩ = some (.string a0_25) := (blk_cell BK106.out 25).trans rfl; have hcz13_26 : w12.cell? ⟨gb106, 26, none⟩ = some (.int .u32 a0_26) := (blk_cell BK106.out 26).trans rfl; have hcz13_27 : w12.cell? ⟨gb106, 27, none⟩ = some (.int .i64 a0_27) := (blk_cell BK106.out 27).trans rfl; have hfz13_0 := blk_frozen BK106.out 0; have hfz13_1 := blk_frozen BK106.out 1; have hfz13_2 := blk_frozen BK106.out 2; have hfz13_3 := blk_frozen BK106.out 3; have hfz13_4 := blk_frozen BK106.out 4; have hfz13_5 := blk_frozen BK106.out 5; have hfz13_6 := blk_frozen BK106.out 6; have hfz13_7 := blk_frozen BK106.out 7; have hfz13_8 := blk_frozen BK106.out 8; have hfz13_9 := blk_frozen BK106.out 9; have hfz13_10 := blk_frozen BK106.out 10; have hfz13_11 := blk_frozen BK106.out 11; have hfz13_12 := blk_frozen BK106.out 12; have hfz13_13 := blk_frozen BK106.out 13; have hfz13_14 := blk_frozen BK106.out 14; have hfz13_15 := blk_frozen BK106.out 15; have hfz13_16 := blk_frozen BK106.out 16; have hfz13_17 := blk_frozen BK106.out 17; have hfz13_18 := blk_frozen BK106.out 18; have hfz13_19 := blk_frozen BK106.out 19; have hfz13_20 := blk_frozen BK106.out 20; have hfz13_21 := blk_frozen BK106.out 21; have hfz13_22 := blk_frozen BK106.out 22; have hfz13_23 := blk_frozen BK106.out 23; have hfz13_24 := blk_frozen BK106.out 24; have hfz13_25 := blk_frozen BK106.out 25; have hfz13_26 := blk_frozen BK106.out 26; have hfz13_27 := blk_frozen BK106.out 27))
          go_ret
          exact ⟨by first | rfl | (simp [errW_none, errW_some] <;> rfl) | (simp [*, errW_none, errW_some] <;> rfl), by repeat (first | (with_reducible first | exact HB.out | apply below_alloc | apply pw_below_drewN | apply below_drew1 | refine below_set ?_ GE106.out) | exact HB.out)⟩
        · replace c11 := Bool.eq_false_iff.mpr c11
          subst c11
          have H1 : (some (a0_27 == 0)) = some r := by rw [if_neg (show ¬ (false = true) by decide)] at H; exact H
          clear H
          have H := H1
          clear H1
          obtain rfl := Option.some.inj H
          go_enter Tryz.func59, Tryz.ntmps59
          go_wp2_with (first | ((with_reducible refine gate_dst (N := 1) rfl ?_); refine box_event ?hg (N := 1) ?hd (cs := #[.bool false, .bool a0_1, .bool a0_2, .string a0_3, .int .i64 a0_4, .bool a0_5, .string a0_6, .int .u32 a0_7, .int .i64 a0_8, .int .i64 a0_9, .int .i64 a0_10, .bool a0_11, .string a0_12, .int .u32 a0_13, .int .i64 a0_14, .int .i64 a0_15, .int .i64 a0_16, .int .i64 a0_17, .int .i64 a0_18, .int .i64 a0_19, .bool false, .bool false, .string a0_22, .int .u32 a0_23, .bool false, .string a0_25, .int .u32 a0_26, .int .i64 a0_27]) (t := 32) ?hr ?_; (case hd => rfl); (case hg => rfl); (case hr => first | (go_simp; done) | (go_simp; rfl)); intro gb106 hg w14 hbox hb; have n0_ := Aside0.mk (below_step (by repeat (first | (with_reducible first | exact HB.out | apply below_alloc | apply pw_below_drewN | apply below_drew1) | exact HB.out)) hb); have n1_ := Aside0.mk (hbox); have n2_ := Aside0.mk ((by rw [hg]; exact (below_size (by repeat (first | (with_reducible first | exact HB.out | apply below_alloc | apply pw_below_drewN | apply below_drew1) | exact HB.out))) : w.heap.size ≤ gb106)); have n3_ := Aside0.mk ((by rw [hg]; exact (below_size (by repeat (first | (with_reducible first | exact HB.out | apply below_alloc | apply pw_below_drewN | apply below_drew1) | exact HB.out))) : w.heap.size ≤ gb106)); clear HB; have HB := n0_; have BK106 := n1_; have GW106 := n2_; have GE106 := n3_; clear n0_ n1_ n2_ n3_; clear hb hbox hg; have hcz15_0 : w14.cell? ⟨gb106, 0, none⟩ = some (.bool false) := (blk_cell BK106.out 0).trans rfl; have hcz15_1 : w14.cell? ⟨gb106, 1, none⟩ = some (.bool a0_1) := (blk_cell BK106.out 1).trans rfl; have hcz15_2 : w14.cell? ⟨gb106, 2, none⟩ = some (.bool a0_2) := (blk_cell BK106.out 2).trans rfl; have hcz15_3 : w14.cell? ⟨gb106, 3, none⟩ = some (.string a0_3) := (blk_cell BK106.out 3).trans rfl; have hcz15_4 : w14.cell? ⟨gb106, 4, none⟩ = some (.int .i64 a0_4) := (blk_cell BK106.out 4).trans rfl; have hcz15_5 : w14.cell? ⟨gb106, 5, none⟩ = some (.bool a0_5) := (blk_cell BK106.out 5).trans rfl; have hcz15_6 : w14.cell? ⟨gb106, 6, none⟩ = some (.string a0_6) := (blk_cell BK106.out 6).trans rfl; have hcz15_7 : w14.cell? ⟨gb106, 7, none⟩ = some (.int .u32 a0_7) := (blk_cell BK106.out 7).trans rfl; have hcz15_8 : w14.cell? ⟨gb106, 8, none⟩ = some (.int .i64 a0_8) := (blk_cell BK106.out 8).trans rfl; have hcz15_9 : w14.cell? ⟨gb106, 9, none⟩ = some (.int .i64 a0_9) := (blk_cell BK106.out 9).trans rfl; have hcz15_10 : w14.cell? ⟨gb106, 10, none⟩ = some (.int .i64 a0_10) := (blk_cell BK106.out 10).trans rfl; have hcz15_11 : w14.cell? ⟨gb106, 11, none⟩ = some (.bool a0_11) := (blk_cell BK106.out 11).trans rfl; have hcz15_12 : w14.cell? ⟨gb106, 12, none⟩ = some (.string a0_12) := (blk_cell BK106.out 12).trans rfl; have hcz15_13 : w14.cell? ⟨gb106, 13, none⟩ = some (.int .u32 a0_13) := (blk_cell BK106.out 13).trans rfl; have hcz15_14 : w14.cell? ⟨gb106, 14, none⟩ = some (.int .i64 a0_14) := (blk_cell BK106.out 14).trans rfl; have hcz15_15 : w14.cell? ⟨gb106, 15, none⟩ = some (.int .i64 a0_15) := (blk_cell BK106.out 15).trans rfl; have hcz15_16 : w14.cell? ⟨gb106, 16, none⟩ = some (.int .i64 a0_16) := (blk_cell BK106.out 16).trans rfl; have hcz15_17 : w14.cell? ⟨gb106, 17, none⟩ = some (.int .i64 a0_17) := (blk_cell BK106.out 17).trans rfl; have hcz15_18 : w14.cell? ⟨gb106, 18, none⟩ = some (.int .i64 a0_18) := (blk_cell BK106.out 18).trans rfl; have hcz15_19 : w14.cell? ⟨gb106, 19, none⟩ = some (.int .i64 a0_19) := (blk_cell BK106.out 19).trans rfl; have hcz15_20 : w14.cell? ⟨gb106, 20, none⟩ = some (.bool false) := (blk_cell BK106.out 20).trans rfl; have hcz15_21 : w14.cell? ⟨gb106, 21, none⟩ = some (.bool false) := (blk_cell BK106.out 21).trans rfl; have hcz15_22 : w14.cell? ⟨gb106, 22, none⟩ = some (.string a0_22) := (blk_cell BK106.out 22).trans rfl; have hcz15_23 : w14.cell? ⟨gb106, 23, none⟩ = some (.int .u32 a0_23) := (blk_cell BK106.out 23).trans rfl; have hcz15_24 : w14.cell? ⟨gb106, 24, none⟩ = some (.bool false) := (blk_cell BK106.out 24).trans rfl; have hcz15_25 : w14.cell? ⟨gb106, 25, none⟩ = some (.string a0_25) := (blk_cell BK106.out 25).trans rfl; have hcz15_26 : w14.cell? ⟨gb106, 26, none⟩ = some (.int .u32 a0_26) := (blk_cell BK106.out 26).trans rfl; have hcz15_27 : w14.cell? ⟨gb106, 27, none⟩ = some (.int .i64 a0_27) := (blk_cell BK106.out 27).trans rfl; have hfz15_0 := blk_frozen BK106.out 0; have hfz15_1 := blk_frozen BK106.out 1; have hfz15_2 := blk_frozen BK106.out 2; have hfz15_3 := blk_frozen BK106.out 3; have hfz15_4 := blk_frozen BK106.out 4; have hfz15_5 := blk_frozen BK106.out 5; have hfz15_6 := blk_frozen BK106.out 6; have hfz15_7 := blk_frozen BK106.out 7; have hfz15_8 := blk_frozen BK106.out 8; have hfz15_9 := blk_frozen BK106.out 9; have hfz15_10 := blk_frozen BK106.out 10; have hfz15_11 := blk_frozen BK106.out 11; have hfz15_12 := blk_frozen BK106.out 12; have hfz15_13 := blk_frozen BK106.out 13; have hfz15_14 := blk_frozen BK106.out 14; have hfz15_15 := blk_frozen BK106.out 15; have hfz15_16 := blk_frozen BK106.out 16; have hfz15_17 := blk_frozen BK106.out 17; have hfz15_18 := blk_frozen BK106.out 18; have hfz15_19 := blk_frozen BK106.out 19; have hfz15_20 := blk_frozen BK106.out 20; have hfz15_21 := blk_frozen BK106.out 21; have hfz15_22 := blk_frozen BK106.out 22; have hfz15_23 := blk_frozen BK106.out 23; have hfz15_24 := blk_frozen BK106.out 24; have hfz15_25 := blk_frozen BK106.out 25; have hfz15_26 := blk_frozen BK106.out 26; have hfz15_27 := blk_frozen BK106.out 27))
          go_ret
          exact ⟨by first | rfl | (simp [errW_none, errW_some] <;> rfl) | (simp [*, errW_none, errW_some] <;> rfl), by repeat (first | (with_reducible first | exact HB.out | apply below_alloc | apply pw_below_drewN | apply below_drew1 | refine below_set ?_ GE106.out) | exact HB.out)⟩
def addr_held.f (a0 : Int) : Option (Int) := some (mn (mx a0 0) 32)
set_option maxHeartbeats 8000000 in
set_option maxRecDepth 100000 in
theorem addr_held.calls (a0 : Int) (r : Int) (w : World) (h : addr_held.f a0 = some r) :
    Calls Tryz.prog 179 #[.int .i64 a0] w fun e w' => e = .returned (.int .i64 r) ∧ Below w.heap.size w w' := by
  have HB := Aside0.mk (Below.refl w.heap.size w)
  have H : (some (mn (mx a0 0) 32)) = some r := h
  clear h
  obtain ⟨ji2, hji2⟩ : ∃ j_ : Int, (mx a0 0) = j_ := ⟨_, rfl⟩
  replace H : (some (mn (ji2) 32)) = some r := by first | (rw [hji2] at H; exact H) | (simp only [hji2] at H ⊢; exact H)
  (try (have hji2l : 0 ≤ ji2 := by (rw [← hji2]; unfold mx; (repeat' split) <;> omega)))
  (try (have hji2m : 0 ≤ ji2 := by omega))
  have hji2_ : (if a0 < 0 then 0 else a0) = ji2 := hji2
  obtain ⟨ji3, hji3⟩ : ∃ j_ : Int, (mn (ji2) 32) = j_ := ⟨_, rfl⟩
  replace H : (some ji3) = some r := by first | (rw [hji3] at H; exact H) | (simp only [hji3] at H ⊢; exact H)
  have hji3_ : (if 32 < (ji2) then 32 else (ji2)) = ji3 := hji3
  obtain rfl := Option.some.inj H
  go_enter Tryz.func179, Tryz.ntmps179
  go_wp2
  go_ret
  exact ⟨by first | rfl | (simp [errW_none, errW_some] <;> rfl) | (simp only [← hji2, ← hji3]; first | rfl | (simp [errW_none, errW_some] <;> rfl)) | (simp [*, errW_none, errW_some] <;> rfl), by repeat (first | (with_reducible first | exact HB.out | apply below_alloc | apply pw_below_drewN | apply below_drew1) | exact HB.out)⟩
def addr_Mask.f (a0 : Int) : Option (Int) := (addr_held.f a0).bind fun t108 => (if 0 ≤ (wrap64 (32 - t108)) then (some (shl .u32 4294967295 (wrap64 (32 - t108)))) else (none))
set_option maxHeartbeats 8000000 in
set_option maxRecDepth 100000 in
theorem addr_Mask.calls (a0 : Int) (r : Int) (w : World) (h : addr_Mask.f a0 = some r) :
    Calls Tryz.prog 178 #[.int .i64 a0] w fun e w' => e = .returned (.int .u32 r) ∧ Below w.heap.size w w' := by
  have HB := Aside0.mk (Below.refl w.heap.size w)
  have H : ((addr_held.f a0).bind fun t108 => (if 0 ≤ (wrap64 (32 - t108)) then (some (shl .u32 4294967295 (wrap64 (32 - t108)))) else (none))) = some r := h
  clear h
  replace H := Option.bind_eq_some_iff.mp H
  obtain ⟨t108, A20, H⟩ := H
  replace H : (if 0 ≤ (wrap64 (32 - t108)) then (some (shl .u32 4294967295 (wrap64 (32 - t108)))) else (none)) = some r := H
  have A2 := Aside0.mk A20
  clear A20
  obtain ⟨ji3, hji3⟩ : ∃ j_ : Int, (wrap64 (32 - t108)) = j_ := ⟨_, rfl⟩
  replace H : (if 0 ≤ (ji3) then (some (shl .u32 4294967295 (ji3))) else (none)) = some r := by first | (rw [hji3] at H; exact H) | (simp only [hji3] at H ⊢; exact H)
  (try rw [hji3] at A2)
  have hji3w : (IntKind.i64.wrap (32 - t108)) = ji3 := (i64_w _).trans hji3
  by_cases c4 : 0 ≤ (ji3)
  · rw [if_pos c4] at H
    have c4b0 := eq_true c4
    have c4b1 : decide (0 ≤ (ji3)) = true := decide_eq_true c4
    clear c4
    obtain ⟨ji5, hji5⟩ : ∃ j_ : Int, (shl .u32 4294967295 (ji3)) = j_ := ⟨_, rfl⟩
    replace H : (some ji5) = some r := by first | (rw [hji5] at H; exact H) | (simp only [hji5] at H ⊢; exact H)
    (try rw [hji5] at A2)
    have hji5_ : (IntKind.u32.wrap (4294967295 * 2 ^ min (ji3).toNat 32)) = ji5 := hji5
    have hji5z : (ji3) ≤ 32 → (IntKind.u32.wrap (4294967295 * 2 ^ (ji3).toNat)) = ji5 := shl_small hji5
    obtain rfl := Option.some.inj H
    go_enter Tryz.func178, Tryz.ntmps178
    go_wp2_with (first | ((with_reducible refine gate_callee (f := 179) rfl ?_); refine goesL_ (some 4) rfl rfl Tryz.func179 (by kernel_rfl) rfl #[.int .i64 a0] rfl (by (try simp only [List.map_toArray, List.map_cons, List.map_nil]); first | done | rfl | (simp only [List.length_drop, List.length_take]; rfl)) ?_; (with_reducible refine (addr_held.calls a0 t108 _ A2.out).mono ?_); rintro e w6 ⟨rfl, hb⟩; refine ⟨_, rfl, ?_⟩; have n0_ := Aside0.mk (below_step (by repeat (first | (with_reducible first | exact HB.out | apply below_alloc | apply pw_below_drewN | apply below_drew1) | exact HB.out)) hb); clear HB; have HB := n0_; clear n0_; (try clear hb); (try clear hb2); (try clear hk); (try clear hi)))
    go_ret
    exact ⟨by first | rfl | (simp [errW_none, errW_some] <;> rfl) | (simp only [← hji3, ← hji5]; first | rfl | (simp [errW_none, errW_some] <;> rfl)) | (simp [*, errW_none, errW_some] <;> rfl), by repeat (first | (with_reducible first | exact HB.out | apply below_alloc | apply pw_below_drewN | apply below_drew1) | exact HB.out)⟩
  · rw [if_neg c4] at H
    exact absurd H (by simp)
def addr_Norm.f (a0_0 : Int) (a0_1 : Int) : Option (Int × Int) := (addr_Mask.f a0_1).bind fun t111 => ((addr_held.f a0_1).bind fun t112 => (some (Go.bits .and .u32 a0_0 t111, t112)))
def addr_Norm.T1 : Bool × List (List Nat × List Nat) := (true, [([], []), ([0], [0]), ([], []), ([2], [2]), ([3], [3]), ([1, 4], [1, 4]), ([], []), ([6], [6]), ([7, 4], [7]), ([5, 8], [5, 8]), ([9, 8, 0, 1, 2, 3, 4, 5, 6, 7, 8, 9], [9])])
def addr_Norm.B1 : List Nat := [0, 1, 0, 4, 12, 31, 0, 64, 220, 511, 1023]
theorem addr_Norm.tab1 : rtab .any (opsOf Tryz.f143 1) = addr_Norm.T1 := by kernel_rfl
theorem addr_Norm.bits1 : waitsOk addr_Norm.T1.2 addr_Norm.B1 = true := by kernel_rfl
set_option maxHeartbeats 8000000 in
set_option maxRecDepth 100000 in
theorem addr_Norm.calls (a0_0 : Int) (a0_1 : Int) (r1 : Int) (r2 : Int) (w : World) (h : addr_Norm.f a0_0 a0_1 = some (r1, r2)) :
    Calls Tryz.prog 143 #[.agg #[.int .u32 a0_0, .int .i64 a0_1]] w fun e w' => e = .returned (.agg #[.int .u32 r1, .int .i64 r2]) ∧ Below w.heap.size w w' := by
  have hu24 := Tryz.underlying24
  have HB := Aside0.mk (Below.refl w.heap.size w)
  have H : ((addr_Mask.f a0_1).bind fun t111 => ((addr_held.f a0_1).bind fun t112 => (some (Go.bits .and .u32 a0_0 t111, t112)))) = some (r1, r2) := h
  clear h
  replace H := Option.bind_eq_some_iff.mp H
  obtain ⟨t111, A20, H⟩ := H
  replace H : ((addr_held.f a0_1).bind fun t112 => (some (Go.bits .and .u32 a0_0 t111, t112))) = some (r1, r2) := H
  have A2 := Aside0.mk A20
  clear A20
  replace H := Option.bind_eq_some_iff.mp H
  obtain ⟨t112, A30, H⟩ := H
  replace H : (some (Go.bits .and .u32 a0_0 t111, t112)) = some (r1, r2) := H
  have A3 := Aside0.mk A30
  clear A30
  simp only [Option.some.injEq, Prod.mk.injEq] at H
  obtain ⟨rfl, rfl⟩ := H
  go_enter Tryz.func143, Tryz.ntmps143
  try go_wp2_with (first | ((with_reducible refine gate_dst (N := 1) rfl ?_); refine box_event ?hg (N := 1) ?hd (cs := #[.int .u32 a0_0, .int .i64 a0_1]) (t := 24) ?hr ?_; (case hd => rfl); (case hg => rfl); (case hr => first | (go_simp; done) | (go_simp; rfl)); intro gb109 hg w4 hbox hb; have n0_ := Aside0.mk (below_step (by repeat (first | (with_reducible first | exact HB.out | apply below_alloc | apply pw_below_drewN | apply below_drew1) | exact HB.out)) hb); have n1_ := Aside0.mk (hbox); have n2_ := Aside0.mk ((by rw [hg]; exact (below_size (by repeat (first | (with_reducible first | exact HB.out | apply below_alloc | apply pw_below_drewN | apply below_drew1) | exact HB.out))) : w.heap.size ≤ gb109)); have n3_ := Aside0.mk ((by rw [hg]; exact (below_size (by repeat (first | (with_reducible first | exact HB.out | apply below_alloc | apply pw_below_drewN | apply below_drew1) | exact HB.out))) : w.heap.size ≤ gb109)); clear HB; have HB := n0_; have BK109 := n1_; have GW109 := n2_; have GE109 := n3_; clear n0_ n1_ n2_ n3_; clear hb hbox hg) | ((with_reducible refine gate_dst (N := 2) rfl ?_); refine box_event ?hg (N := 2) ?hd (cs := #[.int .u32 0, .int .i64 0]) (t := 24) ?hr ?_; (case hd => rfl); (case hg => rfl); (case hr => first | (go_simp; done) | (go_simp; rfl)); intro gb110 hg w5 hbox hb; have n0_ := Aside0.mk (blk_below (g := gb109) (o := .cells #[.int .u32 a0_0, .int .i64 a0_1] 24 (0, 0)) (by (with_reducible repeat (first | refine blk_drewN ?_ _ | refine blk_drew ?_ | refine blk_alloc ?_ _)); exact BK109.out) hb); have n1_ := Aside0.mk (below_step (by repeat (first | (with_reducible first | exact HB.out | apply below_alloc | apply pw_below_drewN | apply below_drew1 | refine below_set ?_ GE109.out) | exact HB.out)) hb); have n2_ := Aside0.mk (hbox); have n3_ := Aside0.mk ((by rw [hg]; exact (below_size (by repeat (first | (with_reducible first | exact HB.out | apply below_alloc | apply pw_below_drewN | apply below_drew1 | refine below_set ?_ GE109.out) | exact HB.out))) : w.heap.size ≤ gb110)); have n4_ := Aside0.mk ((by rw [hg]; exact (below_size (by repeat (first | (with_reducible first | exact HB.out | apply below_alloc | apply pw_below_drewN | apply below_drew1 | refine below_set ?_ GE109.out) | exact HB.out))) : w.heap.size ≤ gb110)); have n5_ := Aside0.mk ((by rw [hg]; exact Nat.ne_of_lt (blk_lt (g := gb109) (o := .cells #[.int .u32 a0_0, .int .i64 a0_1] 24 (0, 0)) (by (with_reducible repeat (first | refine blk_drewN ?_ _ | refine blk_drew ?_ | refine blk_alloc ?_ _)); exact BK109.out)) : gb109 ≠ gb110)); have n6_ := Aside0.mk ((by rw [hg]; exact Nat.ne_of_gt (blk_lt (g := gb109) (o := .cells #[.int .u32 a0_0, .int .i64 a0_1] 24 (0, 0)) (by (with_reducible repeat (first | refine blk_drewN ?_ _ | refine blk_drew ?_ | refine blk_alloc ?_ _)); exact BK109.out)) : gb110 ≠ gb109)); clear BK109; clear HB; have BK109 := n0_; have HB := n1_; have BK110 := n2_; have GW110 := n3_; have GE110 := n4_; have NB109_110 := n5_; have NB110_109 := n6_; clear n0_ n1_ n2_ n3_ n4_ n5_ n6_; clear hb hbox hg))
  have n0_ := Aside0.mk (blk_drew BK109.out)
  have n1_ := Aside0.mk (blk_drew BK110.out)
  have n2_ := Aside0.mk (below_drew1 HB.out)
  clear BK109
  clear BK110
  clear HB
  have BK109 := n0_
  have BK110 := n1_
  have HB := n2_
  clear n0_ n1_ n2_
  refine start_ (n := 11) (S := fun w' => w'.cell? ⟨gb109, 0, none⟩ = some (.int .u32 a0_0) ∧ w'.cell? ⟨gb109, 1, none⟩ = some (.int .i64 a0_1)) (ds := []) #[false, false, false, false, false, false, false, false, false, false, false] (by kernel_rfl) rfl rfl ⟨(blk_cell BK109.out 0).trans rfl, (blk_cell BK109.out 1).trans rfl⟩ (fun hHeld => ?_); refine with_tabW addr_Norm.tab1 addr_Norm.bits1 (fun HT_ HW_ => ?_)
  generalize w5.drew = w6 at BK109 BK110 HB hHeld ⊢
  refine pure_ (i := 0) (N := some 3) (v := ?_) (a' := ?_) #[true, false, false, false, false, false, false, false, false, false, false] rfl rfl (any_of HT_.out (by kernel_rfl)) (fun _ _ _ h => h) (Or.inl ⟨by rfl, ?_⟩) ?_ ?_
  rotate_left
  · intro w'
    go_simp
    with_reducible rfl
  rotate_left
  · simp only [Act.put, List.setIfInBounds_toArray, List.set_cons_zero, List.set_cons_succ, i64_w, i32_w]
    rfl
  refine pure_ (i := 2) (N := some 5) (v := ?_) (a' := ?_) #[true, false, true, false, false, false, false, false, false, false, false] rfl rfl (any_of HT_.out (by kernel_rfl)) (fun _ _ _ h => h) (Or.inl ⟨by rfl, ?_⟩) ?_ ?_
  rotate_left
  · intro w'
    go_simp
    with_reducible rfl
  rotate_left
  · simp only [Act.put, List.setIfInBounds_toArray, List.set_cons_zero, List.set_cons_succ, i64_w, i32_w]
    rfl
  refine pure_ (i := 6) (N := some 9) (v := ?_) (a' := ?_) #[true, false, true, false, false, false, true, false, false, false, false] rfl rfl (any_of HT_.out (by kernel_rfl)) (fun _ _ _ h => h) (Or.inl ⟨by rfl, ?_⟩) ?_ ?_
  rotate_left
  · intro w'
    go_simp
    with_reducible rfl
  rotate_left
  · simp only [Act.put, List.setIfInBounds_toArray, List.set_cons_zero, List.set_cons_succ, i64_w, i32_w]
    rfl
  refine take_ (i := 1) (N := some 4) (v := ?_) (a' := ?_) #[true, true, true, false, false, false, true, false, false, false, false] rfl rfl (take_ofW HT_.out HW_.out (by kernel_rfl)) (fun _ _ _ h => h) (Or.inl ⟨by rfl, ?_⟩) hHeld ?_ ?_
  rotate_left
  · rintro w' ⟨s0, s1⟩
    go_simp
    with_reducible rfl
  rotate_left
  · simp only [Act.put, List.setIfInBounds_toArray, List.set_cons_zero, List.set_cons_succ, i64_w, i32_w]
    rfl
  refine take_ (i := 3) (N := some 6) (v := ?_) (a' := ?_) #[true, true, true, true, false, false, true, false, false, false, false] rfl rfl (take_ofW HT_.out HW_.out (by kernel_rfl)) (fun _ _ _ h => h) (Or.inl ⟨by rfl, ?_⟩) hHeld ?_ ?_
  rotate_left
  · rintro w' ⟨s0, s1⟩
    go_simp
    with_reducible rfl
  rotate_left
  · simp only [Act.put, List.setIfInBounds_toArray, List.set_cons_zero, List.set_cons_succ, i64_w, i32_w]
    rfl
  refine take_ (i := 7) (N := some 10) (v := ?_) (a' := ?_) #[true, true, true, true, false, false, true, true, false, false, false] rfl rfl (take_ofW HT_.out HW_.out (by kernel_rfl)) (fun _ _ _ h => h) (Or.inl ⟨by rfl, ?_⟩) hHeld ?_ ?_
  rotate_left
  · rintro w' ⟨s0, s1⟩
    go_simp
    with_reducible rfl
  rotate_left
  · simp only [Act.put, List.setIfInBounds_toArray, List.set_cons_zero, List.set_cons_succ, i64_w, i32_w]
    rfl
  refine one_ (i := 4) (N := some 7) #[true, true, true, true, true, false, true, true, false, false, false] rfl rfl (one_of HT_.out (by kernel_rfl)) (by decide) (fun K hK => ?_)
  refine goes_ Tryz.func178 (by kernel_rfl) rfl #[.int .i64 a0_1] (by rfl) rfl rfl (by (try simp only [List.map_toArray, List.map_cons, List.map_nil]); first | done | rfl | (simp only [List.length_drop, List.length_take]; rfl)) ?_
  with_reducible refine (addr_Mask.calls a0_1 t111 _ A2.out).mono ?_
  rintro e w7 ⟨rfl, hb⟩
  refine ⟨_, rfl, ?_⟩
  have n0_ := Aside0.mk (blk_below (g := gb109) (o := .cells #[.int .u32 a0_0, .int .i64 a0_1] 24 (0, 0)) (by (with_reducible repeat (first | refine blk_drewN ?_ _ | refine blk_drew ?_ | refine blk_alloc ?_ _)); exact BK109.out) hb)
  have n1_ := Aside0.mk (blk_below (g := gb110) (o := .cells #[.int .u32 0, .int .i64 0] 24 (0, 0)) (by (with_reducible repeat (first | refine blk_drewN ?_ _ | refine blk_drew ?_ | refine blk_alloc ?_ _)); exact BK110.out) hb)
  have n2_ := Aside0.mk (below_step (by repeat (first | (with_reducible first | exact HB.out | apply below_alloc | apply pw_below_drewN | apply below_drew1 | refine below_set ?_ GE109.out | refine below_set ?_ GE110.out) | exact HB.out)) hb)
  clear BK109
  clear BK110
  clear HB
  have BK109 := n0_
  have BK110 := n1_
  have HB := n2_
  clear n0_ n1_ n2_
  (try clear hb)
  (try clear hb2)
  (try clear hk)
  (try clear hi)
  refine hK.out _ _ ⟨(blk_cell BK109.out 0).trans rfl, (blk_cell BK109.out 1).trans rfl⟩ (fun hHeld => ?_)
  clear hK K
  refine norm_ (a' := ?_) ?_ ?_
  rotate_left
  · show Act.put _ (some 7) _ = _
    simp only [Act.put, List.setIfInBounds_toArray, List.set_cons_zero, List.set_cons_succ, i64_w, i32_w]
    rfl
  refine pure_ (i := 5) (N := some 8) (v := ?_) (a' := ?_) #[true, true, true, true, true, true, true, true, false, false, false] rfl rfl (any_of HT_.out (by kernel_rfl)) (fun _ _ _ h => h) (Or.inl ⟨by rfl, ?_⟩) ?_ ?_
  rotate_left
  · intro w'
    go_simp
    with_reducible rfl
  rotate_left
  · simp only [Act.put, List.setIfInBounds_toArray, List.set_cons_zero, List.set_cons_succ, i64_w, i32_w]
    rfl
  refine one_ (i := 8) (N := some 11) #[true, true, true, true, true, true, true, true, true, false, false] rfl rfl (one_of HT_.out (by kernel_rfl)) (by decide) (fun K hK => ?_)
  refine goes_ Tryz.func179 (by kernel_rfl) rfl #[.int .i64 a0_1] (by rfl) rfl rfl (by (try simp only [List.map_toArray, List.map_cons, List.map_nil]); first | done | rfl | (simp only [List.length_drop, List.length_take]; rfl)) ?_
  with_reducible refine (addr_held.calls a0_1 t112 _ A3.out).mono ?_
  rintro e w8 ⟨rfl, hb⟩
  refine ⟨_, rfl, ?_⟩
  have n0_ := Aside0.mk (blk_below (g := gb109) (o := .cells #[.int .u32 a0_0, .int .i64 a0_1] 24 (0, 0)) (by (with_reducible repeat (first | refine blk_drewN ?_ _ | refine blk_drew ?_ | refine blk_alloc ?_ _)); exact BK109.out) hb)
  have n1_ := Aside0.mk (blk_below (g := gb110) (o := .cells #[.int .u32 0, .int .i64 0] 24 (0, 0)) (by (with_reducible repeat (first | refine blk_drewN ?_ _ | refine blk_drew ?_ | refine blk_alloc ?_ _)); exact BK110.out) hb)
  have n2_ := Aside0.mk (below_step (by repeat (first | (with_reducible first | exact HB.out | apply below_alloc | apply pw_below_drewN | apply below_drew1 | refine below_set ?_ GE109.out | refine below_set ?_ GE110.out) | exact HB.out)) hb)
  clear BK109
  clear BK110
  clear HB
  have BK109 := n0_
  have BK110 := n1_
  have HB := n2_
  clear n0_ n1_ n2_
  (try clear hb)
  (try clear hb2)
  (try clear hk)
  (try clear hi)
  refine hK.out _ _ ⟨(blk_cell BK109.out 0).trans rfl, (blk_cell BK109.out 1).trans rfl⟩ (fun hHeld => ?_)
  clear hK K
  refine norm_ (a' := ?_) ?_ ?_
  rotate_left
  · show Act.put _ (some 11) _ = _
    simp only [Act.put, List.setIfInBounds_toArray, List.set_cons_zero, List.set_cons_succ, i64_w, i32_w]
    rfl
  refine pure_ (i := 9) (N := some 12) (v := ?_) (a' := ?_) #[true, true, true, true, true, true, true, true, true, true, false] rfl rfl (any_of HT_.out (by kernel_rfl)) (fun _ _ _ h => h) (Or.inl ⟨by rfl, ?_⟩) ?_ ?_
  rotate_left
  · intro w'
    go_simp
    with_reducible rfl
  rotate_left
  · simp only [Act.put, List.setIfInBounds_toArray, List.set_cons_zero, List.set_cons_succ, i64_w, i32_w]
    rfl
  refine one_ (i := 10) (N := none) #[true, true, true, true, true, true, true, true, true, true, true] rfl rfl (one_of HT_.out (by kernel_rfl)) (by decide) (fun K hK => ?_)
  have hs9 : w8.cell? ⟨gb110, 0, none⟩ = some (.int .u32 0) := (blk_cell BK110.out 0).trans rfl
  have hfs9 := blk_frozen BK110.out 0
  have hns9_0 := NB109_110.out
  have hms9_0 := NB110_109.out
  have hs10 : w8.cell? ⟨gb110, 1, none⟩ = some (.int .i64 0) := (blk_cell BK110.out 1).trans rfl
  have hfs10 := blk_frozen BK110.out 1
  have hns10_0 := NB109_110.out
  have hms10_0 := NB110_109.out
  refine skip_ (w1 := ?_) (by rfl) rfl ?_ ?_
  rotate_left
  · go_simp
    rfl
  refine hK.out _ _ ⟨((cell_far (p := ⟨gb110, _, none⟩) NB109_110.out _).trans (((cell_far (p := ⟨gb110, _, none⟩) NB109_110.out _).trans (hHeld.1)))), ((cell_far (p := ⟨gb110, _, none⟩) NB109_110.out _).trans (((cell_far (p := ⟨gb110, _, none⟩) NB109_110.out _).trans (hHeld.2))))⟩ (fun hHeld => ?_)
  clear hK K
  refine done_ (done_of HT_.out (by kernel_rfl)) ?_
  try go_wp2
  refine bodyPost_ret (results_cell_row rfl _ _ gb110 24 #[.int .u32 (Go.bits .and .u32 a0_0 t111), .int .i64 t112] (0, 0) _ rfl (by (with_reducible repeat (first | refine blk_drewN ?_ _ | refine blk_drew ?_ | refine blk_alloc ?_ _)); refine blk_put (cs := #[.int .u32 (Go.bits .and .u32 a0_0 t111), .int .i64 0]) ?_ 1 _ rfl; (with_reducible repeat (first | refine blk_drewN ?_ _ | refine blk_drew ?_ | refine blk_alloc ?_ _)); refine blk_put (cs := #[.int .u32 0, .int .i64 0]) ?_ 0 _ rfl; (with_reducible repeat (first | refine blk_drewN ?_ _ | refine blk_drew ?_ | refine blk_alloc ?_ _)); exact BK110.out) Tryz.underlying24 rfl (by kernel_rfl)) rfl ?_
  exact ⟨by first | rfl | (simp [errW_none, errW_some] <;> rfl) | (simp [*, errW_none, errW_some] <;> rfl), by repeat (first | (with_reducible first | exact HB.out | apply below_alloc | apply pw_below_drewN | apply below_drew1 | refine below_set ?_ GE109.out | refine below_set ?_ GE110.out) | exact HB.out)⟩
def addr_Is.f (a0_0 : Int) (a0_1 : Int) : Option (Bool) := (addr_Norm.f a0_0 a0_1).bind fun bt114 => (some (a0_0 == bt114.1 && (a0_1 == bt114.2)))
set_option maxHeartbeats 8000000 in
set_option maxRecDepth 100000 in
theorem addr_Is.calls (a0_0 : Int) (a0_1 : Int) (r : Bool) (w : World) (h : addr_Is.f a0_0 a0_1 = some r) :
    Calls Tryz.prog 102 #[.agg #[.int .u32 a0_0, .int .i64 a0_1]] w fun e w' => e = .returned (.bool r) ∧ Below w.heap.size w w' := by
  have hu24 := Tryz.underlying24
  have HB := Aside0.mk (Below.refl w.heap.size w)
  have H : ((addr_Norm.f a0_0 a0_1).bind fun bt114 => (some (a0_0 == bt114.1 && (a0_1 == bt114.2)))) = some r := h
  clear h
  replace H := Option.bind_eq_some_iff.mp H
  obtain ⟨⟨t114, t115⟩, A20, H⟩ := H
  replace H : (some (a0_0 == t114 && (a0_1 == t115))) = some r := H
  have A2 := Aside0.mk A20
  clear A20
  obtain rfl := Option.some.inj H
  go_enter Tryz.func102, Tryz.ntmps102
  try go_wp2_with (first | ((with_reducible refine gate_dst (N := 1) rfl ?_); refine box_event ?hg (N := 1) ?hd (cs := #[.int .u32 a0_0, .int .i64 a0_1]) (t := 24) ?hr ?_; (case hd => rfl); (case hg => rfl); (case hr => first | (go_simp; done) | (go_simp; rfl)); intro gb113 hg w3 hbox hb; have n0_ := Aside0.mk (below_step (by repeat (first | (with_reducible first | exact HB.out | apply below_alloc | apply pw_below_drewN | apply below_drew1) | exact HB.out)) hb); have n1_ := Aside0.mk (hbox); have n2_ := Aside0.mk ((by rw [hg]; exact (below_size (by repeat (first | (with_reducible first | exact HB.out | apply below_alloc | apply pw_below_drewN | apply below_drew1) | exact HB.out))) : w.heap.size ≤ gb113)); have n3_ := Aside0.mk ((by rw [hg]; exact (below_size (by repeat (first | (with_reducible first | exact HB.out | apply below_alloc | apply pw_below_drewN | apply below_drew1) | exact HB.out))) : w.heap.size ≤ gb113)); clear HB; have HB := n0_; have BK113 := n1_; have GW113 := n2_; have GE113 := n3_; clear n0_ n1_ n2_ n3_; clear hb hbox hg))
  have n0_ := Aside0.mk (blk_drew BK113.out)
  have n1_ := Aside0.mk (below_drew1 HB.out)
  clear BK113
  clear HB
  have BK113 := n0_
  have HB := n1_
  clear n0_ n1_
  refine start_ (n := 5) (S := fun w' => w'.cell? ⟨gb113, 0, none⟩ = some (.int .u32 a0_0) ∧ w'.cell? ⟨gb113, 1, none⟩ = some (.int .i64 a0_1)) (ds := []) #[false, false, false, false, false] (by kernel_rfl) rfl rfl ⟨(blk_cell BK113.out 0).trans rfl, (blk_cell BK113.out 1).trans rfl⟩ (fun hHeld => ?_)
  generalize w3.drew = w4 at BK113 HB hHeld ⊢
  refine take_ (i := 0) (N := some 3) (v := ?_) (a' := ?_) #[true, false, false, false, false] rfl rfl (by kernel_rfl) (fun _ _ _ h => h) (Or.inl ⟨by rfl, ?_⟩) hHeld ?_ ?_
  rotate_left
  · rintro w' ⟨s0, s1⟩
    go_simp
    with_reducible rfl
  rotate_left
  · simp only [Act.put, List.setIfInBounds_toArray, List.set_cons_zero, List.set_cons_succ, i64_w, i32_w]
    rfl
  refine take_ (i := 1) (N := some 4) (v := ?_) (a' := ?_) #[true, true, false, false, false] rfl rfl (by kernel_rfl) (fun _ _ _ h => h) (Or.inl ⟨by rfl, ?_⟩) hHeld ?_ ?_
  rotate_left
  · rintro w' ⟨s0, s1⟩
    go_simp
    with_reducible rfl
  rotate_left
  · simp only [Act.put, List.setIfInBounds_toArray, List.set_cons_zero, List.set_cons_succ, i64_w, i32_w]
    rfl
  refine one_ (i := 2) (N := some 5) #[true, true, true, false, false] rfl rfl (by kernel_rfl) (by decide) (fun K hK => ?_)
  refine goes_ Tryz.func143 (by kernel_rfl) rfl #[.agg #[.int .u32 a0_0, .int .i64 a0_1]] (by rfl) rfl rfl (by (try simp only [List.map_toArray, List.map_cons, List.map_nil]); first | done | rfl | (simp only [List.length_drop, List.length_take]; rfl)) ?_
  with_reducible refine (addr_Norm.calls a0_0 a0_1 t114 t115 _ A2.out).mono ?_
  rintro e w5 ⟨rfl, hb⟩
  refine ⟨_, rfl, ?_⟩
  have n0_ := Aside0.mk (blk_below (g := gb113) (o := .cells #[.int .u32 a0_0, .int .i64 a0_1] 24 (0, 0)) (by (with_reducible repeat (first | refine blk_drewN ?_ _ | refine blk_drew ?_ | refine blk_alloc ?_ _)); exact BK113.out) hb)
  have n1_ := Aside0.mk (below_step (by repeat (first | (with_reducible first | exact HB.out | apply below_alloc | apply pw_below_drewN | apply below_drew1 | refine below_set ?_ GE113.out) | exact HB.out)) hb)
  clear BK113
  clear HB
  have BK113 := n0_
  have HB := n1_
  clear n0_ n1_
  (try clear hb)
  (try clear hb2)
  (try clear hk)
  (try clear hi)
  refine hK.out _ _ ⟨(blk_cell BK113.out 0).trans rfl, (blk_cell BK113.out 1).trans rfl⟩ (fun hHeld => ?_)
  clear hK K
  refine norm_ (a' := ?_) ?_ ?_
  rotate_left
  · show Act.put _ (some 5) _ = _
    simp only [Act.put, List.setIfInBounds_toArray, List.set_cons_zero, List.set_cons_succ, i64_w, i32_w]
    rfl
  refine pure_ (i := 3) (N := some 6) (v := ?_) (a' := ?_) #[true, true, true, true, false] rfl rfl (by kernel_rfl) (fun _ _ _ h => h) (Or.inl ⟨by rfl, ?_⟩) ?_ ?_
  rotate_left
  · intro w'
    go_simp
    with_reducible rfl
  rotate_left
  · simp only [Act.put, List.setIfInBounds_toArray, List.set_cons_zero, List.set_cons_succ, i64_w, i32_w]
    rfl
  refine pure_ (i := 4) (N := some 2) (v := ?_) (a' := ?_) #[true, true, true, true, true] rfl rfl (by kernel_rfl) (fun _ _ _ h => h) (Or.inl ⟨by rfl, ?_⟩) ?_ ?_
  rotate_left
  · intro w'
    go_simp
    with_reducible rfl
  rotate_left
  · simp only [Act.put, List.setIfInBounds_toArray, List.set_cons_zero, List.set_cons_succ, i64_w, i32_w]
    rfl
  refine done_ (by kernel_rfl) ?_
  try go_wp2
  go_ret
  exact ⟨by first | rfl | (simp [errW_none, errW_some] <;> rfl) | (simp [*, errW_none, errW_some] <;> rfl), by repeat (first | (with_reducible first | exact HB.out | apply below_alloc | apply pw_below_drewN | apply below_drew1 | refine below_set ?_ GE113.out) | exact HB.out)⟩
def stringslite_HasPrefix.f (a0 : ByteArray) (a1 : ByteArray) : Option (Bool) := if (a0.size : Int) ≥ (a1.size : Int) then (if 0 ≤ (a1.size : Int) then (if (a1.size : Int) ≤ (a0.size : Int) then (some ((a0.extract 0 ((a1.size : Int) : Int).toNat).toList == a1.toList)) else (none)) else (none)) else (some false)
set_option maxHeartbeats 8000000 in
set_option maxRecDepth 100000 in
theorem stringslite_HasPrefix.calls (a0 : ByteArray) (a1 : ByteArray) (r : Bool) (w : World) (h : stringslite_HasPrefix.f a0 a1 = some r) :
    Calls Tryz.prog 128 #[.string a0, .string a1] w fun e w' => e = .returned (.bool r) ∧ Drawn0 w w' := by
  have H : (if (a0.size : Int) ≥ (a1.size : Int) then (if 0 ≤ (a1.size : Int) then (if (a1.size : Int) ≤ (a0.size : Int) then (some ((a0.extract 0 ((a1.size : Int) : Int).toNat).toList == a1.toList)) else (none)) else (none)) else (some false)) = some r := h
  clear h
  by_cases c3 : (a0.size : Int) ≥ (a1.size : Int)
  · rw [if_pos c3] at H
    have c3b0 : decide ((a1.size : Int) ≤ (a0.size : Int)) = true := decide_eq_true c3
    have c3b1 : decide (a1.size ≤ a0.size) = true := decide_eq_true (Int.ofNat_le.mp c3)
    clear c3
    by_cases c4 : 0 ≤ (a1.size : Int)
    · rw [if_pos c4] at H
      have c4b0 := eq_true c4
      have c4b1 : decide (0 ≤ (a1.size : Int)) = true := decide_eq_true c4
      clear c4
      by_cases c5 : (a1.size : Int) ≤ (a0.size : Int)
      · rw [if_pos c5] at H
        have c5b0 := eq_true c5
        have c5b1 : decide ((a1.size : Int) ≤ (a0.size : Int)) = true := decide_eq_true c5
        clear c5
        obtain rfl := Option.some.inj H
        go_enter Tryz.func128, Tryz.ntmps128
        go_wp2
        go_ret
        exact ⟨by first | rfl | (simp; done) | (simp [*]; done), by repeat (first | exact Drawn0.refl _ | apply Drawn0.step)⟩
      · rw [if_neg c5] at H
        exact absurd H (by simp)
    · rw [if_neg c4] at H
      exact absurd H (by simp)
  · rw [if_neg c3] at H
    have c3b0 : decide ((a1.size : Int) ≤ (a0.size : Int)) = false := decide_eq_false c3
    have c3b1 : decide (a1.size ≤ a0.size) = false := decide_eq_false (fun h => c3 (Int.ofNat_le.mpr h))
    clear c3
    obtain rfl := Option.some.inj H
    go_enter Tryz.func128, Tryz.ntmps128
    go_wp2
    go_ret
    exact ⟨by first | rfl | (simp; done) | (simp [*]; done), by repeat (first | exact Drawn0.refl _ | apply Drawn0.step)⟩
def strings_HasPrefix.f (a0 : ByteArray) (a1 : ByteArray) : Option (Bool) := (stringslite_HasPrefix.f a0 a1).bind fun t160 => (some t160)
set_option maxHeartbeats 8000000 in
set_option maxRecDepth 100000 in
theorem strings_HasPrefix.calls (a0 : ByteArray) (a1 : ByteArray) (r : Bool) (w : World) (h : strings_HasPrefix.f a0 a1 = some r) :
    Calls Tryz.prog 78 #[.string a0, .string a1] w fun e w' => e = .returned (.bool r) ∧ Drawn0 w w' := by
  have H : ((stringslite_HasPrefix.f a0 a1).bind fun t160 => (some t160)) = some r := h
  clear h
  replace H := Option.bind_eq_some_iff.mp H
  obtain ⟨t160, A30, H⟩ := H
  replace H : (some t160) = some r := H
  have A3 := Aside0.mk A30
  clear A30
  obtain rfl := Option.some.inj H
  go_enter Tryz.func78, Tryz.ntmps78
  go_wp2_with (first | ((with_reducible refine gate_callee (f := 128) rfl ?_); refine goesL_ (some 7) rfl rfl Tryz.func128 (by kernel_rfl) rfl #[.string a0, .string a1] rfl (by (try simp only [List.map_toArray, List.map_cons, List.map_nil]); first | done | rfl | (simp only [List.length_drop, List.length_take]; rfl)) ?_; (with_reducible refine (stringslite_HasPrefix.calls a0 a1 t160 _ A3.out).mono ?_); rintro e w' ⟨rfl, ⟨nd, rfl⟩⟩; refine ⟨_, rfl, ?_⟩))
  go_ret
  exact ⟨by first | rfl | (simp; done) | (simp [*]; done), by repeat (first | exact Drawn0.refl _ | apply Drawn0.step)⟩
def stringslite_HasSuffix.f (a0 : ByteArray) (a1 : ByteArray) : Option (Bool) := if (a0.size : Int) ≥ (a1.size : Int) then (if 0 ≤ (wrap64 ((a0.size : Int) - (a1.size : Int))) then (if (wrap64 ((a0.size : Int) - (a1.size : Int))) ≤ (a0.size : Int) then (some ((a0.extract ((wrap64 ((a0.size : Int) - (a1.size : Int))) : Int).toNat a0.size).toList == a1.toList)) else (none)) else (none)) else (some false)
set_option maxHeartbeats 8000000 in
set_option maxRecDepth 100000 in
theorem stringslite_HasSuffix.calls (a0 : ByteArray) (a1 : ByteArray) (r : Bool) (w : World) (h : stringslite_HasSuffix.f a0 a1 = some r) :
    Calls Tryz.prog 129 #[.string a0, .string a1] w fun e w' => e = .returned (.bool r) ∧ Drawn0 w w' := by
  have H : (if (a0.size : Int) ≥ (a1.size : Int) then (if 0 ≤ (wrap64 ((a0.size : Int) - (a1.size : Int))) then (if (wrap64 ((a0.size : Int) - (a1.size : Int))) ≤ (a0.size : Int) then (some ((a0.extract ((wrap64 ((a0.size : Int) - (a1.size : Int))) : Int).toNat a0.size).toList == a1.toList)) else (none)) else (none)) else (some false)) = some r := h
  clear h
  by_cases c3 : (a0.size : Int) ≥ (a1.size : Int)
  · rw [if_pos c3] at H
    have c3b0 : decide ((a1.size : Int) ≤ (a0.size : Int)) = true := decide_eq_true c3
    have c3b1 : decide (a1.size ≤ a0.size) = true := decide_eq_true (Int.ofNat_le.mp c3)
    clear c3
    obtain ⟨ji4, hji4⟩ : ∃ j_ : Int, (wrap64 ((a0.size : Int) - (a1.size : Int))) = j_ := ⟨_, rfl⟩
    replace H : (if 0 ≤ (ji4) then (if (ji4) ≤ (a0.size : Int) then (some ((a0.extract ((ji4) : Int).toNat a0.size).toList == a1.toList)) else (none)) else (none)) = some r := by first | (rw [hji4] at H; exact H) | (simp only [hji4] at H ⊢; exact H)
    have hji4w : (IntKind.i64.wrap ((a0.size : Int) - (a1.size : Int))) = ji4 := (i64_w _).trans hji4
    by_cases c5 : 0 ≤ (ji4)
    · rw [if_pos c5] at H
      have c5b0 := eq_true c5
      have c5b1 : decide (0 ≤ (ji4)) = true := decide_eq_true c5
      clear c5
      by_cases c6 : (ji4) ≤ (a0.size : Int)
      · rw [if_pos c6] at H
        have c6b0 := eq_true c6
        have c6b1 : decide ((ji4) ≤ (a0.size : Int)) = true := decide_eq_true c6
        clear c6
        obtain rfl := Option.some.inj H
        go_enter Tryz.func129, Tryz.ntmps129
        go_wp2
        go_ret
        exact ⟨by first | rfl | (simp; done) | (simp only [← hji4] <;> (first | rfl | simp)) | (simp [*]; done), by repeat (first | exact Drawn0.refl _ | apply Drawn0.step)⟩
      · rw [if_neg c6] at H
        exact absurd H (by simp)
    · rw [if_neg c5] at H
      exact absurd H (by simp)
  · rw [if_neg c3] at H
    have c3b0 : decide ((a1.size : Int) ≤ (a0.size : Int)) = false := decide_eq_false c3
    have c3b1 : decide (a1.size ≤ a0.size) = false := decide_eq_false (fun h => c3 (Int.ofNat_le.mpr h))
    clear c3
    obtain rfl := Option.some.inj H
    go_enter Tryz.func129, Tryz.ntmps129
    go_wp2
    go_ret
    exact ⟨by first | rfl | (simp; done) | (simp [*]; done), by repeat (first | exact Drawn0.refl _ | apply Drawn0.step)⟩
def strings_HasSuffix.f (a0 : ByteArray) (a1 : ByteArray) : Option (Bool) := (stringslite_HasSuffix.f a0 a1).bind fun t161 => (some t161)
set_option maxHeartbeats 8000000 in
set_option maxRecDepth 100000 in
theorem strings_HasSuffix.calls (a0 : ByteArray) (a1 : ByteArray) (r : Bool) (w : World) (h : strings_HasSuffix.f a0 a1 = some r) :
    Calls Tryz.prog 79 #[.string a0, .string a1] w fun e w' => e = .returned (.bool r) ∧ Drawn0 w w' := by
  have H : ((stringslite_HasSuffix.f a0 a1).bind fun t161 => (some t161)) = some r := h
  clear h
  replace H := Option.bind_eq_some_iff.mp H
  obtain ⟨t161, A30, H⟩ := H
  replace H : (some t161) = some r := H
  have A3 := Aside0.mk A30
  clear A30
  obtain rfl := Option.some.inj H
  go_enter Tryz.func79, Tryz.ntmps79
  go_wp2_with (first | ((with_reducible refine gate_callee (f := 129) rfl ?_); refine goesL_ (some 7) rfl rfl Tryz.func129 (by kernel_rfl) rfl #[.string a0, .string a1] rfl (by (try simp only [List.map_toArray, List.map_cons, List.map_nil]); first | done | rfl | (simp only [List.length_drop, List.length_take]; rfl)) ?_; (with_reducible refine (stringslite_HasSuffix.calls a0 a1 t161 _ A3.out).mono ?_); rintro e w' ⟨rfl, ⟨nd, rfl⟩⟩; refine ⟨_, rfl, ?_⟩))
  go_ret
  exact ⟨by first | rfl | (simp; done) | (simp [*]; done), by repeat (first | exact Drawn0.refl _ | apply Drawn0.step)⟩
def rule_flags.l0 : Nat → Int → ByteArray → Int → Option (ByteArray)
  | 0, _, _, _ => none
  | k + 1, x0, x3, x5 => if x5 < 6 then (if 0 ≤ x5 then (if (Go.bits .and .i64 (shr .i64 x0 x5) 1) = 1 then (if x5 ≤ (wrap64 (x5 + 1)) then (if (wrap64 (x5 + 1)) ≤ 6 then (if x3.size + ((⟨#[70, 83, 82, 80, 65, 85]⟩ : ByteArray).extract (x5 : Int).toNat ((wrap64 (x5 + 1)) : Int).toNat).size ≤ 9223372036854775807 then (rule_flags.l0 k x0 (x3 ++ ((⟨#[70, 83, 82, 80, 65, 85]⟩ : ByteArray).extract (x5 : Int).toNat ((wrap64 (x5 + 1)) : Int).toNat)) (wrap64 (x5 + 1))) else (none)) else (none)) else (none)) else (rule_flags.l0 k x0 x3 (wrap64 (x5 + 1)))) else (none)) else (if x3.toList = ([] : List UInt8) then (some (⟨#[45]⟩ : ByteArray)) else (some x3))
def rule_flags.f (k : Nat) (a0 : Int) : Option (ByteArray) := rule_flags.l0 k a0 (⟨#[]⟩ : ByteArray) 0
theorem rule_flags.mono_l : ∀ k, (∀ y0 y1 y2, LeO (rule_flags.l0 k y0 y1 y2) (rule_flags.l0 (k + 1) y0 y1 y2))
  | 0 => fun _ _ _ r h => by simp [rule_flags.l0] at h
  | k + 1 => by
    have ih0 := rule_flags.mono_l k
    · intro y0 y1 y2
      unfold rule_flags.l0
      repeat' first
      | (with_reducible exact ih0 _ _ _)
      | (with_reducible exact LeO.refl _)
      | (with_reducible exact LeO.none _)
      | (with_reducible refine LeO.ite ?_ ?_)
      | (with_reducible refine LeO.bind ?_ (fun _ => ?_))
      | exact ih0 _ _ _
      | exact LeO.none _
      | refine LeO.ite ?_ ?_
      | refine LeO.bind ?_ (fun _ => ?_)
theorem rule_flags.mono : ∀ a0 k, LeO (rule_flags.f k a0) (rule_flags.f (k + 1) a0) := by
  intro a0 k
  have ih0 := rule_flags.mono_l k
  unfold rule_flags.f
  repeat' first
      | (with_reducible exact ih0 _ _ _)
      | (with_reducible exact LeO.refl _)
      | (with_reducible exact LeO.none _)
      | (with_reducible refine LeO.ite ?_ ?_)
      | (with_reducible refine LeO.bind ?_ (fun _ => ?_))
      | exact ih0 _ _ _
      | exact LeO.none _
      | refine LeO.ite ?_ ?_
      | refine LeO.bind ?_ (fun _ => ?_)
set_option maxHeartbeats 8000000 in
set_option maxRecDepth 100000 in
theorem rule_flags.calls (k : Nat) (a0 : Int) (r : ByteArray) (w : World) (h : rule_flags.f k a0 = some r) :
    Calls Tryz.prog 55 #[.int .i64 a0] w fun e w' => e = .returned (.string r) ∧ Drawn0 w w' := by
  have H : (rule_flags.l0 k a0 (⟨#[]⟩ : ByteArray) 0) = some r := h
  clear h
  have H' := Aside0.mk H
  clear H
  go_enter Tryz.func55, Tryz.ntmps55
  go_wp2
  go_loopg [3, 5] k (fun kq v3 v5 w' => ∃ (x3_1 : ByteArray) (x5_1 : Int), v3 = .string x3_1 ∧ v5 = .int .i64 x5_1 ∧ Aside0 (rule_flags.l0 kq a0 x3_1 x5_1 = some r) ∧ Aside0 (kq ≤ k) ∧ Drawn0 w w')
  case atStart => exact ⟨((⟨#[]⟩ : ByteArray)), (0), (by first | rfl | (simp; done) | (simp [*]; done)), (by first | rfl | (simp; done) | (simp [*]; done)), H', ⟨Nat.le_refl _⟩, by repeat (first | exact Drawn0.refl _ | apply Drawn0.step)⟩
  case round =>
    clear H'
    obtain ⟨x3_1, x5_1, rfl, rfl, HA, HK1, ⟨m1, rfl⟩⟩ := hrel
    cases gk with
    | zero => exact absurd HA.out (by simp [rule_flags.l0])
    | succ k1 =>
      have H := HA.out
      clear HA
      simp only [rule_flags.l0] at H
      by_cases c2 : x5_1 < 6
      · rw [if_pos c2] at H
        have c2b0 : decide (x5_1 < 6) = true := decide_eq_true c2
        clear c2
        by_cases c3 : 0 ≤ x5_1
        · rw [if_pos c3] at H
          have c3b0 := eq_true c3
          have c3b1 : decide (0 ≤ x5_1) = true := decide_eq_true c3
          clear c3
          obtain ⟨ji4, hji4⟩ : ∃ j_ : Int, (shr .i64 a0 x5_1) = j_ := ⟨_, rfl⟩
          replace H : (if (Go.bits .and .i64 (ji4) 1) = 1 then (if x5_1 ≤ (wrap64 (x5_1 + 1)) then (if (wrap64 (x5_1 + 1)) ≤ 6 then (if x3_1.size + ((⟨#[70, 83, 82, 80, 65, 85]⟩ : ByteArray).extract (x5_1 : Int).toNat ((wrap64 (x5_1 + 1)) : Int).toNat).size ≤ 9223372036854775807 then (rule_flags.l0 k1 a0 (x3_1 ++ ((⟨#[70, 83, 82, 80, 65, 85]⟩ : ByteArray).extract (x5_1 : Int).toNat ((wrap64 (x5_1 + 1)) : Int).toNat)) (wrap64 (x5_1 + 1))) else (none)) else (none)) else (none)) else (rule_flags.l0 k1 a0 x3_1 (wrap64 (x5_1 + 1)))) = some r := by first | (rw [hji4] at H; exact H) | (simp only [hji4] at H ⊢; exact H)
          have hji4_ : (a0 / 2 ^ min x5_1.toNat 64) = ji4 := hji4
          have hji4z : x5_1 ≤ 64 → (a0 / 2 ^ x5_1.toNat) = ji4 := shr_small hji4
          by_cases c5 : (Go.bits .and .i64 (ji4) 1) = 1
          · rw [if_pos c5] at H
            have c5b0 : ((Go.bits .and .i64 (ji4) 1) == 1) = true := beq_iff_eq.mpr c5
            have c5b1 : ((Go.bits .and .i64 (ji4) 1) != 1) = false := bne_eq_false_iff_eq.mpr c5
            clear c5
            have c6b0 := eq_true (of_decide_eq_true (by first | (with_reducible assumption) | assumption) : 0 ≤ x5_1)
            by_cases c7 : x5_1 ≤ (wrap64 (x5_1 + 1))
            · rw [if_pos c7] at H
              have c7b0 := eq_true c7
              have c7b1 : decide (x5_1 ≤ (wrap64 (x5_1 + 1))) = true := decide_eq_true c7
              by_cases c8 : (wrap64 (x5_1 + 1)) ≤ 6
              · rw [if_pos c8] at H
                have c8b0 := eq_true c8
                have c8b1 : decide ((wrap64 (x5_1 + 1)) ≤ 6) = true := decide_eq_true c8
                by_cases c9 : x3_1.size + ((⟨#[70, 83, 82, 80, 65, 85]⟩ : ByteArray).extract (x5_1 : Int).toNat ((wrap64 (x5_1 + 1)) : Int).toNat).size ≤ 9223372036854775807
                · rw [if_pos c9] at H
                  have c9b0 := eq_true c9
                  have c9b1 : decide (x3_1.size + ((⟨#[70, 83, 82, 80, 65, 85]⟩ : ByteArray).extract (x5_1 : Int).toNat ((wrap64 (x5_1 + 1)) : Int).toNat).size ≤ 9223372036854775807) = true := decide_eq_true c9
                  try have c9b2 : (9223372036854775807 < x3_1.size + ((⟨#[70, 83, 82, 80, 65, 85]⟩ : ByteArray).extract (x5_1 : Int).toNat ((wrap64 (x5_1 + 1)) : Int).toNat).size) = False := eq_false (Nat.not_lt.2 c9)
                  have H' := Aside0.mk H
                  clear H
                  go_wp2
                  go_roundg k1
                  case measure => have := HK1.out; omega
                  case rel => exact ⟨(x3_1 ++ ((⟨#[70, 83, 82, 80, 65, 85]⟩ : ByteArray).extract (x5_1 : Int).toNat ((wrap64 (x5_1 + 1)) : Int).toNat)), (wrap64 (x5_1 + 1)), (by first | rfl | (simp; done) | (simp [*]; done)), (by first | rfl | (simp; done) | (simp [*]; done)), H', ⟨by have := HK1.out; omega⟩, by repeat (first | exact Drawn0.refl _ | apply Drawn0.step)⟩
                · rw [if_neg c9] at H
                  exact absurd H (by simp)
              · rw [if_neg c8] at H
                exact absurd H (by simp)
            · rw [if_neg c7] at H
              exact absurd H (by simp)
          · rw [if_neg c5] at H
            have c5b0 : ((Go.bits .and .i64 (ji4) 1) == 1) = false := beq_eq_false_iff_ne.mpr c5
            have c5b1 : ((Go.bits .and .i64 (ji4) 1) != 1) = true := bne_iff_ne.mpr c5
            have H' := Aside0.mk H
            clear H
            go_wp2
            go_roundg k1
            case measure => have := HK1.out; omega
            case rel => exact ⟨(x3_1), (wrap64 (x5_1 + 1)), (by first | rfl | (simp; done) | (simp [*]; done)), (by first | rfl | (simp; done) | (simp [*]; done)), H', ⟨by have := HK1.out; omega⟩, by repeat (first | exact Drawn0.refl _ | apply Drawn0.step)⟩
        · rw [if_neg c3] at H
          exact absurd H (by simp)
      · rw [if_neg c2] at H
        have c2b0 : decide (x5_1 < 6) = false := decide_eq_false c2
        clear c2
        by_cases c10 : x3_1.toList = ([] : List UInt8)
        · rw [if_pos c10] at H
          have c10b0 : (x3_1.toList == ([] : List UInt8)) = true := beq_iff_eq.mpr c10
          have c10b1 : (x3_1.toList != ([] : List UInt8)) = false := bne_eq_false_iff_eq.mpr c10
          clear c10
          obtain rfl := Option.some.inj H
          go_wp2
          go_ret
          exact ⟨by first | rfl | (simp; done) | (simp [*]; done), by repeat (first | exact Drawn0.refl _ | apply Drawn0.step)⟩
        · rw [if_neg c10] at H
          have c10b0 : (x3_1.toList == ([] : List UInt8)) = false := beq_eq_false_iff_ne.mpr c10
          have c10b1 : (x3_1.toList != ([] : List UInt8)) = true := bne_iff_ne.mpr c10
          obtain rfl := Option.some.inj H
          go_wp2
          go_ret
          exact ⟨by first | rfl | (simp; done) | (simp [*]; done), by repeat (first | exact Drawn0.refl _ | apply Drawn0.step)⟩
/-- A state of type 68 at block g of W; what its slices lead to came in by w0. -/
def IsS68 (w0 W : World) (g : Nat) (f0 : List ByteArray) (f1 : Bool) : Prop := ∃ A0 c0, W.heap[g]? = some (.cells #[.slice A0 f0.length c0, .bool f1] 68 (0, 0)) ∧ w0.heap.size ≤ g ∧ Kd.C Kd.string w0 A0 f0.length f0
theorem IsS68.grown {w0 W : World} {g : Nat} {f0 : List ByteArray} {f1 : Bool} {W1 : World} {row : Option Nat} (h : IsS68 w0 W g f0 f1) (hw : W.grownBy W1 row) (hne : some g ≠ row) : IsS68 w0 W1 g f0 f1 := by
  obtain ⟨A0, c0, hb, hg, hr0⟩ := h
  exact ⟨A0, c0, blk_grown hb hw hne, hg, hr0⟩
theorem IsS68.fresh {w0 W : World} {g : Nat} {f0 : List ByteArray} {f1 : Bool} (h : IsS68 w0 W g f0 f1) : ∀ k, W.heap.size ≤ k → k ≠ g := by
  obtain ⟨A0, c0, hb, hg, hr0⟩ := h
  exact Kd.freshB hb
theorem IsS68.kept {w0 W : World} {g : Nat} {f0 : List ByteArray} {f1 : Bool} {W1 : World} {S : Nat → Prop} (h : IsS68 w0 W g f0 f1) (hk : Kept W W1 S) (hne : ¬ S g) : IsS68 w0 W1 g f0 f1 := by
  obtain ⟨A0, c0, hb, hg, hr0⟩ := h
  exact ⟨A0, c0, blk_kept hb hk hne, hg, hr0⟩
theorem IsS68.below {w0 W : World} {g : Nat} {f0 : List ByteArray} {f1 : Bool} {W1 : World} (h : IsS68 w0 W g f0 f1) (hw : Below W.heap.size W W1) : IsS68 w0 W1 g f0 f1 := h.grown (grown_of_below hw none) (by simp)
theorem IsS68.alloc {w0 W : World} {g : Nat} {f0 : List ByteArray} {f1 : Bool} (h : IsS68 w0 W g f0 f1) (o : Obj) : IsS68 w0 (W.alloc o) g f0 f1 := h.below (below_alloc (Below.refl _ _) o)
theorem IsS68.drewN {w0 W : World} {g : Nat} {f0 : List ByteArray} {f1 : Bool} (h : IsS68 w0 W g f0 f1) (m : Nat) : IsS68 w0 (W.drewN m) g f0 f1 := h
theorem IsS68.drew {w0 W : World} {g : Nat} {f0 : List ByteArray} {f1 : Bool} (h : IsS68 w0 W g f0 f1) : IsS68 w0 W.drew g f0 f1 := h
theorem IsS68.at_ {w0 W : World} {g : Nat} {f0 : List ByteArray} {f1 : Bool} {w' : World} {m : Nat} (hq : W.drewN m = w') (h : IsS68 w0 W g f0 f1) : IsS68 w0 w' g f0 f1 := by subst hq; exact IsS68.drewN h m
theorem IsS68.apart {w0 W : World} {g : Nat} {f0 : List ByteArray} {f1 : Bool} {α : Type} {d : Kd α} {e : Nat} {base : Nat} {ok : Nat → Prop} {v : Value} {xs : List α} (h : IsS68 w0 W g f0 f1) (ho : d.R e W base ok v xs) (ht : ∀ q, q ∈ e :: d.E → q ≠ 68) : d.R e W base (fun k => ok k ∧ k ≠ g) v xs := by
  obtain ⟨A0, c0, hb, hg, hr0⟩ := h
  exact Kd.R_types ho hb ht
theorem IsS68.own_ne {w0 W : World} {g : Nat} {f0 : List ByteArray} {f1 : Bool} {α : Type} {d : Kd α} {e : Nat} {base : Nat} {ok : Nat → Prop} {v : Value} {xs : List α} (h : IsS68 w0 W g f0 f1) (ho : d.R e W base ok v xs) (ht : e ≠ 68) : some g ≠ v.ownBlock := by
  obtain ⟨A0, c0, hb, hg, hr0⟩ := h
  exact Kd.R_ne ho hb ht
theorem IsS68.lt {w0 W : World} {g : Nat} {f0 : List ByteArray} {f1 : Bool} (h : IsS68 w0 W g f0 f1) : g < W.heap.size := by
  obtain ⟨A0, c0, hb, hg, hr0⟩ := h
  exact blk_lt hb
theorem IsS68.ge {w0 W : World} {g : Nat} {f0 : List ByteArray} {f1 : Bool} (h : IsS68 w0 W g f0 f1) : w0.heap.size ≤ g := by
  obtain ⟨A0, c0, hb, hg, hr0⟩ := h
  exact hg
theorem IsS68.far {w0 W : World} {g : Nat} {f0 : List ByteArray} {f1 : Bool} {p : Addr} (h : IsS68 w0 W g f0 f1) (hne : g ≠ p.block) (u : Value) : IsS68 w0 (W.setCell p u) g f0 f1 := by
  obtain ⟨A0, c0, hb, hg, hr0⟩ := h
  exact ⟨A0, c0, blk_far hb hne u, hg, hr0⟩
end Go.Proofs.YtomkohdlaednhaaGreatDoor.PConfParses
end
section
namespace Go.Proofs.YtomkohdlaednhaaGreatDoor.PConfParses
open Go.RowKit Go.Proofs.YtomkohdlaednhaaGreatDoorW.PrintWords Go.Proofs.YtomkohdlaednhaaGreatDoorW.PrintLast Go.Proofs.YtomkohdlaednhaaGreatDoorW.PrintMore
attribute [local go_sem] max2_int min2_int max_two min_two max_three min_three max_four min_four   -- for this text's walks alone
set_option linter.unusedVariables false
set_option linter.unusedSimpArgs false
mutual
def castellanref14_Words.l0 : Nat → ByteArray → List ByteArray → Int → Option (List ByteArray)
  | 0, _, _, _ => none
  | k + 1, x0, x3, x4 => if x4 < (x0.size : Int) then (castellanref14_Words.l1 k x0 x3 x4 x4) else (some x3)
def castellanref14_Words.l1 : Nat → ByteArray → List ByteArray → Int → Int → Option (List ByteArray)
  | 0, _, _, _, _ => none
  | k + 1, x0, x3, x4, x5 => if x5 < (x0.size : Int) then (if 0 ≤ x5 then (if (bt x0 x5) = 32 then (if x5 > x4 then (if 0 ≤ x4 then (if x4 ≤ x5 then (if x5 ≤ (x0.size : Int) then (if x3.length < 8796093022208 then (castellanref14_Words.l0 k x0 (x3 ++ [x0.extract (x4 : Int).toNat (x5 : Int).toNat]) (wrap64 (x5 + 1))) else (none)) else (none)) else (none)) else (none)) else (castellanref14_Words.l0 k x0 x3 (wrap64 (x5 + 1)))) else (castellanref14_Words.l1 k x0 x3 x4 (wrap64 (x5 + 1)))) else (none)) else (if x5 > x4 then (if 0 ≤ x4 then (if x4 ≤ x5 then (if x5 ≤ (x0.size : Int) then (if x3.length < 8796093022208 then (castellanref14_Words.l0 k x0 (x3 ++ [x0.extract (x4 : Int).toNat (x5 : Int).toNat]) (wrap64 (x5 + 1))) else (none)) else (none)) else (none)) else (none)) else (castellanref14_Words.l0 k x0 x3 (wrap64 (x5 + 1))))
end
def castellanref14_Words.f (k : Nat) (a0 : ByteArray) : Option (List ByteArray) := castellanref14_Words.l0 k a0 ([] : List ByteArray) 0
theorem castellanref14_Words.mono_l : ∀ k, (∀ y0 y1 y2, LeO (castellanref14_Words.l0 k y0 y1 y2) (castellanref14_Words.l0 (k + 1) y0 y1 y2)) ∧ (∀ y0 y1 y2 y3, LeO (castellanref14_Words.l1 k y0 y1 y2 y3) (castellanref14_Words.l1 (k + 1) y0 y1 y2 y3))
  | 0 => ⟨fun _ _ _ r h => by simp [castellanref14_Words.l0] at h, fun _ _ _ _ r h => by simp [castellanref14_Words.l1] at h⟩
  | k + 1 => by
    obtain ⟨ih0, ih1⟩ := castellanref14_Words.mono_l k
    refine ⟨?_, ?_⟩
    · intro y0 y1 y2
      unfold castellanref14_Words.l0
      repeat' first
      | (with_reducible exact ih0 _ _ _)
      | (with_reducible exact ih1 _ _ _ _)
      | (with_reducible exact LeO.refl _)
      | (with_reducible exact LeO.none _)
      | (with_reducible refine LeO.ite ?_ ?_)
      | (with_reducible refine LeO.bind ?_ (fun _ => ?_))
      | exact ih0 _ _ _
      | exact ih1 _ _ _ _
      | exact LeO.none _
      | refine LeO.ite ?_ ?_
      | refine LeO.bind ?_ (fun _ => ?_)
    · intro y0 y1 y2 y3
      unfold castellanref14_Words.l1
      repeat' first
      | (with_reducible exact ih0 _ _ _)
      | (with_reducible exact ih1 _ _ _ _)
      | (with_reducible exact LeO.refl _)
      | (with_reducible exact LeO.none _)
      | (with_reducible refine LeO.ite ?_ ?_)
      | (with_reducible refine LeO.bind ?_ (fun _ => ?_))
      | exact ih0 _ _ _
      | exact ih1 _ _ _ _
      | exact LeO.none _
      | refine LeO.ite ?_ ?_
      | refine LeO.bind ?_ (fun _ => ?_)
theorem castellanref14_Words.mono : ∀ a0 k, LeO (castellanref14_Words.f k a0) (castellanref14_Words.f (k + 1) a0) := by
  intro a0 k
  obtain ⟨ih0, ih1⟩ := castellanref14_Words.mono_l k
  unfold castellanref14_Words.f
  repeat' first
      | (with_reducible exact ih0 _ _ _)
      | (with_reducible exact ih1 _ _ _ _)
      | (with_reducible exact LeO.refl _)
      | (with_reducible exact LeO.none _)
      | (with_reducible refine LeO.ite ?_ ?_)
      | (with_reducible refine LeO.bind ?_ (fun _ => ?_))
      | exact ih0 _ _ _
      | exact ih1 _ _ _ _
      | exact LeO.none _
      | refine LeO.ite ?_ ?_
      | refine LeO.bind ?_ (fun _ => ?_)
set_option maxHeartbeats 8000000 in
set_option maxRecDepth 100000 in
theorem castellanref14_Words.calls (k : Nat) (a0 : ByteArray) (r : List ByteArray) (w : World) (h : castellanref14_Words.f k a0 = some r) :
    Calls Tryz.prog 20 #[.string a0] w fun e w' => ∃ v0_ : Value, e = .returned (v0_) ∧ Kd.R Kd.string 9 w' w.heap.size (fun _ => True) v0_ r ∧ Below w.heap.size w w' := by
  have HB := Aside0.mk (Below.refl w.heap.size w)
  have H : (castellanref14_Words.l0 k a0 ([] : List ByteArray) 0) = some r := h
  clear h
  have H' := Aside0.mk H
  clear H
  go_enter Tryz.func20, Tryz.ntmps20
  go_wp2
  go_loopg [3, 4] k (fun kq v3 v4 w' => ∃ (x3_1 : List ByteArray) (x4_1 : Int), v4 = .int .i64 x4_1 ∧ Aside0 (castellanref14_Words.l0 kq a0 x3_1 x4_1 = some r) ∧ Aside0 (kq ≤ k) ∧ Aside0 (Kd.R Kd.string 9 w' w.heap.size (fun _ => True) v3 x3_1) ∧ Aside0 (Below w.heap.size w w'))
  case atStart => exact ⟨(([] : List ByteArray)), (0), (by first | rfl | (simp; done) | (simp [*]; done)), H', ⟨Nat.le_refl _⟩, ⟨by first | exact Kd.R_nil _ _ _ _ _ | exact Kd.N_nil _ _ _ _ _ | exact Kd.V_nil _ _ _ _ _ | exact Kd.Q_nil _ _ _ _ _ | exact Kd.S_nil _ _ _ _ _⟩, ⟨by repeat (first | (with_reducible first | exact HB.out | apply below_alloc | apply pw_below_drewN | apply below_drew1) | exact HB.out)⟩⟩
  case round =>
    clear H'
    obtain ⟨x3_1, x4_1, rfl, HA, HK1, HO_3, HB⟩ := hrel
    cases gk with
    | zero => exact absurd HA.out (by simp [castellanref14_Words.l0])
    | succ k1 =>
      have H := HA.out
      clear HA
      simp only [castellanref14_Words.l0] at H
      by_cases c2 : x4_1 < (a0.size : Int)
      · rw [if_pos c2] at H
        have c2b0 : decide (x4_1 < (a0.size : Int)) = true := decide_eq_true c2
        clear c2
        have H' := Aside0.mk H
        clear H
        go_wp2
        go_loopg [5] k1 (fun kq v5 w' => ∃ (x5_2 : Int), v5 = .int .i64 x5_2 ∧ Aside0 (castellanref14_Words.l1 kq a0 x3_1 x4_1 x5_2 = some r) ∧ Aside0 (kq ≤ k1) ∧ Aside0 (Kd.R Kd.string 9 w' w.heap.size (fun _ => True) u3 x3_1) ∧ Aside0 (Below w.heap.size w w'))
        case atStart => exact ⟨(x4_1), (by first | rfl | (simp; done) | (simp [*]; done)), H', ⟨Nat.le_refl _⟩, ⟨by (with_reducible repeat (first | apply Kd.R_alloc | apply Kd.R_drewN | apply Kd.R_drew)); exact HO_3.out⟩, ⟨by repeat (first | (with_reducible first | exact HB.out | apply below_alloc | apply pw_below_drewN | apply below_drew1) | exact HB.out)⟩⟩
        case round =>
          clear H'
          try clear c2
          try clear c2b0
          try clear p2
          obtain ⟨x5_2, rfl, HA, HK2, HO_3, HB⟩ := hrel
          cases gk with
          | zero => exact absurd HA.out (by simp [castellanref14_Words.l1])
          | succ k2 =>
            have H := HA.out
            clear HA
            simp only [castellanref14_Words.l1] at H
            by_cases c3 : x5_2 < (a0.size : Int)
            · rw [if_pos c3] at H
              have c3b0 : decide (x5_2 < (a0.size : Int)) = true := decide_eq_true c3
              clear c3
              by_cases c4 : 0 ≤ x5_2
              · rw [if_pos c4] at H
                have c4b0 : decide (0 ≤ x5_2) = true := decide_eq_true c4
                clear c4
                by_cases c6 : (bt a0 x5_2) = 32
                · rw [if_pos c6] at H
                  have c6b0 : ((bt a0 x5_2) == 32) = true := beq_iff_eq.mpr c6
                  have c6b1 : ((bt a0 x5_2) != 32) = false := bne_eq_false_iff_eq.mpr c6
                  clear c6
                  by_cases c7 : x5_2 > x4_1
                  · rw [if_pos c7] at H
                    have c7b0 : decide (x4_1 < x5_2) = true := decide_eq_true c7
                    clear c7
                    by_cases c8 : 0 ≤ x4_1
                    · rw [if_pos c8] at H
                      have c8b0 := eq_true c8
                      have c8b1 : decide (0 ≤ x4_1) = true := decide_eq_true c8
                      clear c8
                      by_cases c9 : x4_1 ≤ x5_2
                      · rw [if_pos c9] at H
                        have c9b0 := eq_true c9
                        have c9b1 : decide (x4_1 ≤ x5_2) = true := decide_eq_true c9
                        clear c9
                        by_cases c10 : x5_2 ≤ (a0.size : Int)
                        · rw [if_pos c10] at H
                          have c10b0 := eq_true c10
                          have c10b1 : decide (x5_2 ≤ (a0.size : Int)) = true := decide_eq_true c10
                          clear c10
                          by_cases c11 : x3_1.length < 8796093022208
                          · rw [if_pos c11] at H
                            have LMc11 := Aside0.mk c11
                            clear c11
                            obtain ⟨y198, hy198⟩ : ∃ y_ : List ByteArray, y_ = (x3_1 ++ [a0.extract (x4_1 : Int).toNat (x5_2 : Int).toNat]) := ⟨_, rfl⟩
                            replace H : (castellanref14_Words.l0 k2 a0 y198 (wrap64 (x5_2 + 1))) = some r := by first | (rw [hy198]; with_reducible exact H) | (have H2_ := (Option.bind_some _ _).symm.trans H; rw [hy198]; with_reducible exact H2_) | (have H2_ := (Option.bind_some _ _).symm.trans H; with_reducible exact H2_) | with_reducible exact H | (rw [hy198]; exact H) | exact H
                            have Ny198 := Aside0.mk hy198
                            clear hy198
                            have H' := Aside0.mk H
                            clear H
                            have p5 : 0 ≤ (x5_2 : Int) := of_decide_eq_true (by first | (with_reducible assumption) | assumption)
                            have q5 : x5_2 < (a0.size : Int) := of_decide_eq_true (by first | (with_reducible assumption) | assumption)
                            have hx5 := bt_at a0 x5_2
                            replace p5 := eq_true p5
                            replace q5 := eq_true q5
                            go_wp2_with (first | ((with_reducible refine gate_builtin (b := .append) (xs := #[.tmp 26, .tmp 31]) rfl ?_); at_builtin; refine Kd.R_append Kd.string (w0 := w) w.heap.size rfl (.tmp 26) (.tmp 31) 43 9 (.string ⟨#[]⟩) 16 rfl Tryz.underlying43 info9 rfl (by decide) (by omega) u3 x3_1 (a0.extract (x4_1 : Int).toNat (x5_2 : Int).toNat) [.string (a0.extract (x4_1 : Int).toNat (x5_2 : Int).toNat)] (fun _ => True) (fun _ => False) rfl rfl ?aP (fun _ hk => hk.elim) ?aF ?aO ?aB ?aS ?aL ?_; (case aP => exact rfl); (case aB => exact (by repeat (first | (with_reducible first | exact HB.out | apply below_alloc | apply pw_below_drewN | apply below_drew1) | exact HB.out))); (case aF => exact (fun _ _ => trivial)); (case aO => exact (by (with_reducible repeat (first | apply Kd.R_alloc | apply Kd.R_drewN | apply Kd.R_drew)); exact HO_3.out)); (case aS => exact (below_size (by repeat (first | (with_reducible first | exact HB.out | apply below_alloc | apply pw_below_drewN | apply below_drew1) | exact HB.out)))); (case aL => have := LMc11.out; omega); intro v199 w12 ho hb hg hat; rw [← Ny198.out] at ho; have n0_ := Aside0.mk (hb); have n1_ := Aside0.mk (ho); clear HB; clear HO_3; have HB := n0_; have HO200 := n1_; clear n0_ n1_; clear ho hb hg hat))
                            go_roundg k2
                            case measure => have := HK1.out; have := HK2.out; omega
                            case rel => exact ⟨(y198), (wrap64 (x5_2 + 1)), (by first | rfl | (simp; done) | (simp [*]; done)), H', ⟨by have := HK1.out; have := HK2.out; omega⟩, ⟨by (with_reducible repeat (first | apply Kd.R_alloc | apply Kd.R_drewN | apply Kd.R_drew)); exact HO200.out⟩, ⟨by repeat (first | (with_reducible first | exact HB.out | apply below_alloc | apply pw_below_drewN | apply below_drew1) | exact HB.out)⟩⟩
                          · rw [if_neg c11] at H
                            exact absurd H (by simp)
                        · rw [if_neg c10] at H
                          exact absurd H (by simp)
                      · rw [if_neg c9] at H
                        exact absurd H (by simp)
                    · rw [if_neg c8] at H
                      exact absurd H (by simp)
                  · rw [if_neg c7] at H
                    have c7b0 : decide (x4_1 < x5_2) = false := decide_eq_false c7
                    clear c7
                    have H' := Aside0.mk H
                    clear H
                    have p5 : 0 ≤ (x5_2 : Int) := of_decide_eq_true (by first | (with_reducible assumption) | assumption)
                    have q5 : x5_2 < (a0.size : Int) := of_decide_eq_true (by first | (with_reducible assumption) | assumption)
                    have hx5 := bt_at a0 x5_2
                    replace p5 := eq_true p5
                    replace q5 := eq_true q5
                    go_wp2
                    go_roundg k2
                    case measure => have := HK1.out; have := HK2.out; omega
                    case rel => exact ⟨(x3_1), (wrap64 (x5_2 + 1)), (by first | rfl | (simp; done) | (simp [*]; done)), H', ⟨by have := HK1.out; have := HK2.out; omega⟩, ⟨by (with_reducible repeat (first | apply Kd.R_alloc | apply Kd.R_drewN | apply Kd.R_drew)); exact HO_3.out⟩, ⟨by repeat (first | (with_reducible first | exact HB.out | apply below_alloc | apply pw_below_drewN | apply below_drew1) | exact HB.out)⟩⟩
                · rw [if_neg c6] at H
                  have c6b0 : ((bt a0 x5_2) == 32) = false := beq_eq_false_iff_ne.mpr c6
                  have c6b1 : ((bt a0 x5_2) != 32) = true := bne_iff_ne.mpr c6
                  have H' := Aside0.mk H
                  clear H
                  have p5 : 0 ≤ (x5_2 : Int) := of_decide_eq_true (by first | (with_reducible assumption) | assumption)
                  have q5 : x5_2 < (a0.size : Int) := of_decide_eq_true (by first | (with_reducible assumption) | assumption)
                  have hx5 := bt_at a0 x5_2
                  replace p5 := eq_true p5
                  replace q5 := eq_true q5
                  go_wp2
                  go_roundg k2
                  case measure => have := HK1.out; have := HK2.out; omega
                  case rel => exact ⟨(wrap64 (x5_2 + 1)), (by first | rfl | (simp; done) | (simp [*]; done)), H', ⟨by have := HK1.out; have := HK2.out; omega⟩, ⟨by (with_reducible repeat (first | apply Kd.R_alloc | apply Kd.R_drewN | apply Kd.R_drew)); exact HO_3.out⟩, ⟨by repeat (first | (with_reducible first | exact HB.out | apply below_alloc | apply pw_below_drewN | apply below_drew1) | exact HB.out)⟩⟩
              · rw [if_neg c4] at H
                exact absurd H (by simp)
            · rw [if_neg c3] at H
              have c3b0 : decide (x5_2 < (a0.size : Int)) = false := decide_eq_false c3
              clear c3
              by_cases c13 : x5_2 > x4_1
              · rw [if_pos c13] at H
                have c13b0 : decide (x4_1 < x5_2) = true := decide_eq_true c13
                clear c13
                by_cases c14 : 0 ≤ x4_1
                · rw [if_pos c14] at H
                  have c14b0 := eq_true c14
                  have c14b1 : decide (0 ≤ x4_1) = true := decide_eq_true c14
                  clear c14
                  by_cases c15 : x4_1 ≤ x5_2
                  · rw [if_pos c15] at H
                    have c15b0 := eq_true c15
                    have c15b1 : decide (x4_1 ≤ x5_2) = true := decide_eq_true c15
                    clear c15
                    by_cases c16 : x5_2 ≤ (a0.size : Int)
                    · rw [if_pos c16] at H
                      have c16b0 := eq_true c16
                      have c16b1 : decide (x5_2 ≤ (a0.size : Int)) = true := decide_eq_true c16
                      clear c16
                      by_cases c17 : x3_1.length < 8796093022208
                      · rw [if_pos c17] at H
                        have LMc17 := Aside0.mk c17
                        clear c17
                        obtain ⟨y201, hy201⟩ : ∃ y_ : List ByteArray, y_ = (x3_1 ++ [a0.extract (x4_1 : Int).toNat (x5_2 : Int).toNat]) := ⟨_, rfl⟩
                        replace H : (castellanref14_Words.l0 k2 a0 y201 (wrap64 (x5_2 + 1))) = some r := by first | (rw [hy201]; with_reducible exact H) | (have H2_ := (Option.bind_some _ _).symm.trans H; rw [hy201]; with_reducible exact H2_) | (have H2_ := (Option.bind_some _ _).symm.trans H; with_reducible exact H2_) | with_reducible exact H | (rw [hy201]; exact H) | exact H
                        have Ny201 := Aside0.mk hy201
                        clear hy201
                        have H' := Aside0.mk H
                        clear H
                        go_wp2_with (first | ((with_reducible refine gate_builtin (b := .append) (xs := #[.tmp 26, .tmp 31]) rfl ?_); at_builtin; refine Kd.R_append Kd.string (w0 := w) w.heap.size rfl (.tmp 26) (.tmp 31) 43 9 (.string ⟨#[]⟩) 16 rfl Tryz.underlying43 info9 rfl (by decide) (by omega) u3 x3_1 (a0.extract (x4_1 : Int).toNat (x5_2 : Int).toNat) [.string (a0.extract (x4_1 : Int).toNat (x5_2 : Int).toNat)] (fun _ => True) (fun _ => False) rfl rfl ?aP (fun _ hk => hk.elim) ?aF ?aO ?aB ?aS ?aL ?_; (case aP => exact rfl); (case aB => exact (by repeat (first | (with_reducible first | exact HB.out | apply below_alloc | apply pw_below_drewN | apply below_drew1) | exact HB.out))); (case aF => exact (fun _ _ => trivial)); (case aO => exact (by (with_reducible repeat (first | apply Kd.R_alloc | apply Kd.R_drewN | apply Kd.R_drew)); exact HO_3.out)); (case aS => exact (below_size (by repeat (first | (with_reducible first | exact HB.out | apply below_alloc | apply pw_below_drewN | apply below_drew1) | exact HB.out)))); (case aL => have := LMc17.out; omega); intro v202 w18 ho hb hg hat; rw [← Ny201.out] at ho; have n0_ := Aside0.mk (hb); have n1_ := Aside0.mk (ho); clear HB; clear HO_3; have HB := n0_; have HO203 := n1_; clear n0_ n1_; clear ho hb hg hat))
                        go_roundg k2
                        case measure => have := HK1.out; have := HK2.out; omega
                        case rel => exact ⟨(y201), (wrap64 (x5_2 + 1)), (by first | rfl | (simp; done) | (simp [*]; done)), H', ⟨by have := HK1.out; have := HK2.out; omega⟩, ⟨by (with_reducible repeat (first | apply Kd.R_alloc | apply Kd.R_drewN | apply Kd.R_drew)); exact HO203.out⟩, ⟨by repeat (first | (with_reducible first | exact HB.out | apply below_alloc | apply pw_below_drewN | apply below_drew1) | exact HB.out)⟩⟩
                      · rw [if_neg c17] at H
                        exact absurd H (by simp)
                    · rw [if_neg c16] at H
                      exact absurd H (by simp)
                  · rw [if_neg c15] at H
                    exact absurd H (by simp)
                · rw [if_neg c14] at H
                  exact absurd H (by simp)
              · rw [if_neg c13] at H
                have c13b0 : decide (x4_1 < x5_2) = false := decide_eq_false c13
                clear c13
                have H' := Aside0.mk H
                clear H
                go_wp2
                go_roundg k2
                case measure => have := HK1.out; have := HK2.out; omega
                case rel => exact ⟨(x3_1), (wrap64 (x5_2 + 1)), (by first | rfl | (simp; done) | (simp [*]; done)), H', ⟨by have := HK1.out; have := HK2.out; omega⟩, ⟨by (with_reducible repeat (first | apply Kd.R_alloc | apply Kd.R_drewN | apply Kd.R_drew)); exact HO_3.out⟩, ⟨by repeat (first | (with_reducible first | exact HB.out | apply below_alloc | apply pw_below_drewN | apply below_drew1) | exact HB.out)⟩⟩
      · rw [if_neg c2] at H
        have c2b0 : decide (x4_1 < (a0.size : Int)) = false := decide_eq_false c2
        clear c2
        obtain rfl := Option.some.inj H
        go_wp2
        go_ret
        exact ⟨_, by first | rfl | (simp [errW_none, errW_some] <;> rfl) | (simp [*, errW_none, errW_some] <;> rfl), by (with_reducible repeat (first | apply Kd.R_alloc | apply Kd.R_drewN | apply Kd.R_drew)); exact HO_3.out, by repeat (first | (with_reducible first | exact HB.out | apply below_alloc | apply pw_below_drewN | apply below_drew1) | exact HB.out)⟩
def castellanref14_Name.l0 : Nat → ByteArray → Int → Option (Bool)
  | 0, _, _ => none
  | k + 1, x0, x3 => if x3 < (x0.size : Int) then (if 0 ≤ x3 then (if (bt x0 x3) < 97 then (if (bt x0 x3) < 48 then (some false) else (if (bt x0 x3) > 57 then (some false) else (castellanref14_Name.l0 k x0 (wrap64 (x3 + 1))))) else (if (bt x0 x3) > 122 then (if (bt x0 x3) < 48 then (some false) else (if (bt x0 x3) > 57 then (some false) else (castellanref14_Name.l0 k x0 (wrap64 (x3 + 1))))) else (castellanref14_Name.l0 k x0 (wrap64 (x3 + 1))))) else (none)) else (if (x0.size : Int) ≥ 1 then (some (decide ((x0.size : Int) ≤ 8))) else (some false))
def castellanref14_Name.f (k : Nat) (a0 : ByteArray) : Option (Bool) := castellanref14_Name.l0 k a0 0
theorem castellanref14_Name.mono_l : ∀ k, (∀ y0 y1, LeO (castellanref14_Name.l0 k y0 y1) (castellanref14_Name.l0 (k + 1) y0 y1))
  | 0 => fun _ _ r h => by simp [castellanref14_Name.l0] at h
  | k + 1 => by
    have ih0 := castellanref14_Name.mono_l k
    · intro y0 y1
      unfold castellanref14_Name.l0
      repeat' first
      | (with_reducible exact ih0 _ _)
      | (with_reducible exact LeO.refl _)
      | (with_reducible exact LeO.none _)
      | (with_reducible refine LeO.ite ?_ ?_)
      | (with_reducible refine LeO.bind ?_ (fun _ => ?_))
      | exact ih0 _ _
      | exact LeO.none _
      | refine LeO.ite ?_ ?_
      | refine LeO.bind ?_ (fun _ => ?_)
theorem castellanref14_Name.mono : ∀ a0 k, LeO (castellanref14_Name.f k a0) (castellanref14_Name.f (k + 1) a0) := by
  intro a0 k
  have ih0 := castellanref14_Name.mono_l k
  unfold castellanref14_Name.f
  repeat' first
      | (with_reducible exact ih0 _ _)
      | (with_reducible exact LeO.refl _)
      | (with_reducible exact LeO.none _)
      | (with_reducible refine LeO.ite ?_ ?_)
      | (with_reducible refine LeO.bind ?_ (fun _ => ?_))
      | exact ih0 _ _
      | exact LeO.none _
      | refine LeO.ite ?_ ?_
      | refine LeO.bind ?_ (fun _ => ?_)
set_option maxHeartbeats 8000000 in
set_option maxRecDepth 100000 in
theorem castellanref14_Name.calls (k : Nat) (a0 : ByteArray) (r : Bool) (w : World) (h : castellanref14_Name.f k a0 = some r) :
    Calls Tryz.prog 15 #[.string a0] w fun e w' => e = .returned (.bool r) ∧ Drawn0 w w' := by
  have H : (castellanref14_Name.l0 k a0 0) = some r := h
  clear h
  have H' := Aside0.mk H
  clear H
  go_enter Tryz.func15, Tryz.ntmps15
  go_wp2
  go_loopg [3] k (fun kq v3 w' => ∃ (x3_1 : Int), v3 = .int .i64 x3_1 ∧ Aside0 (castellanref14_Name.l0 kq a0 x3_1 = some r) ∧ Aside0 (kq ≤ k) ∧ Drawn0 w w')
  case atStart => exact ⟨(0), (by first | rfl | (simp; done) | (simp [*]; done)), H', ⟨Nat.le_refl _⟩, by repeat (first | exact Drawn0.refl _ | apply Drawn0.step)⟩
  case round =>
    clear H'
    try clear c1
    obtain ⟨x3_1, rfl, HA, HK1, ⟨m1, rfl⟩⟩ := hrel
    cases gk with
    | zero => exact absurd HA.out (by simp [castellanref14_Name.l0])
    | succ k1 =>
      have H := HA.out
      clear HA
      simp only [castellanref14_Name.l0] at H
      by_cases c2 : x3_1 < (a0.size : Int)
      · rw [if_pos c2] at H
        have c2b0 : decide (x3_1 < (a0.size : Int)) = true := decide_eq_true c2
        clear c2
        by_cases c3 : 0 ≤ x3_1
        · rw [if_pos c3] at H
          have c3b0 : decide (0 ≤ x3_1) = true := decide_eq_true c3
          clear c3
          by_cases c5 : (bt a0 x3_1) < 97
          · rw [if_pos c5] at H
            have c5b0 : decide ((bt a0 x3_1) < 97) = true := decide_eq_true c5
            clear c5
            by_cases c7 : (bt a0 x3_1) < 48
            · rw [if_pos c7] at H
              have c7b0 : decide ((bt a0 x3_1) < 48) = true := decide_eq_true c7
              clear c7
              obtain rfl := Option.some.inj H
              have p4 : 0 ≤ (x3_1 : Int) := of_decide_eq_true (by first | (with_reducible assumption) | assumption)
              have q4 : x3_1 < (a0.size : Int) := of_decide_eq_true (by first | (with_reducible assumption) | assumption)
              have hx4 := bt_at a0 x3_1
              replace p4 := eq_true p4
              replace q4 := eq_true q4
              have p6 : 0 ≤ (x3_1 : Int) := of_decide_eq_true (by first | (with_reducible assumption) | assumption)
              have q6 : x3_1 < (a0.size : Int) := of_decide_eq_true (by first | (with_reducible assumption) | assumption)
              have hx6 := bt_at a0 x3_1
              replace p6 := eq_true p6
              replace q6 := eq_true q6
              go_wp2
              go_ret
              exact ⟨by first | rfl | (simp; done) | (simp [*]; done), by repeat (first | exact Drawn0.refl _ | apply Drawn0.step)⟩
            · rw [if_neg c7] at H
              have c7b0 : decide ((bt a0 x3_1) < 48) = false := decide_eq_false c7
              clear c7
              by_cases c9 : (bt a0 x3_1) > 57
              · rw [if_pos c9] at H
                have c9b0 : decide (57 < (bt a0 x3_1)) = true := decide_eq_true c9
                clear c9
                obtain rfl := Option.some.inj H
                have p4 : 0 ≤ (x3_1 : Int) := of_decide_eq_true (by first | (with_reducible assumption) | assumption)
                have q4 : x3_1 < (a0.size : Int) := of_decide_eq_true (by first | (with_reducible assumption) | assumption)
                have hx4 := bt_at a0 x3_1
                replace p4 := eq_true p4
                replace q4 := eq_true q4
                have p6 : 0 ≤ (x3_1 : Int) := of_decide_eq_true (by first | (with_reducible assumption) | assumption)
                have q6 : x3_1 < (a0.size : Int) := of_decide_eq_true (by first | (with_reducible assumption) | assumption)
                have hx6 := bt_at a0 x3_1
                replace p6 := eq_true p6
                replace q6 := eq_true q6
                have p8 : 0 ≤ (x3_1 : Int) := of_decide_eq_true (by first | (with_reducible assumption) | assumption)
                have q8 : x3_1 < (a0.size : Int) := of_decide_eq_true (by first | (with_reducible assumption) | assumption)
                have hx8 := bt_at a0 x3_1
                replace p8 := eq_true p8
                replace q8 := eq_true q8
                go_wp2
                go_ret
                exact ⟨by first | rfl | (simp; done) | (simp [*]; done), by repeat (first | exact Drawn0.refl _ | apply Drawn0.step)⟩
              · rw [if_neg c9] at H
                have c9b0 : decide (57 < (bt a0 x3_1)) = false := decide_eq_false c9
                clear c9
                have H' := Aside0.mk H
                clear H
                have p4 : 0 ≤ (x3_1 : Int) := of_decide_eq_true (by first | (with_reducible assumption) | assumption)
                have q4 : x3_1 < (a0.size : Int) := of_decide_eq_true (by first | (with_reducible assumption) | assumption)
                have hx4 := bt_at a0 x3_1
                replace p4 := eq_true p4
                replace q4 := eq_true q4
                have p6 : 0 ≤ (x3_1 : Int) := of_decide_eq_true (by first | (with_reducible assumption) | assumption)
                have q6 : x3_1 < (a0.size : Int) := of_decide_eq_true (by first | (with_reducible assumption) | assumption)
                have hx6 := bt_at a0 x3_1
                replace p6 := eq_true p6
                replace q6 := eq_true q6
                have p8 : 0 ≤ (x3_1 : Int) := of_decide_eq_true (by first | (with_reducible assumption) | assumption)
                have q8 : x3_1 < (a0.size : Int) := of_decide_eq_true (by first | (with_reducible assumption) | assumption)
                have hx8 := bt_at a0 x3_1
                replace p8 := eq_true p8
                replace q8 := eq_true q8
                go_wp2
                go_roundg k1
                case measure => have := HK1.out; omega
                case rel => exact ⟨(wrap64 (x3_1 + 1)), (by first | rfl | (simp; done) | (simp [*]; done)), H', ⟨by have := HK1.out; omega⟩, by repeat (first | exact Drawn0.refl _ | apply Drawn0.step)⟩
          · rw [if_neg c5] at H
            have c5b0 : decide ((bt a0 x3_1) < 97) = false := decide_eq_false c5
            clear c5
            by_cases c11 : (bt a0 x3_1) > 122
            · rw [if_pos c11] at H
              have c11b0 : decide (122 < (bt a0 x3_1)) = true := decide_eq_true c11
              clear c11
              by_cases c13 : (bt a0 x3_1) < 48
              · rw [if_pos c13] at H
                have c13b0 : decide ((bt a0 x3_1) < 48) = true := decide_eq_true c13
                clear c13
                obtain rfl := Option.some.inj H
                have p4 : 0 ≤ (x3_1 : Int) := of_decide_eq_true (by first | (with_reducible assumption) | assumption)
                have q4 : x3_1 < (a0.size : Int) := of_decide_eq_true (by first | (with_reducible assumption) | assumption)
                have hx4 := bt_at a0 x3_1
                replace p4 := eq_true p4
                replace q4 := eq_true q4
                have p10 : 0 ≤ (x3_1 : Int) := of_decide_eq_true (by first | (with_reducible assumption) | assumption)
                have q10 : x3_1 < (a0.size : Int) := of_decide_eq_true (by first | (with_reducible assumption) | assumption)
                have hx10 := bt_at a0 x3_1
                replace p10 := eq_true p10
                replace q10 := eq_true q10
                have p12 : 0 ≤ (x3_1 : Int) := of_decide_eq_true (by first | (with_reducible assumption) | assumption)
                have q12 : x3_1 < (a0.size : Int) := of_decide_eq_true (by first | (with_reducible assumption) | assumption)
                have hx12 := bt_at a0 x3_1
                replace p12 := eq_true p12
                replace q12 := eq_true q12
                go_wp2
                go_ret
                exact ⟨by first | rfl | (simp; done) | (simp [*]; done), by repeat (first | exact Drawn0.refl _ | apply Drawn0.step)⟩
              · rw [if_neg c13] at H
                have c13b0 : decide ((bt a0 x3_1) < 48) = false := decide_eq_false c13
                clear c13
                by_cases c15 : (bt a0 x3_1) > 57
                · rw [if_pos c15] at H
                  have c15b0 : decide (57 < (bt a0 x3_1)) = true := decide_eq_true c15
                  clear c15
                  obtain rfl := Option.some.inj H
                  have p4 : 0 ≤ (x3_1 : Int) := of_decide_eq_true (by first | (with_reducible assumption) | assumption)
                  have q4 : x3_1 < (a0.size : Int) := of_decide_eq_true (by first | (with_reducible assumption) | assumption)
                  have hx4 := bt_at a0 x3_1
                  replace p4 := eq_true p4
                  replace q4 := eq_true q4
                  have p10 : 0 ≤ (x3_1 : Int) := of_decide_eq_true (by first | (with_reducible assumption) | assumption)
                  have q10 : x3_1 < (a0.size : Int) := of_decide_eq_true (by first | (with_reducible assumption) | assumption)
                  have hx10 := bt_at a0 x3_1
                  replace p10 := eq_true p10
                  replace q10 := eq_true q10
                  have p12 : 0 ≤ (x3_1 : Int) := of_decide_eq_true (by first | (with_reducible assumption) | assumption)
                  have q12 : x3_1 < (a0.size : Int) := of_decide_eq_true (by first | (with_reducible assumption) | assumption)
                  have hx12 := bt_at a0 x3_1
                  replace p12 := eq_true p12
                  replace q12 := eq_true q12
                  have p14 : 0 ≤ (x3_1 : Int) := of_decide_eq_true (by first | (with_reducible assumption) | assumption)
                  have q14 : x3_1 < (a0.size : Int) := of_decide_eq_true (by first | (with_reducible assumption) | assumption)
                  have hx14 := bt_at a0 x3_1
                  replace p14 := eq_true p14
                  replace q14 := eq_true q14
                  go_wp2
                  go_ret
                  exact ⟨by first | rfl | (simp; done) | (simp [*]; done), by repeat (first | exact Drawn0.refl _ | apply Drawn0.step)⟩
                · rw [if_neg c15] at H
                  have c15b0 : decide (57 < (bt a0 x3_1)) = false := decide_eq_false c15
                  clear c15
                  have H' := Aside0.mk H
                  clear H
                  have p4 : 0 ≤ (x3_1 : Int) := of_decide_eq_true (by first | (with_reducible assumption) | assumption)
                  have q4 : x3_1 < (a0.size : Int) := of_decide_eq_true (by first | (with_reducible assumption) | assumption)
                  have hx4 := bt_at a0 x3_1
                  replace p4 := eq_true p4
                  replace q4 := eq_true q4
                  have p10 : 0 ≤ (x3_1 : Int) := of_decide_eq_true (by first | (with_reducible assumption) | assumption)
                  have q10 : x3_1 < (a0.size : Int) := of_decide_eq_true (by first | (with_reducible assumption) | assumption)
                  have hx10 := bt_at a0 x3_1
                  replace p10 := eq_true p10
                  replace q10 := eq_true q10
                  have p12 : 0 ≤ (x3_1 : Int) := of_decide_eq_true (by first | (with_reducible assumption) | assumption)
                  have q12 : x3_1 < (a0.size : Int) := of_decide_eq_true (by first | (with_reducible assumption) | assumption)
                  have hx12 := bt_at a0 x3_1
                  replace p12 := eq_true p12
                  replace q12 := eq_true q12
                  have p14 : 0 ≤ (x3_1 : Int) := of_decide_eq_true (by first | (with_reducible assumption) | assumption)
                  have q14 : x3_1 < (a0.size : Int) := of_decide_eq_true (by first | (with_reducible assumption) | assumption)
                  have hx14 := bt_at a0 x3_1
                  replace p14 := eq_true p14
                  replace q14 := eq_true q14
                  go_wp2
                  go_roundg k1
                  case measure => have := HK1.out; omega
                  case rel => exact ⟨(wrap64 (x3_1 + 1)), (by first | rfl | (simp; done) | (simp [*]; done)), H', ⟨by have := HK1.out; omega⟩, by repeat (first | exact Drawn0.refl _ | apply Drawn0.step)⟩
            · rw [if_neg c11] at H
              have c11b0 : decide (122 < (bt a0 x3_1)) = false := decide_eq_false c11
              clear c11
              have H' := Aside0.mk H
              clear H
              have p4 : 0 ≤ (x3_1 : Int) := of_decide_eq_true (by first | (with_reducible assumption) | assumption)
              have q4 : x3_1 < (a0.size : Int) := of_decide_eq_true (by first | (with_reducible assumption) | assumption)
              have hx4 := bt_at a0 x3_1
              replace p4 := eq_true p4
              replace q4 := eq_true q4
              have p10 : 0 ≤ (x3_1 : Int) := of_decide_eq_true (by first | (with_reducible assumption) | assumption)
              have q10 : x3_1 < (a0.size : Int) := of_decide_eq_true (by first | (with_reducible assumption) | assumption)
              have hx10 := bt_at a0 x3_1
              replace p10 := eq_true p10
              replace q10 := eq_true q10
              go_wp2
              go_roundg k1
              case measure => have := HK1.out; omega
              case rel => exact ⟨(wrap64 (x3_1 + 1)), (by first | rfl | (simp; done) | (simp [*]; done)), H', ⟨by have := HK1.out; omega⟩, by repeat (first | exact Drawn0.refl _ | apply Drawn0.step)⟩
        · rw [if_neg c3] at H
          exact absurd H (by simp)
      · rw [if_neg c2] at H
        have c2b0 : decide (x3_1 < (a0.size : Int)) = false := decide_eq_false c2
        clear c2
        by_cases c16 : (a0.size : Int) ≥ 1
        · rw [if_pos c16] at H
          have c16b0 : decide (1 ≤ (a0.size : Int)) = true := decide_eq_true c16
          have c16b1 : decide (1 ≤ a0.size) = true := decide_eq_true (by omega)
          clear c16
          obtain rfl := Option.some.inj H
          go_wp2
          go_ret
          exact ⟨by first | rfl | (simp; done) | (simp [*]; done), by repeat (first | exact Drawn0.refl _ | apply Drawn0.step)⟩
        · rw [if_neg c16] at H
          have c16b0 : decide (1 ≤ (a0.size : Int)) = false := decide_eq_false c16
          have c16b1 : decide (1 ≤ a0.size) = false := decide_eq_false (by omega)
          clear c16
          obtain rfl := Option.some.inj H
          go_wp2
          go_ret
          exact ⟨by first | rfl | (simp; done) | (simp [*]; done), by repeat (first | exact Drawn0.refl _ | apply Drawn0.step)⟩
def castellanref14_all.f (a0_0 : Int) (a0_1 : Int) : Option (Bool) := if a0_0 = 0 then (some (a0_1 == 65535)) else (some false)
set_option maxHeartbeats 8000000 in
set_option maxRecDepth 100000 in
theorem castellanref14_all.calls (a0_0 : Int) (a0_1 : Int) (r : Bool) (w : World) (h : castellanref14_all.f a0_0 a0_1 = some r) :
    Calls Tryz.prog 95 #[.agg #[.int .i64 a0_0, .int .i64 a0_1]] w fun e w' => e = .returned (.bool r) ∧ Below w.heap.size w w' := by
  have hu26 := Tryz.underlying26
  have HB := Aside0.mk (Below.refl w.heap.size w)
  have H : (if a0_0 = 0 then (some (a0_1 == 65535)) else (some false)) = some r := h
  clear h
  by_cases c2 : a0_0 = 0
  · rw [if_pos c2] at H
    have c2b0 : (a0_0 == 0) = true := beq_iff_eq.mpr c2
    have c2b1 : (a0_0 != 0) = false := bne_eq_false_iff_eq.mpr c2
    clear c2
    obtain rfl := Option.some.inj H
    go_enter Tryz.func95, Tryz.ntmps95
    go_wp2_with (first | ((with_reducible refine gate_dst (N := 1) rfl ?_); refine box_event ?hg (N := 1) ?hd (cs := #[.int .i64 a0_0, .int .i64 a0_1]) (t := 26) ?hr ?_; (case hd => rfl); (case hg => rfl); (case hr => first | (go_simp; done) | (go_simp; rfl)); intro gb204 hg w3 hbox hb; have n0_ := Aside0.mk (below_step (by repeat (first | (with_reducible first | exact HB.out | apply below_alloc | apply pw_below_drewN | apply below_drew1) | exact HB.out)) hb); have n1_ := Aside0.mk (hbox); have n2_ := Aside0.mk ((by rw [hg]; exact (below_size (by repeat (first | (with_reducible first | exact HB.out | apply below_alloc | apply pw_below_drewN | apply below_drew1) | exact HB.out))) : w.heap.size ≤ gb204)); have n3_ := Aside0.mk ((by rw [hg]; exact (below_size (by repeat (first | (with_reducible first | exact HB.out | apply below_alloc | apply pw_below_drewN | apply below_drew1) | exact HB.out))) : w.heap.size ≤ gb204)); clear HB; have HB := n0_; have BK204 := n1_; have GW204 := n2_; have GE204 := n3_; clear n0_ n1_ n2_ n3_; clear hb hbox hg; have hcz4_0 : w3.cell? ⟨gb204, 0, none⟩ = some (.int .i64 a0_0) := (blk_cell BK204.out 0).trans rfl; have hcz4_1 : w3.cell? ⟨gb204, 1, none⟩ = some (.int .i64 a0_1) := (blk_cell BK204.out 1).trans rfl; have hfz4_0 := blk_frozen BK204.out 0; have hfz4_1 := blk_frozen BK204.out 1))
    go_ret
    exact ⟨by first | rfl | (simp [errW_none, errW_some] <;> rfl) | (simp [*, errW_none, errW_some] <;> rfl), by repeat (first | (with_reducible first | exact HB.out | apply below_alloc | apply pw_below_drewN | apply below_drew1 | refine below_set ?_ GE204.out) | exact HB.out)⟩
  · rw [if_neg c2] at H
    have c2b0 : (a0_0 == 0) = false := beq_eq_false_iff_ne.mpr c2
    have c2b1 : (a0_0 != 0) = true := bne_iff_ne.mpr c2
    obtain rfl := Option.some.inj H
    go_enter Tryz.func95, Tryz.ntmps95
    go_wp2_with (first | ((with_reducible refine gate_dst (N := 1) rfl ?_); refine box_event ?hg (N := 1) ?hd (cs := #[.int .i64 a0_0, .int .i64 a0_1]) (t := 26) ?hr ?_; (case hd => rfl); (case hg => rfl); (case hr => first | (go_simp; done) | (go_simp; rfl)); intro gb204 hg w5 hbox hb; have n0_ := Aside0.mk (below_step (by repeat (first | (with_reducible first | exact HB.out | apply below_alloc | apply pw_below_drewN | apply below_drew1) | exact HB.out)) hb); have n1_ := Aside0.mk (hbox); have n2_ := Aside0.mk ((by rw [hg]; exact (below_size (by repeat (first | (with_reducible first | exact HB.out | apply below_alloc | apply pw_below_drewN | apply below_drew1) | exact HB.out))) : w.heap.size ≤ gb204)); have n3_ := Aside0.mk ((by rw [hg]; exact (below_size (by repeat (first | (with_reducible first | exact HB.out | apply below_alloc | apply pw_below_drewN | apply below_drew1) | exact HB.out))) : w.heap.size ≤ gb204)); clear HB; have HB := n0_; have BK204 := n1_; have GW204 := n2_; have GE204 := n3_; clear n0_ n1_ n2_ n3_; clear hb hbox hg; have hcz6_0 : w5.cell? ⟨gb204, 0, none⟩ = some (.int .i64 a0_0) := (blk_cell BK204.out 0).trans rfl; have hcz6_1 : w5.cell? ⟨gb204, 1, none⟩ = some (.int .i64 a0_1) := (blk_cell BK204.out 1).trans rfl; have hfz6_0 := blk_frozen BK204.out 0; have hfz6_1 := blk_frozen BK204.out 1))
    go_ret
    exact ⟨by first | rfl | (simp [errW_none, errW_some] <;> rfl) | (simp [*, errW_none, errW_some] <;> rfl), by repeat (first | (with_reducible first | exact HB.out | apply below_alloc | apply pw_below_drewN | apply below_drew1 | refine below_set ?_ GE204.out) | exact HB.out)⟩
def castellanref3_hold.f (a0 : Int) : Option (Int) := some (mn (mx a0 0) 32)
set_option maxHeartbeats 8000000 in
set_option maxRecDepth 100000 in
theorem castellanref3_hold.calls (a0 : Int) (r : Int) (w : World) (h : castellanref3_hold.f a0 = some r) :
    Calls Tryz.prog 171 #[.int .i64 a0] w fun e w' => e = .returned (.int .i64 r) ∧ Below w.heap.size w w' := by
  have HB := Aside0.mk (Below.refl w.heap.size w)
  have H : (some (mn (mx a0 0) 32)) = some r := h
  clear h
  obtain ⟨ji2, hji2⟩ : ∃ j_ : Int, (mx a0 0) = j_ := ⟨_, rfl⟩
  replace H : (some (mn (ji2) 32)) = some r := by first | (rw [hji2] at H; exact H) | (simp only [hji2] at H ⊢; exact H)
  (try (have hji2l : 0 ≤ ji2 := by (rw [← hji2]; unfold mx; (repeat' split) <;> omega)))
  (try (have hji2m : 0 ≤ ji2 := by omega))
  have hji2_ : (if a0 < 0 then 0 else a0) = ji2 := hji2
  obtain ⟨ji3, hji3⟩ : ∃ j_ : Int, (mn (ji2) 32) = j_ := ⟨_, rfl⟩
  replace H : (some ji3) = some r := by first | (rw [hji3] at H; exact H) | (simp only [hji3] at H ⊢; exact H)
  have hji3_ : (if 32 < (ji2) then 32 else (ji2)) = ji3 := hji3
  obtain rfl := Option.some.inj H
  go_enter Tryz.func171, Tryz.ntmps171
  go_wp2
  go_ret
  exact ⟨by first | rfl | (simp [errW_none, errW_some] <;> rfl) | (simp only [← hji2, ← hji3]; first | rfl | (simp [errW_none, errW_some] <;> rfl)) | (simp [*, errW_none, errW_some] <;> rfl), by repeat (first | (with_reducible first | exact HB.out | apply below_alloc | apply pw_below_drewN | apply below_drew1) | exact HB.out)⟩
attribute [local go_sem high] eqA24 eqA30
def castellanref3_Mask.f (a0 : Int) : Option (Int) := (castellanref3_hold.f a0).bind fun t205 => (if 0 ≤ (IntKind.u64.wrap (wrap64 (32 - t205))) then (some ((shl .u64 4294967295 (IntKind.u64.wrap (wrap64 (32 - t205)))) % 4294967296)) else (none))
set_option maxHeartbeats 8000000 in
set_option maxRecDepth 100000 in
theorem castellanref3_Mask.calls (a0 : Int) (r : Int) (w : World) (h : castellanref3_Mask.f a0 = some r) :
    Calls Tryz.prog 170 #[.int .i64 a0] w fun e w' => e = .returned (.int .u32 r) ∧ Below w.heap.size w w' := by
  have HB := Aside0.mk (Below.refl w.heap.size w)
  have H : ((castellanref3_hold.f a0).bind fun t205 => (if 0 ≤ (IntKind.u64.wrap (wrap64 (32 - t205))) then (some ((shl .u64 4294967295 (IntKind.u64.wrap (wrap64 (32 - t205)))) % 4294967296)) else (none))) = some r := h
  clear h
  replace H := Option.bind_eq_some_iff.mp H
  obtain ⟨t205, A20, H⟩ := H
  replace H : (if 0 ≤ (IntKind.u64.wrap (wrap64 (32 - t205))) then (some ((shl .u64 4294967295 (IntKind.u64.wrap (wrap64 (32 - t205)))) % 4294967296)) else (none)) = some r := H
  have A2 := Aside0.mk A20
  clear A20
  obtain ⟨ji3, hji3⟩ : ∃ j_ : Int, (IntKind.u64.wrap (wrap64 (32 - t205))) = j_ := ⟨_, rfl⟩
  replace H : (if 0 ≤ (ji3) then (some ((shl .u64 4294967295 (ji3)) % 4294967296)) else (none)) = some r := by first | (rw [hji3] at H; exact H) | (simp only [hji3] at H ⊢; exact H)
  (try rw [hji3] at A2)
  by_cases c4 : 0 ≤ (ji3)
  · rw [if_pos c4] at H
    have c4b0 := eq_true c4
    have c4b1 : decide (0 ≤ (ji3)) = true := decide_eq_true c4
    clear c4
    obtain ⟨ji5, hji5⟩ : ∃ j_ : Int, (shl .u64 4294967295 (ji3)) = j_ := ⟨_, rfl⟩
    replace H : (some ((ji5) % 4294967296)) = some r := by first | (rw [hji5] at H; exact H) | (simp only [hji5] at H ⊢; exact H)
    (try rw [hji5] at A2)
    have hji5_ : (IntKind.u64.wrap (4294967295 * 2 ^ min (ji3).toNat 64)) = ji5 := hji5
    have hji5z : (ji3) ≤ 64 → (IntKind.u64.wrap (4294967295 * 2 ^ (ji3).toNat)) = ji5 := shl_small hji5
    obtain rfl := Option.some.inj H
    go_enter Tryz.func170, Tryz.ntmps170
    go_wp2_with (first | ((with_reducible refine gate_callee (f := 171) rfl ?_); refine goesL_ (some 4) rfl rfl Tryz.func171 (by kernel_rfl) rfl #[.int .i64 a0] rfl (by (try simp only [List.map_toArray, List.map_cons, List.map_nil]); first | done | rfl | (simp only [List.length_drop, List.length_take]; rfl)) ?_; (with_reducible refine (castellanref3_hold.calls a0 t205 _ A2.out).mono ?_); rintro e w6 ⟨rfl, hb⟩; refine ⟨_, rfl, ?_⟩; have n0_ := Aside0.mk (below_step (by repeat (first | (with_reducible first | exact HB.out | apply below_alloc | apply pw_below_drewN | apply below_drew1) | exact HB.out)) hb); clear HB; have HB := n0_; clear n0_; (try clear hb); (try clear hb2); (try clear hk); (try clear hi)))
    go_ret
    exact ⟨by first | rfl | (simp [errW_none, errW_some] <;> rfl) | (simp only [← hji3, ← hji5]; first | rfl | (simp [errW_none, errW_some] <;> rfl)) | (simp [*, errW_none, errW_some] <;> rfl), by repeat (first | (with_reducible first | exact HB.out | apply below_alloc | apply pw_below_drewN | apply below_drew1) | exact HB.out)⟩
  · rw [if_neg c4] at H
    exact absurd H (by simp)
def castellanref3_Norm.f (a0_0 : Int) (a0_1 : Int) : Option (Int × Int) := (castellanref3_Mask.f a0_1).bind fun t208 => ((castellanref3_hold.f a0_1).bind fun t209 => (some (Go.bits .and .u32 a0_0 t208, t209)))
def castellanref3_Norm.T1 : Bool × List (List Nat × List Nat) := (true, [([], []), ([0], [0]), ([], []), ([2], [2]), ([3], [3]), ([1, 4], [1, 4]), ([], []), ([6], [6]), ([7, 4], [7]), ([5, 8], [5, 8]), ([9, 8, 0, 1, 2, 3, 4, 5, 6, 7, 8, 9], [9])])
def castellanref3_Norm.B1 : List Nat := [0, 1, 0, 4, 12, 31, 0, 64, 220, 511, 1023]
theorem castellanref3_Norm.tab1 : rtab .any (opsOf Tryz.f139 1) = castellanref3_Norm.T1 := by kernel_rfl
theorem castellanref3_Norm.bits1 : waitsOk castellanref3_Norm.T1.2 castellanref3_Norm.B1 = true := by kernel_rfl
set_option maxHeartbeats 8000000 in
set_option maxRecDepth 100000 in
theorem castellanref3_Norm.calls (a0_0 : Int) (a0_1 : Int) (r1 : Int) (r2 : Int) (w : World) (h : castellanref3_Norm.f a0_0 a0_1 = some (r1, r2)) :
    Calls Tryz.prog 139 #[.agg #[.int .u32 a0_0, .int .i64 a0_1]] w fun e w' => e = .returned (.agg #[.int .u32 r1, .int .i64 r2]) ∧ Below w.heap.size w w' := by
  have hu24 := Tryz.underlying24
  have HB := Aside0.mk (Below.refl w.heap.size w)
  have H : ((castellanref3_Mask.f a0_1).bind fun t208 => ((castellanref3_hold.f a0_1).bind fun t209 => (some (Go.bits .and .u32 a0_0 t208, t209)))) = some (r1, r2) := h
  clear h
  replace H := Option.bind_eq_some_iff.mp H
  obtain ⟨t208, A20, H⟩ := H
  replace H : ((castellanref3_hold.f a0_1).bind fun t209 => (some (Go.bits .and .u32 a0_0 t208, t209))) = some (r1, r2) := H
  have A2 := Aside0.mk A20
  clear A20
  replace H := Option.bind_eq_some_iff.mp H
  obtain ⟨t209, A30, H⟩ := H
  replace H : (some (Go.bits .and .u32 a0_0 t208, t209)) = some (r1, r2) := H
  have A3 := Aside0.mk A30
  clear A30
  simp only [Option.some.injEq, Prod.mk.injEq] at H
  obtain ⟨rfl, rfl⟩ := H
  go_enter Tryz.func139, Tryz.ntmps139
  try go_wp2_with (first | ((with_reducible refine gate_dst (N := 1) rfl ?_); refine box_event ?hg (N := 1) ?hd (cs := #[.int .u32 a0_0, .int .i64 a0_1]) (t := 24) ?hr ?_; (case hd => rfl); (case hg => rfl); (case hr => first | (go_simp; done) | (go_simp; rfl)); intro gb206 hg w4 hbox hb; have n0_ := Aside0.mk (below_step (by repeat (first | (with_reducible first | exact HB.out | apply below_alloc | apply pw_below_drewN | apply below_drew1) | exact HB.out)) hb); have n1_ := Aside0.mk (hbox); have n2_ := Aside0.mk ((by rw [hg]; exact (below_size (by repeat (first | (with_reducible first | exact HB.out | apply below_alloc | apply pw_below_drewN | apply below_drew1) | exact HB.out))) : w.heap.size ≤ gb206)); have n3_ := Aside0.mk ((by rw [hg]; exact (below_size (by repeat (first | (with_reducible first | exact HB.out | apply below_alloc | apply pw_below_drewN | apply below_drew1) | exact HB.out))) : w.heap.size ≤ gb206)); clear HB; have HB := n0_; have BK206 := n1_; have GW206 := n2_; have GE206 := n3_; clear n0_ n1_ n2_ n3_; clear hb hbox hg) | ((with_reducible refine gate_dst (N := 2) rfl ?_); refine box_event ?hg (N := 2) ?hd (cs := #[.int .u32 0, .int .i64 0]) (t := 24) ?hr ?_; (case hd => rfl); (case hg => rfl); (case hr => first | (go_simp; done) | (go_simp; rfl)); intro gb207 hg w5 hbox hb; have n0_ := Aside0.mk (blk_below (g := gb206) (o := .cells #[.int .u32 a0_0, .int .i64 a0_1] 24 (0, 0)) (by (with_reducible repeat (first | refine blk_drewN ?_ _ | refine blk_drew ?_ | refine blk_alloc ?_ _)); exact BK206.out) hb); have n1_ := Aside0.mk (below_step (by repeat (first | (with_reducible first | exact HB.out | apply below_alloc | apply pw_below_drewN | apply below_drew1 | refine below_set ?_ GE206.out) | exact HB.out)) hb); have n2_ := Aside0.mk (hbox); have n3_ := Aside0.mk ((by rw [hg]; exact (below_size (by repeat (first | (with_reducible first | exact HB.out | apply below_alloc | apply pw_below_drewN | apply below_drew1 | refine below_set ?_ GE206.out) | exact HB.out))) : w.heap.size ≤ gb207)); have n4_ := Aside0.mk ((by rw [hg]; exact (below_size (by repeat (first | (with_reducible first | exact HB.out | apply below_alloc | apply pw_below_drewN | apply below_drew1 | refine below_set ?_ GE206.out) | exact HB.out))) : w.heap.size ≤ gb207)); have n5_ := Aside0.mk ((by rw [hg]; exact Nat.ne_of_lt (blk_lt (g := gb206) (o := .cells #[.int .u32 a0_0, .int .i64 a0_1] 24 (0, 0)) (by (with_reducible repeat (first | refine blk_drewN ?_ _ | refine blk_drew ?_ | refine blk_alloc ?_ _)); exact BK206.out)) : gb206 ≠ gb207)); have n6_ := Aside0.mk ((by rw [hg]; exact Nat.ne_of_gt (blk_lt (g := gb206) (o := .cells #[.int .u32 a0_0, .int .i64 a0_1] 24 (0, 0)) (by (with_reducible repeat (first | refine blk_drewN ?_ _ | refine blk_drew ?_ | refine blk_alloc ?_ _)); exact BK206.out)) : gb207 ≠ gb206)); clear BK206; clear HB; have BK206 := n0_; have HB := n1_; have BK207 := n2_; have GW207 := n3_; have GE207 := n4_; have NB206_207 := n5_; have NB207_206 := n6_; clear n0_ n1_ n2_ n3_ n4_ n5_ n6_; clear hb hbox hg))
  have n0_ := Aside0.mk (blk_drew BK206.out)
  have n1_ := Aside0.mk (blk_drew BK207.out)
  have n2_ := Aside0.mk (below_drew1 HB.out)
  clear BK206
  clear BK207
  clear HB
  have BK206 := n0_
  have BK207 := n1_
  have HB := n2_
  clear n0_ n1_ n2_
  refine start_ (n := 11) (S := fun w' => w'.cell? ⟨gb206, 0, none⟩ = some (.int .u32 a0_0) ∧ w'.cell? ⟨gb206, 1, none⟩ = some (.int .i64 a0_1)) (ds := []) #[false, false, false, false, false, false, false, false, false, false, false] (by kernel_rfl) rfl rfl ⟨(blk_cell BK206.out 0).trans rfl, (blk_cell BK206.out 1).trans rfl⟩ (fun hHeld => ?_); refine with_tabW castellanref3_Norm.tab1 castellanref3_Norm.bits1 (fun HT_ HW_ => ?_)
  generalize w5.drew = w6 at BK206 BK207 HB hHeld ⊢
  refine pure_ (i := 0) (N := some 3) (v := ?_) (a' := ?_) #[true, false, false, false, false, false, false, false, false, false, false] rfl rfl (any_of HT_.out (by kernel_rfl)) (fun _ _ _ h => h) (Or.inl ⟨by rfl, ?_⟩) ?_ ?_
  rotate_left
  · intro w'
    go_simp
    with_reducible rfl
  rotate_left
  · simp only [Act.put, List.setIfInBounds_toArray, List.set_cons_zero, List.set_cons_succ, i64_w, i32_w]
    rfl
  refine pure_ (i := 2) (N := some 5) (v := ?_) (a' := ?_) #[true, false, true, false, false, false, false, false, false, false, false] rfl rfl (any_of HT_.out (by kernel_rfl)) (fun _ _ _ h => h) (Or.inl ⟨by rfl, ?_⟩) ?_ ?_
  rotate_left
  · intro w'
    go_simp
    with_reducible rfl
  rotate_left
  · simp only [Act.put, List.setIfInBounds_toArray, List.set_cons_zero, List.set_cons_succ, i64_w, i32_w]
    rfl
  refine pure_ (i := 6) (N := some 9) (v := ?_) (a' := ?_) #[true, false, true, false, false, false, true, false, false, false, false] rfl rfl (any_of HT_.out (by kernel_rfl)) (fun _ _ _ h => h) (Or.inl ⟨by rfl, ?_⟩) ?_ ?_
  rotate_left
  · intro w'
    go_simp
    with_reducible rfl
  rotate_left
  · simp only [Act.put, List.setIfInBounds_toArray, List.set_cons_zero, List.set_cons_succ, i64_w, i32_w]
    rfl
  refine take_ (i := 1) (N := some 4) (v := ?_) (a' := ?_) #[true, true, true, false, false, false, true, false, false, false, false] rfl rfl (take_ofW HT_.out HW_.out (by kernel_rfl)) (fun _ _ _ h => h) (Or.inl ⟨by rfl, ?_⟩) hHeld ?_ ?_
  rotate_left
  · rintro w' ⟨s0, s1⟩
    go_simp
    with_reducible rfl
  rotate_left
  · simp only [Act.put, List.setIfInBounds_toArray, List.set_cons_zero, List.set_cons_succ, i64_w, i32_w]
    rfl
  refine take_ (i := 3) (N := some 6) (v := ?_) (a' := ?_) #[true, true, true, true, false, false, true, false, false, false, false] rfl rfl (take_ofW HT_.out HW_.out (by kernel_rfl)) (fun _ _ _ h => h) (Or.inl ⟨by rfl, ?_⟩) hHeld ?_ ?_
  rotate_left
  · rintro w' ⟨s0, s1⟩
    go_simp
    with_reducible rfl
  rotate_left
  · simp only [Act.put, List.setIfInBounds_toArray, List.set_cons_zero, List.set_cons_succ, i64_w, i32_w]
    rfl
  refine take_ (i := 7) (N := some 10) (v := ?_) (a' := ?_) #[true, true, true, true, false, false, true, true, false, false, false] rfl rfl (take_ofW HT_.out HW_.out (by kernel_rfl)) (fun _ _ _ h => h) (Or.inl ⟨by rfl, ?_⟩) hHeld ?_ ?_
  rotate_left
  · rintro w' ⟨s0, s1⟩
    go_simp
    with_reducible rfl
  rotate_left
  · simp only [Act.put, List.setIfInBounds_toArray, List.set_cons_zero, List.set_cons_succ, i64_w, i32_w]
    rfl
  refine one_ (i := 4) (N := some 7) #[true, true, true, true, true, false, true, true, false, false, false] rfl rfl (one_of HT_.out (by kernel_rfl)) (by decide) (fun K hK => ?_)
  refine goes_ Tryz.func170 (by kernel_rfl) rfl #[.int .i64 a0_1] (by rfl) rfl rfl (by (try simp only [List.map_toArray, List.map_cons, List.map_nil]); first | done | rfl | (simp only [List.length_drop, List.length_take]; rfl)) ?_
  with_reducible refine (castellanref3_Mask.calls a0_1 t208 _ A2.out).mono ?_
  rintro e w7 ⟨rfl, hb⟩
  refine ⟨_, rfl, ?_⟩
  have n0_ := Aside0.mk (blk_below (g := gb206) (o := .cells #[.int .u32 a0_0, .int .i64 a0_1] 24 (0, 0)) (by (with_reducible repeat (first | refine blk_drewN ?_ _ | refine blk_drew ?_ | refine blk_alloc ?_ _)); exact BK206.out) hb)
  have n1_ := Aside0.mk (blk_below (g := gb207) (o := .cells #[.int .u32 0, .int .i64 0] 24 (0, 0)) (by (with_reducible repeat (first | refine blk_drewN ?_ _ | refine blk_drew ?_ | refine blk_alloc ?_ _)); exact BK207.out) hb)
  have n2_ := Aside0.mk (below_step (by repeat (first | (with_reducible first | exact HB.out | apply below_alloc | apply pw_below_drewN | apply below_drew1 | refine below_set ?_ GE206.out | refine below_set ?_ GE207.out) | exact HB.out)) hb)
  clear BK206
  clear BK207
  clear HB
  have BK206 := n0_
  have BK207 := n1_
  have HB := n2_
  clear n0_ n1_ n2_
  (try clear hb)
  (try clear hb2)
  (try clear hk)
  (try clear hi)
  refine hK.out _ _ ⟨(blk_cell BK206.out 0).trans rfl, (blk_cell BK206.out 1).trans rfl⟩ (fun hHeld => ?_)
  clear hK K
  refine norm_ (a' := ?_) ?_ ?_
  rotate_left
  · show Act.put _ (some 7) _ = _
    simp only [Act.put, List.setIfInBounds_toArray, List.set_cons_zero, List.set_cons_succ, i64_w, i32_w]
    rfl
  refine pure_ (i := 5) (N := some 8) (v := ?_) (a' := ?_) #[true, true, true, true, true, true, true, true, false, false, false] rfl rfl (any_of HT_.out (by kernel_rfl)) (fun _ _ _ h => h) (Or.inl ⟨by rfl, ?_⟩) ?_ ?_
  rotate_left
  · intro w'
    go_simp
    with_reducible rfl
  rotate_left
  · simp only [Act.put, List.setIfInBounds_toArray, List.set_cons_zero, List.set_cons_succ, i64_w, i32_w]
    rfl
  refine one_ (i := 8) (N := some 11) #[true, true, true, true, true, true, true, true, true, false, false] rfl rfl (one_of HT_.out (by kernel_rfl)) (by decide) (fun K hK => ?_)
  refine goes_ Tryz.func171 (by kernel_rfl) rfl #[.int .i64 a0_1] (by rfl) rfl rfl (by (try simp only [List.map_toArray, List.map_cons, List.map_nil]); first | done | rfl | (simp only [List.length_drop, List.length_take]; rfl)) ?_
  with_reducible refine (castellanref3_hold.calls a0_1 t209 _ A3.out).mono ?_
  rintro e w8 ⟨rfl, hb⟩
  refine ⟨_, rfl, ?_⟩
  have n0_ := Aside0.mk (blk_below (g := gb206) (o := .cells #[.int .u32 a0_0, .int .i64 a0_1] 24 (0, 0)) (by (with_reducible repeat (first | refine blk_drewN ?_ _ | refine blk_drew ?_ | refine blk_alloc ?_ _)); exact BK206.out) hb)
  have n1_ := Aside0.mk (blk_below (g := gb207) (o := .cells #[.int .u32 0, .int .i64 0] 24 (0, 0)) (by (with_reducible repeat (first | refine blk_drewN ?_ _ | refine blk_drew ?_ | refine blk_alloc ?_ _)); exact BK207.out) hb)
  have n2_ := Aside0.mk (below_step (by repeat (first | (with_reducible first | exact HB.out | apply below_alloc | apply pw_below_drewN | apply below_drew1 | refine below_set ?_ GE206.out | refine below_set ?_ GE207.out) | exact HB.out)) hb)
  clear BK206
  clear BK207
  clear HB
  have BK206 := n0_
  have BK207 := n1_
  have HB := n2_
  clear n0_ n1_ n2_
  (try clear hb)
  (try clear hb2)
  (try clear hk)
  (try clear hi)
  refine hK.out _ _ ⟨(blk_cell BK206.out 0).trans rfl, (blk_cell BK206.out 1).trans rfl⟩ (fun hHeld => ?_)
  clear hK K
  refine norm_ (a' := ?_) ?_ ?_
  rotate_left
  · show Act.put _ (some 11) _ = _
    simp only [Act.put, List.setIfInBounds_toArray, List.set_cons_zero, List.set_cons_succ, i64_w, i32_w]
    rfl
  refine pure_ (i := 9) (N := some 12) (v := ?_) (a' := ?_) #[true, true, true, true, true, true, true, true, true, true, false] rfl rfl (any_of HT_.out (by kernel_rfl)) (fun _ _ _ h => h) (Or.inl ⟨by rfl, ?_⟩) ?_ ?_
  rotate_left
  · intro w'
    go_simp
    with_reducible rfl
  rotate_left
  · simp only [Act.put, List.setIfInBounds_toArray, List.set_cons_zero, List.set_cons_succ, i64_w, i32_w]
    rfl
  refine one_ (i := 10) (N := none) #[true, true, true, true, true, true, true, true, true, true, true] rfl rfl (one_of HT_.out (by kernel_rfl)) (by decide) (fun K hK => ?_)
  have hs9 : w8.cell? ⟨gb207, 0, none⟩ = some (.int .u32 0) := (blk_cell BK207.out 0).trans rfl
  have hfs9 := blk_frozen BK207.out 0
  have hns9_0 := NB206_207.out
  have hms9_0 := NB207_206.out
  have hs10 : w8.cell? ⟨gb207, 1, none⟩ = some (.int .i64 0) := (blk_cell BK207.out 1).trans rfl
  have hfs10 := blk_frozen BK207.out 1
  have hns10_0 := NB206_207.out
  have hms10_0 := NB207_206.out
  refine skip_ (w1 := ?_) (by rfl) rfl ?_ ?_
  rotate_left
  · go_simp
    rfl
  refine hK.out _ _ ⟨((cell_far (p := ⟨gb207, _, none⟩) NB206_207.out _).trans (((cell_far (p := ⟨gb207, _, none⟩) NB206_207.out _).trans (hHeld.1)))), ((cell_far (p := ⟨gb207, _, none⟩) NB206_207.out _).trans (((cell_far (p := ⟨gb207, _, none⟩) NB206_207.out _).trans (hHeld.2))))⟩ (fun hHeld => ?_)
  clear hK K
  refine done_ (done_of HT_.out (by kernel_rfl)) ?_
  try go_wp2
  refine bodyPost_ret (results_cell_row rfl _ _ gb207 24 #[.int .u32 (Go.bits .and .u32 a0_0 t208), .int .i64 t209] (0, 0) _ rfl (by (with_reducible repeat (first | refine blk_drewN ?_ _ | refine blk_drew ?_ | refine blk_alloc ?_ _)); refine blk_put (cs := #[.int .u32 (Go.bits .and .u32 a0_0 t208), .int .i64 0]) ?_ 1 _ rfl; (with_reducible repeat (first | refine blk_drewN ?_ _ | refine blk_drew ?_ | refine blk_alloc ?_ _)); refine blk_put (cs := #[.int .u32 0, .int .i64 0]) ?_ 0 _ rfl; (with_reducible repeat (first | refine blk_drewN ?_ _ | refine blk_drew ?_ | refine blk_alloc ?_ _)); exact BK207.out) Tryz.underlying24 rfl (by kernel_rfl)) rfl ?_
  exact ⟨by first | rfl | (simp [errW_none, errW_some] <;> rfl) | (simp [*, errW_none, errW_some] <;> rfl), by repeat (first | (with_reducible first | exact HB.out | apply below_alloc | apply pw_below_drewN | apply below_drew1 | refine below_set ?_ GE206.out | refine below_set ?_ GE207.out) | exact HB.out)⟩
def castellanref3_Is.f (a0_0 : Int) (a0_1 : Int) : Option (Bool) := (castellanref3_Norm.f a0_0 a0_1).bind fun bt211 => (some (bt211.1 == a0_0 && (bt211.2 == a0_1)))
set_option maxHeartbeats 8000000 in
set_option maxRecDepth 100000 in
theorem castellanref3_Is.calls (a0_0 : Int) (a0_1 : Int) (r : Bool) (w : World) (h : castellanref3_Is.f a0_0 a0_1 = some r) :
    Calls Tryz.prog 96 #[.agg #[.int .u32 a0_0, .int .i64 a0_1]] w fun e w' => e = .returned (.bool r) ∧ Below w.heap.size w w' := by
  have hu24 := Tryz.underlying24
  have HB := Aside0.mk (Below.refl w.heap.size w)
  have H : ((castellanref3_Norm.f a0_0 a0_1).bind fun bt211 => (some (bt211.1 == a0_0 && (bt211.2 == a0_1)))) = some r := h
  clear h
  replace H := Option.bind_eq_some_iff.mp H
  obtain ⟨⟨t211, t212⟩, A20, H⟩ := H
  replace H : (some (t211 == a0_0 && (t212 == a0_1))) = some r := H
  have A2 := Aside0.mk A20
  clear A20
  obtain rfl := Option.some.inj H
  go_enter Tryz.func96, Tryz.ntmps96
  try go_wp2_with (first | ((with_reducible refine gate_dst (N := 1) rfl ?_); refine box_event ?hg (N := 1) ?hd (cs := #[.int .u32 a0_0, .int .i64 a0_1]) (t := 24) ?hr ?_; (case hd => rfl); (case hg => rfl); (case hr => first | (go_simp; done) | (go_simp; rfl)); intro gb210 hg w3 hbox hb; have n0_ := Aside0.mk (below_step (by repeat (first | (with_reducible first | exact HB.out | apply below_alloc | apply pw_below_drewN | apply below_drew1) | exact HB.out)) hb); have n1_ := Aside0.mk (hbox); have n2_ := Aside0.mk ((by rw [hg]; exact (below_size (by repeat (first | (with_reducible first | exact HB.out | apply below_alloc | apply pw_below_drewN | apply below_drew1) | exact HB.out))) : w.heap.size ≤ gb210)); have n3_ := Aside0.mk ((by rw [hg]; exact (below_size (by repeat (first | (with_reducible first | exact HB.out | apply below_alloc | apply pw_below_drewN | apply below_drew1) | exact HB.out))) : w.heap.size ≤ gb210)); clear HB; have HB := n0_; have BK210 := n1_; have GW210 := n2_; have GE210 := n3_; clear n0_ n1_ n2_ n3_; clear hb hbox hg))
  have n0_ := Aside0.mk (blk_drew BK210.out)
  have n1_ := Aside0.mk (below_drew1 HB.out)
  clear BK210
  clear HB
  have BK210 := n0_
  have HB := n1_
  clear n0_ n1_
  refine start_ (n := 5) (S := fun w' => w'.cell? ⟨gb210, 0, none⟩ = some (.int .u32 a0_0) ∧ w'.cell? ⟨gb210, 1, none⟩ = some (.int .i64 a0_1)) (ds := []) #[false, false, false, false, false] (by kernel_rfl) rfl rfl ⟨(blk_cell BK210.out 0).trans rfl, (blk_cell BK210.out 1).trans rfl⟩ (fun hHeld => ?_)
  generalize w3.drew = w4 at BK210 HB hHeld ⊢
  refine take_ (i := 0) (N := some 3) (v := ?_) (a' := ?_) #[true, false, false, false, false] rfl rfl (by kernel_rfl) (fun _ _ _ h => h) (Or.inl ⟨by rfl, ?_⟩) hHeld ?_ ?_
  rotate_left
  · rintro w' ⟨s0, s1⟩
    go_simp
    with_reducible rfl
  rotate_left
  · simp only [Act.put, List.setIfInBounds_toArray, List.set_cons_zero, List.set_cons_succ, i64_w, i32_w]
    rfl
  refine take_ (i := 2) (N := some 5) (v := ?_) (a' := ?_) #[true, false, true, false, false] rfl rfl (by kernel_rfl) (fun _ _ _ h => h) (Or.inl ⟨by rfl, ?_⟩) hHeld ?_ ?_
  rotate_left
  · rintro w' ⟨s0, s1⟩
    go_simp
    with_reducible rfl
  rotate_left
  · simp only [Act.put, List.setIfInBounds_toArray, List.set_cons_zero, List.set_cons_succ, i64_w, i32_w]
    rfl
  refine one_ (i := 1) (N := some 4) #[true, true, true, false, false] rfl rfl (by kernel_rfl) (by decide) (fun K hK => ?_)
  refine goes_ Tryz.func139 (by kernel_rfl) rfl #[.agg #[.int .u32 a0_0, .int .i64 a0_1]] (by rfl) rfl rfl (by (try simp only [List.map_toArray, List.map_cons, List.map_nil]); first | done | rfl | (simp only [List.length_drop, List.length_take]; rfl)) ?_
  with_reducible refine (castellanref3_Norm.calls a0_0 a0_1 t211 t212 _ A2.out).mono ?_
  rintro e w5 ⟨rfl, hb⟩
  refine ⟨_, rfl, ?_⟩
  have n0_ := Aside0.mk (blk_below (g := gb210) (o := .cells #[.int .u32 a0_0, .int .i64 a0_1] 24 (0, 0)) (by (with_reducible repeat (first | refine blk_drewN ?_ _ | refine blk_drew ?_ | refine blk_alloc ?_ _)); exact BK210.out) hb)
  have n1_ := Aside0.mk (below_step (by repeat (first | (with_reducible first | exact HB.out | apply below_alloc | apply pw_below_drewN | apply below_drew1 | refine below_set ?_ GE210.out) | exact HB.out)) hb)
  clear BK210
  clear HB
  have BK210 := n0_
  have HB := n1_
  clear n0_ n1_
  (try clear hb)
  (try clear hb2)
  (try clear hk)
  (try clear hi)
  refine hK.out _ _ ⟨(blk_cell BK210.out 0).trans rfl, (blk_cell BK210.out 1).trans rfl⟩ (fun hHeld => ?_)
  clear hK K
  refine norm_ (a' := ?_) ?_ ?_
  rotate_left
  · show Act.put _ (some 4) _ = _
    simp only [Act.put, List.setIfInBounds_toArray, List.set_cons_zero, List.set_cons_succ, i64_w, i32_w]
    rfl
  refine pure_ (i := 3) (N := some 6) (v := ?_) (a' := ?_) #[true, true, true, true, false] rfl rfl (by kernel_rfl) (fun _ _ _ h => h) (Or.inl ⟨by rfl, ?_⟩) ?_ ?_
  rotate_left
  · intro w'
    go_simp
    with_reducible rfl
  rotate_left
  · simp only [Act.put, List.setIfInBounds_toArray, List.set_cons_zero, List.set_cons_succ, i64_w, i32_w]
    rfl
  refine pure_ (i := 4) (N := some 2) (v := ?_) (a' := ?_) #[true, true, true, true, true] rfl rfl (by kernel_rfl) (fun _ _ _ h => h) (Or.inl ⟨by rfl, ?_⟩) ?_ ?_
  rotate_left
  · intro w'
    go_simp
    with_reducible rfl
  rotate_left
  · simp only [Act.put, List.setIfInBounds_toArray, List.set_cons_zero, List.set_cons_succ, i64_w, i32_w]
    rfl
  refine done_ (by kernel_rfl) ?_
  try go_wp2
  go_ret
  exact ⟨by first | rfl | (simp [errW_none, errW_some] <;> rfl) | (simp [*, errW_none, errW_some] <;> rfl), by repeat (first | (with_reducible first | exact HB.out | apply below_alloc | apply pw_below_drewN | apply below_drew1 | refine below_set ?_ GE210.out) | exact HB.out)⟩
def castellanref14_side.j0 : Nat → Bool → Bool → ByteArray → Int → Int → Int → Int → Option (Bool)
  | 0, _, _, _, _, _, _, _ => none
  | k + 1, x33, x214000, x214001, x214002, x214003, x214004, x214005 => if x33 = true then (some false) else (if x214000 = true then (if x214001.toList = ([] : List UInt8) then (some (x214002 == 0 && (x214003 == 0))) else (some false)) else (if x214001.toList = ([] : List UInt8) then ((castellanref3_Is.f x214002 x214003).bind fun t215 => (some t215)) else ((castellanref14_Name.f k x214001).bind fun t216 => (if t216 = true then (some (x214002 == 0 && (x214003 == 0))) else (some false)))))
def castellanref14_side.f (k : Nat) (a0_0 : Bool) (a0_1 : ByteArray) (a0_2 : Int) (a0_3 : Int) (a0_4 : Int) (a0_5 : Int) (a1 : Bool) : Option (Bool) := if a0_4 < 0 then (castellanref14_side.j0 k true a0_0 a0_1 a0_2 a0_3 a0_4 a0_5) else (if a0_5 > 65535 then (castellanref14_side.j0 k true a0_0 a0_1 a0_2 a0_3 a0_4 a0_5) else (if a0_4 > a0_5 then (castellanref14_side.j0 k true a0_0 a0_1 a0_2 a0_3 a0_4 a0_5) else (if a1 = true then (castellanref14_side.j0 k false a0_0 a0_1 a0_2 a0_3 a0_4 a0_5) else ((castellanref14_all.f a0_4 a0_5).bind fun t214 => (castellanref14_side.j0 k (!t214) a0_0 a0_1 a0_2 a0_3 a0_4 a0_5)))))
theorem castellanref14_side.mono_l : ∀ k, (∀ y0 y1 y2 y3 y4 y5 y6, LeO (castellanref14_side.j0 k y0 y1 y2 y3 y4 y5 y6) (castellanref14_side.j0 (k + 1) y0 y1 y2 y3 y4 y5 y6))
  | 0 => fun _ _ _ _ _ _ _ r h => by simp [castellanref14_side.j0] at h
  | k + 1 => by
    have ih0 := castellanref14_side.mono_l k
    · intro y0 y1 y2 y3 y4 y5 y6
      unfold castellanref14_side.j0
      repeat' first
      | (with_reducible exact ih0 _ _ _ _ _ _ _)
      | (with_reducible exact castellanref14_Name.mono _ _)
      | (with_reducible exact LeO.refl _)
      | (with_reducible exact LeO.none _)
      | (with_reducible refine LeO.ite ?_ ?_)
      | (with_reducible refine LeO.bind ?_ (fun _ => ?_))
      | exact ih0 _ _ _ _ _ _ _
      | exact castellanref14_Name.mono _ _
      | exact LeO.none _
      | refine LeO.ite ?_ ?_
      | refine LeO.bind ?_ (fun _ => ?_)
theorem castellanref14_side.mono : ∀ a0 a1 a2 a3 a4 a5 a6 k, LeO (castellanref14_side.f k a0 a1 a2 a3 a4 a5 a6) (castellanref14_side.f (k + 1) a0 a1 a2 a3 a4 a5 a6) := by
  intro a0 a1 a2 a3 a4 a5 a6 k
  have ih0 := castellanref14_side.mono_l k
  unfold castellanref14_side.f
  repeat' first
      | (with_reducible exact ih0 _ _ _ _ _ _ _)
      | (with_reducible exact castellanref14_Name.mono _ _)
      | (with_reducible exact LeO.refl _)
      | (with_reducible exact LeO.none _)
      | (with_reducible refine LeO.ite ?_ ?_)
      | (with_reducible refine LeO.bind ?_ (fun _ => ?_))
      | exact ih0 _ _ _ _ _ _ _
      | exact castellanref14_Name.mono _ _
      | exact LeO.none _
      | refine LeO.ite ?_ ?_
      | refine LeO.bind ?_ (fun _ => ?_)
set_option maxHeartbeats 8000000 in
set_option maxRecDepth 100000 in
theorem castellanref14_side.calls (k : Nat) (a0_0 : Bool) (a0_1 : ByteArray) (a0_2 : Int) (a0_3 : Int) (a0_4 : Int) (a0_5 : Int) (a1 : Bool) (r : Bool) (w : World) (h : castellanref14_side.f k a0_0 a0_1 a0_2 a0_3 a0_4 a0_5 a1 = some r) :
    Calls Tryz.prog 50 #[.agg #[.bool a0_0, .string a0_1, .int .u32 a0_2, .int .i64 a0_3, .int .i64 a0_4, .int .i64 a0_5], .bool a1] w fun e w' => e = .returned (.bool r) ∧ Below w.heap.size w w' := by
  have hu28 := Tryz.underlying28
  have hu26 := Tryz.underlying26
  have hu24 := Tryz.underlying24
  have HB := Aside0.mk (Below.refl w.heap.size w)
  have H : (if a0_4 < 0 then (castellanref14_side.j0 k true a0_0 a0_1 a0_2 a0_3 a0_4 a0_5) else (if a0_5 > 65535 then (castellanref14_side.j0 k true a0_0 a0_1 a0_2 a0_3 a0_4 a0_5) else (if a0_4 > a0_5 then (castellanref14_side.j0 k true a0_0 a0_1 a0_2 a0_3 a0_4 a0_5) else (if a1 = true then (castellanref14_side.j0 k false a0_0 a0_1 a0_2 a0_3 a0_4 a0_5) else ((castellanref14_all.f a0_4 a0_5).bind fun t214 => (castellanref14_side.j0 k (!t214) a0_0 a0_1 a0_2 a0_3 a0_4 a0_5)))))) = some r := h
  clear h
  have HC3 := Aside0.mk H
  clear H
  go_enter Tryz.func50, Tryz.ntmps50
  go_upto_region 1 with (first | ((with_reducible refine gate_dst (N := 2) rfl ?_); refine box_event ?hg (N := 2) ?hd (cs := #[.bool a0_0, .string a0_1, .int .u32 a0_2, .int .i64 a0_3, .int .i64 a0_4, .int .i64 a0_5]) (t := 28) ?hr ?_; (case hd => rfl); (case hg => rfl); (case hr => first | (go_simp; done) | (go_simp; rfl)); intro gb213 hg w4 hbox hb; have n0_ := Aside0.mk (below_step (by repeat (first | (with_reducible first | exact HB.out | apply below_alloc | apply pw_below_drewN | apply below_drew1) | exact HB.out)) hb); have n1_ := Aside0.mk (hbox); have n2_ := Aside0.mk ((by rw [hg]; exact (below_size (by repeat (first | (with_reducible first | exact HB.out | apply below_alloc | apply pw_below_drewN | apply below_drew1) | exact HB.out))) : w.heap.size ≤ gb213)); have n3_ := Aside0.mk ((by rw [hg]; exact (below_size (by repeat (first | (with_reducible first | exact HB.out | apply below_alloc | apply pw_below_drewN | apply below_drew1) | exact HB.out))) : w.heap.size ≤ gb213)); clear HB; have HB := n0_; have BK213 := n1_; have GW213 := n2_; have GE213 := n3_; clear n0_ n1_ n2_ n3_; clear hb hbox hg))
  (try simp only [Act.put, List.setIfInBounds_toArray, List.set_cons_zero, List.set_cons_succ])
  go_cut [33] (fun v33 wc => ∃ (kq : Nat) (x33_2 : Bool), v33 = .bool x33_2 ∧ Aside0 (castellanref14_side.j0 kq x33_2 a0_0 a0_1 a0_2 a0_3 a0_4 a0_5 = some r) ∧ Aside0 (kq ≤ k) ∧ Aside0 (wc.heap[gb213]? = some (.cells #[.bool a0_0, .string a0_1, .int .u32 a0_2, .int .i64 a0_3, .int .i64 a0_4, .int .i64 a0_5] 28 (0, 0))) ∧ Aside0 (Below w.heap.size w wc))
  case first =>
    have H := HC3.out
    clear HC3
    by_cases c5 : a0_4 < 0
    · rw [if_pos c5] at H
      have c5b0 : decide (a0_4 < 0) = true := decide_eq_true c5
      clear c5
      (first | rw [c5b0] | (simp only [i64_w, i32_w]; rw [c5b0]) | skip)
      have H' := Aside0.mk H
      clear H
      have hcz6_0 : w4.cell? ⟨gb213, 0, none⟩ = some (.bool a0_0) := (blk_cell BK213.out 0).trans rfl
      have hcz6_1 : w4.cell? ⟨gb213, 1, none⟩ = some (.string a0_1) := (blk_cell BK213.out 1).trans rfl
      have hcz6_2 : w4.cell? ⟨gb213, 2, none⟩ = some (.int .u32 a0_2) := (blk_cell BK213.out 2).trans rfl
      have hcz6_3 : w4.cell? ⟨gb213, 3, none⟩ = some (.int .i64 a0_3) := (blk_cell BK213.out 3).trans rfl
      have hcz6_4 : w4.cell? ⟨gb213, 4, none⟩ = some (.int .i64 a0_4) := (blk_cell BK213.out 4).trans rfl
      have hcz6_5 : w4.cell? ⟨gb213, 5, none⟩ = some (.int .i64 a0_5) := (blk_cell BK213.out 5).trans rfl
      have hfz6_0 := blk_frozen BK213.out 0
      have hfz6_1 := blk_frozen BK213.out 1
      have hfz6_2 := blk_frozen BK213.out 2
      have hfz6_3 := blk_frozen BK213.out 3
      have hfz6_4 := blk_frozen BK213.out 4
      have hfz6_5 := blk_frozen BK213.out 5
      go_wp2
      go_meet
      case rel => exact ⟨_, (true), (by first | rfl | (simp; done) | (simp [*]; done)), H', ⟨by first | omega | exact Nat.le_refl _⟩, ⟨by (with_reducible repeat (first | refine blk_drewN ?_ _ | refine blk_drew ?_ | refine blk_alloc ?_ _)); exact BK213.out⟩, ⟨by repeat (first | (with_reducible first | exact HB.out | apply below_alloc | apply pw_below_drewN | apply below_drew1 | refine below_set ?_ GE213.out) | exact HB.out)⟩⟩
    · rw [if_neg c5] at H
      have c5b0 : decide (a0_4 < 0) = false := decide_eq_false c5
      clear c5
      (first | rw [c5b0] | (simp only [i64_w, i32_w]; rw [c5b0]) | skip)
      by_cases c7 : a0_5 > 65535
      · rw [if_pos c7] at H
        have c7b0 : decide (65535 < a0_5) = true := decide_eq_true c7
        clear c7
        have H' := Aside0.mk H
        clear H
        have hcz8_0 : w4.cell? ⟨gb213, 0, none⟩ = some (.bool a0_0) := (blk_cell BK213.out 0).trans rfl
        have hcz8_1 : w4.cell? ⟨gb213, 1, none⟩ = some (.string a0_1) := (blk_cell BK213.out 1).trans rfl
        have hcz8_2 : w4.cell? ⟨gb213, 2, none⟩ = some (.int .u32 a0_2) := (blk_cell BK213.out 2).trans rfl
        have hcz8_3 : w4.cell? ⟨gb213, 3, none⟩ = some (.int .i64 a0_3) := (blk_cell BK213.out 3).trans rfl
        have hcz8_4 : w4.cell? ⟨gb213, 4, none⟩ = some (.int .i64 a0_4) := (blk_cell BK213.out 4).trans rfl
        have hcz8_5 : w4.cell? ⟨gb213, 5, none⟩ = some (.int .i64 a0_5) := (blk_cell BK213.out 5).trans rfl
        have hfz8_0 := blk_frozen BK213.out 0
        have hfz8_1 := blk_frozen BK213.out 1
        have hfz8_2 := blk_frozen BK213.out 2
        have hfz8_3 := blk_frozen BK213.out 3
        have hfz8_4 := blk_frozen BK213.out 4
        have hfz8_5 := blk_frozen BK213.out 5
        go_wp2
        go_meet
        case rel => exact ⟨_, (true), (by first | rfl | (simp; done) | (simp [*]; done)), H', ⟨by first | omega | exact Nat.le_refl _⟩, ⟨by (with_reducible repeat (first | refine blk_drewN ?_ _ | refine blk_drew ?_ | refine blk_alloc ?_ _)); exact BK213.out⟩, ⟨by repeat (first | (with_reducible first | exact HB.out | apply below_alloc | apply pw_below_drewN | apply below_drew1 | refine below_set ?_ GE213.out) | exact HB.out)⟩⟩
      · rw [if_neg c7] at H
        have c7b0 : decide (65535 < a0_5) = false := decide_eq_false c7
        clear c7
        by_cases c9 : a0_4 > a0_5
        · rw [if_pos c9] at H
          have c9b0 : decide (a0_5 < a0_4) = true := decide_eq_true c9
          clear c9
          have H' := Aside0.mk H
          clear H
          have hcz10_0 : w4.cell? ⟨gb213, 0, none⟩ = some (.bool a0_0) := (blk_cell BK213.out 0).trans rfl
          have hcz10_1 : w4.cell? ⟨gb213, 1, none⟩ = some (.string a0_1) := (blk_cell BK213.out 1).trans rfl
          have hcz10_2 : w4.cell? ⟨gb213, 2, none⟩ = some (.int .u32 a0_2) := (blk_cell BK213.out 2).trans rfl
          have hcz10_3 : w4.cell? ⟨gb213, 3, none⟩ = some (.int .i64 a0_3) := (blk_cell BK213.out 3).trans rfl
          have hcz10_4 : w4.cell? ⟨gb213, 4, none⟩ = some (.int .i64 a0_4) := (blk_cell BK213.out 4).trans rfl
          have hcz10_5 : w4.cell? ⟨gb213, 5, none⟩ = some (.int .i64 a0_5) := (blk_cell BK213.out 5).trans rfl
          have hfz10_0 := blk_frozen BK213.out 0
          have hfz10_1 := blk_frozen BK213.out 1
          have hfz10_2 := blk_frozen BK213.out 2
          have hfz10_3 := blk_frozen BK213.out 3
          have hfz10_4 := blk_frozen BK213.out 4
          have hfz10_5 := blk_frozen BK213.out 5
          go_wp2
          go_meet
          case rel => exact ⟨_, (true), (by first | rfl | (simp; done) | (simp [*]; done)), H', ⟨by first | omega | exact Nat.le_refl _⟩, ⟨by (with_reducible repeat (first | refine blk_drewN ?_ _ | refine blk_drew ?_ | refine blk_alloc ?_ _)); exact BK213.out⟩, ⟨by repeat (first | (with_reducible first | exact HB.out | apply below_alloc | apply pw_below_drewN | apply below_drew1 | refine below_set ?_ GE213.out) | exact HB.out)⟩⟩
        · rw [if_neg c9] at H
          have c9b0 : decide (a0_5 < a0_4) = false := decide_eq_false c9
          clear c9
          by_cases c11 : a1 = true
          · subst c11
            have H1 : (castellanref14_side.j0 k false a0_0 a0_1 a0_2 a0_3 a0_4 a0_5) = some r := by rw [if_pos rfl] at H; exact H
            clear H
            have H := H1
            clear H1
            have H' := Aside0.mk H
            clear H
            have hcz12_0 : w4.cell? ⟨gb213, 0, none⟩ = some (.bool a0_0) := (blk_cell BK213.out 0).trans rfl
            have hcz12_1 : w4.cell? ⟨gb213, 1, none⟩ = some (.string a0_1) := (blk_cell BK213.out 1).trans rfl
            have hcz12_2 : w4.cell? ⟨gb213, 2, none⟩ = some (.int .u32 a0_2) := (blk_cell BK213.out 2).trans rfl
            have hcz12_3 : w4.cell? ⟨gb213, 3, none⟩ = some (.int .i64 a0_3) := (blk_cell BK213.out 3).trans rfl
            have hcz12_4 : w4.cell? ⟨gb213, 4, none⟩ = some (.int .i64 a0_4) := (blk_cell BK213.out 4).trans rfl
            have hcz12_5 : w4.cell? ⟨gb213, 5, none⟩ = some (.int .i64 a0_5) := (blk_cell BK213.out 5).trans rfl
            have hfz12_0 := blk_frozen BK213.out 0
            have hfz12_1 := blk_frozen BK213.out 1
            have hfz12_2 := blk_frozen BK213.out 2
            have hfz12_3 := blk_frozen BK213.out 3
            have hfz12_4 := blk_frozen BK213.out 4
            have hfz12_5 := blk_frozen BK213.out 5
            go_wp2
            go_meet
            case rel => exact ⟨_, (false), (by first | rfl | (simp; done) | (simp [*]; done)), H', ⟨by first | omega | exact Nat.le_refl _⟩, ⟨by (with_reducible repeat (first | refine blk_drewN ?_ _ | refine blk_drew ?_ | refine blk_alloc ?_ _)); exact BK213.out⟩, ⟨by repeat (first | (with_reducible first | exact HB.out | apply below_alloc | apply pw_below_drewN | apply below_drew1 | refine below_set ?_ GE213.out) | exact HB.out)⟩⟩
          · replace c11 := Bool.eq_false_iff.mpr c11
            subst c11
            have H1 : ((castellanref14_all.f a0_4 a0_5).bind fun t214 => (castellanref14_side.j0 k (!t214) a0_0 a0_1 a0_2 a0_3 a0_4 a0_5)) = some r := by rw [if_neg (show ¬ (false = true) by decide)] at H; exact H
            clear H
            have H := H1
            clear H1
            replace H := Option.bind_eq_some_iff.mp H
            obtain ⟨t214, A130, H⟩ := H
            replace H : (castellanref14_side.j0 k (!t214) a0_0 a0_1 a0_2 a0_3 a0_4 a0_5) = some r := H
            have A13 := Aside0.mk A130
            clear A130
            have H' := Aside0.mk H
            clear H
            have hcz14_0 : w4.cell? ⟨gb213, 0, none⟩ = some (.bool a0_0) := (blk_cell BK213.out 0).trans rfl
            have hcz14_1 : w4.cell? ⟨gb213, 1, none⟩ = some (.string a0_1) := (blk_cell BK213.out 1).trans rfl
            have hcz14_2 : w4.cell? ⟨gb213, 2, none⟩ = some (.int .u32 a0_2) := (blk_cell BK213.out 2).trans rfl
            have hcz14_3 : w4.cell? ⟨gb213, 3, none⟩ = some (.int .i64 a0_3) := (blk_cell BK213.out 3).trans rfl
            have hcz14_4 : w4.cell? ⟨gb213, 4, none⟩ = some (.int .i64 a0_4) := (blk_cell BK213.out 4).trans rfl
            have hcz14_5 : w4.cell? ⟨gb213, 5, none⟩ = some (.int .i64 a0_5) := (blk_cell BK213.out 5).trans rfl
            have hfz14_0 := blk_frozen BK213.out 0
            have hfz14_1 := blk_frozen BK213.out 1
            have hfz14_2 := blk_frozen BK213.out 2
            have hfz14_3 := blk_frozen BK213.out 3
            have hfz14_4 := blk_frozen BK213.out 4
            have hfz14_5 := blk_frozen BK213.out 5
            go_wp2_with (first | (go_at_call 95; (with_reducible refine (castellanref14_all.calls a0_4 a0_5 t214 _ A13.out).mono ?_); rintro e w15 ⟨rfl, hb⟩; have n0_ := Aside0.mk (blk_below (g := gb213) (o := .cells #[.bool a0_0, .string a0_1, .int .u32 a0_2, .int .i64 a0_3, .int .i64 a0_4, .int .i64 a0_5] 28 (0, 0)) (by (with_reducible repeat (first | refine blk_drewN ?_ _ | refine blk_drew ?_ | refine blk_alloc ?_ _)); exact BK213.out) hb); have n1_ := Aside0.mk (below_step (by repeat (first | (with_reducible first | exact HB.out | apply below_alloc | apply pw_below_drewN | apply below_drew1 | refine below_set ?_ GE213.out) | exact HB.out)) hb); clear BK213; clear HB; have BK213 := n0_; have HB := n1_; clear n0_ n1_; (try clear hb); (try clear hb2); (try clear hk); (try clear hi)))
            go_meet
            case rel => exact ⟨_, (!t214), (by first | rfl | (simp; done) | (simp [*]; done)), H', ⟨by first | omega | exact Nat.le_refl _⟩, ⟨by (with_reducible repeat (first | refine blk_drewN ?_ _ | refine blk_drew ?_ | refine blk_alloc ?_ _)); exact BK213.out⟩, ⟨by repeat (first | (with_reducible first | exact HB.out | apply below_alloc | apply pw_below_drewN | apply below_drew1 | refine below_set ?_ GE213.out) | exact HB.out)⟩⟩
  case rest =>
    clear HC3
    try clear c1
    try clear p2
    try clear c5
    try clear c5b0
    try clear c7
    try clear c7b0
    try clear c9
    try clear c9b0
    try clear c11
    try clear hcz10_0
    try clear hcz10_1
    try clear hcz10_2
    try clear hcz10_3
    try clear hcz10_4
    try clear hcz10_5
    try clear hcz12_0
    try clear hcz12_1
    try clear hcz12_2
    try clear hcz12_3
    try clear hcz12_4
    try clear hcz12_5
    try clear hcz14_0
    try clear hcz14_1
    try clear hcz14_2
    try clear hcz14_3
    try clear hcz14_4
    try clear hcz14_5
    try clear hcz6_0
    try clear hcz6_1
    try clear hcz6_2
    try clear hcz6_3
    try clear hcz6_4
    try clear hcz6_5
    try clear hcz8_0
    try clear hcz8_1
    try clear hcz8_2
    try clear hcz8_3
    try clear hcz8_4
    try clear hcz8_5
    try clear hfz10_0
    try clear hfz10_1
    try clear hfz10_2
    try clear hfz10_3
    try clear hfz10_4
    try clear hfz10_5
    try clear hfz12_0
    try clear hfz12_1
    try clear hfz12_2
    try clear hfz12_3
    try clear hfz12_4
    try clear hfz12_5
    try clear hfz14_0
    try clear hfz14_1
    try clear hfz14_2
    try clear hfz14_3
    try clear hfz14_4
    try clear hfz14_5
    try clear hfz6_0
    try clear hfz6_1
    try clear hfz6_2
    try clear hfz6_3
    try clear hfz6_4
    try clear hfz6_5
    try clear hfz8_0
    try clear hfz8_1
    try clear hfz8_2
    try clear hfz8_3
    try clear hfz8_4
    try clear hfz8_5
    obtain ⟨kq, x33_2, rfl, HA, HJ2, BK213, HB⟩ := hcut
    cases kq with
    | zero => exact absurd HA.out (by simp [castellanref14_side.j0])
    | succ kj2 =>
      have H := HA.out
      clear HA
      simp only [castellanref14_side.j0] at H
      by_cases c16 : x33_2 = true
      · subst c16
        have H1 : (some false) = some r := by rw [if_pos rfl] at H; exact H
        clear H
        have H := H1
        clear H1
        obtain rfl := Option.some.inj H
        go_wp2
        go_ret
        exact ⟨by first | rfl | (simp [errW_none, errW_some] <;> rfl) | (simp [*, errW_none, errW_some] <;> rfl), by repeat (first | (with_reducible first | exact HB.out | apply below_alloc | apply pw_below_drewN | apply below_drew1 | refine below_set ?_ GE213.out) | exact HB.out)⟩
      · replace c16 := Bool.eq_false_iff.mpr c16
        subst c16
        have H1 : (if a0_0 = true then (if a0_1.toList = ([] : List UInt8) then (some (a0_2 == 0 && (a0_3 == 0))) else (some false)) else (if a0_1.toList = ([] : List UInt8) then ((castellanref3_Is.f a0_2 a0_3).bind fun t215 => (some t215)) else ((castellanref14_Name.f kj2 a0_1).bind fun t216 => (if t216 = true then (some (a0_2 == 0 && (a0_3 == 0))) else (some false))))) = some r := by rw [if_neg (show ¬ (false = true) by decide)] at H; exact H
        clear H
        have H := H1
        clear H1
        by_cases c17 : a0_0 = true
        · subst c17
          have H1 : (if a0_1.toList = ([] : List UInt8) then (some (a0_2 == 0 && (a0_3 == 0))) else (some false)) = some r := by rw [if_pos rfl] at H; exact H
          clear H
          have H := H1
          clear H1
          by_cases c18 : a0_1.toList = ([] : List UInt8)
          · rw [if_pos c18] at H
            have c18b0 : (a0_1.toList == ([] : List UInt8)) = true := beq_iff_eq.mpr c18
            have c18b1 : (a0_1.toList != ([] : List UInt8)) = false := bne_eq_false_iff_eq.mpr c18
            clear c18
            obtain rfl := Option.some.inj H
            have hcz19_0 : wc.cell? ⟨gb213, 0, none⟩ = some (.bool true) := (blk_cell BK213.out 0).trans rfl
            have hcz19_1 : wc.cell? ⟨gb213, 1, none⟩ = some (.string a0_1) := (blk_cell BK213.out 1).trans rfl
            have hcz19_2 : wc.cell? ⟨gb213, 2, none⟩ = some (.int .u32 a0_2) := (blk_cell BK213.out 2).trans rfl
            have hcz19_3 : wc.cell? ⟨gb213, 3, none⟩ = some (.int .i64 a0_3) := (blk_cell BK213.out 3).trans rfl
            have hcz19_4 : wc.cell? ⟨gb213, 4, none⟩ = some (.int .i64 a0_4) := (blk_cell BK213.out 4).trans rfl
            have hcz19_5 : wc.cell? ⟨gb213, 5, none⟩ = some (.int .i64 a0_5) := (blk_cell BK213.out 5).trans rfl
            have hfz19_0 := blk_frozen BK213.out 0
            have hfz19_1 := blk_frozen BK213.out 1
            have hfz19_2 := blk_frozen BK213.out 2
            have hfz19_3 := blk_frozen BK213.out 3
            have hfz19_4 := blk_frozen BK213.out 4
            have hfz19_5 := blk_frozen BK213.out 5
            go_wp2
            go_ret
            exact ⟨by first | rfl | (simp [errW_none, errW_some] <;> rfl) | (simp [*, errW_none, errW_some] <;> rfl), by repeat (first | (with_reducible first | exact HB.out | apply below_alloc | apply pw_below_drewN | apply below_drew1 | refine below_set ?_ GE213.out) | exact HB.out)⟩
          · rw [if_neg c18] at H
            have c18b0 : (a0_1.toList == ([] : List UInt8)) = false := beq_eq_false_iff_ne.mpr c18
            have c18b1 : (a0_1.toList != ([] : List UInt8)) = true := bne_iff_ne.mpr c18
            obtain rfl := Option.some.inj H
            have hcz20_0 : wc.cell? ⟨gb213, 0, none⟩ = some (.bool true) := (blk_cell BK213.out 0).trans rfl
            have hcz20_1 : wc.cell? ⟨gb213, 1, none⟩ = some (.string a0_1) := (blk_cell BK213.out 1).trans rfl
            have hcz20_2 : wc.cell? ⟨gb213, 2, none⟩ = some (.int .u32 a0_2) := (blk_cell BK213.out 2).trans rfl
            have hcz20_3 : wc.cell? ⟨gb213, 3, none⟩ = some (.int .i64 a0_3) := (blk_cell BK213.out 3).trans rfl
            have hcz20_4 : wc.cell? ⟨gb213, 4, none⟩ = some (.int .i64 a0_4) := (blk_cell BK213.out 4).trans rfl
            have hcz20_5 : wc.cell? ⟨gb213, 5, none⟩ = some (.int .i64 a0_5) := (blk_cell BK213.out 5).trans rfl
            have hfz20_0 := blk_frozen BK213.out 0
            have hfz20_1 := blk_frozen BK213.out 1
            have hfz20_2 := blk_frozen BK213.out 2
            have hfz20_3 := blk_frozen BK213.out 3
            have hfz20_4 := blk_frozen BK213.out 4
            have hfz20_5 := blk_frozen BK213.out 5
            go_wp2
            go_ret
            exact ⟨by first | rfl | (simp [errW_none, errW_some] <;> rfl) | (simp [*, errW_none, errW_some] <;> rfl), by repeat (first | (with_reducible first | exact HB.out | apply below_alloc | apply pw_below_drewN | apply below_drew1 | refine below_set ?_ GE213.out) | exact HB.out)⟩
        · replace c17 := Bool.eq_false_iff.mpr c17
          subst c17
          have H1 : (if a0_1.toList = ([] : List UInt8) then ((castellanref3_Is.f a0_2 a0_3).bind fun t215 => (some t215)) else ((castellanref14_Name.f kj2 a0_1).bind fun t216 => (if t216 = true then (some (a0_2 == 0 && (a0_3 == 0))) else (some false)))) = some r := by rw [if_neg (show ¬ (false = true) by decide)] at H; exact H
          clear H
          have H := H1
          clear H1
          by_cases c21 : a0_1.toList = ([] : List UInt8)
          · rw [if_pos c21] at H
            have c21b0 : (a0_1.toList == ([] : List UInt8)) = true := beq_iff_eq.mpr c21
            have c21b1 : (a0_1.toList != ([] : List UInt8)) = false := bne_eq_false_iff_eq.mpr c21
            clear c21
            replace H := Option.bind_eq_some_iff.mp H
            obtain ⟨t215, A220, H⟩ := H
            replace H : (some t215) = some r := H
            have A22 := Aside0.mk A220
            clear A220
            obtain rfl := Option.some.inj H
            have hcz23_0 : wc.cell? ⟨gb213, 0, none⟩ = some (.bool false) := (blk_cell BK213.out 0).trans rfl
            have hcz23_1 : wc.cell? ⟨gb213, 1, none⟩ = some (.string a0_1) := (blk_cell BK213.out 1).trans rfl
            have hcz23_2 : wc.cell? ⟨gb213, 2, none⟩ = some (.int .u32 a0_2) := (blk_cell BK213.out 2).trans rfl
            have hcz23_3 : wc.cell? ⟨gb213, 3, none⟩ = some (.int .i64 a0_3) := (blk_cell BK213.out 3).trans rfl
            have hcz23_4 : wc.cell? ⟨gb213, 4, none⟩ = some (.int .i64 a0_4) := (blk_cell BK213.out 4).trans rfl
            have hcz23_5 : wc.cell? ⟨gb213, 5, none⟩ = some (.int .i64 a0_5) := (blk_cell BK213.out 5).trans rfl
            have hfz23_0 := blk_frozen BK213.out 0
            have hfz23_1 := blk_frozen BK213.out 1
            have hfz23_2 := blk_frozen BK213.out 2
            have hfz23_3 := blk_frozen BK213.out 3
            have hfz23_4 := blk_frozen BK213.out 4
            have hfz23_5 := blk_frozen BK213.out 5
            go_wp2_with (first | ((with_reducible refine gate_callee (f := 96) rfl ?_); refine goesL_ (some 61) rfl rfl Tryz.func96 (by kernel_rfl) rfl #[.agg #[.int .u32 a0_2, .int .i64 a0_3]] rfl (by (try simp only [List.map_toArray, List.map_cons, List.map_nil]); first | done | rfl | (simp only [List.length_drop, List.length_take]; rfl)) ?_; (with_reducible refine (castellanref3_Is.calls a0_2 a0_3 t215 _ A22.out).mono ?_); rintro e w24 ⟨rfl, hb⟩; refine ⟨_, rfl, ?_⟩; have n0_ := Aside0.mk (blk_below (g := gb213) (o := .cells #[.bool false, .string a0_1, .int .u32 a0_2, .int .i64 a0_3, .int .i64 a0_4, .int .i64 a0_5] 28 (0, 0)) (by (with_reducible repeat (first | refine blk_drewN ?_ _ | refine blk_drew ?_ | refine blk_alloc ?_ _)); exact BK213.out) hb); have n1_ := Aside0.mk (below_step (by repeat (first | (with_reducible first | exact HB.out | apply below_alloc | apply pw_below_drewN | apply below_drew1 | refine below_set ?_ GE213.out) | exact HB.out)) hb); clear BK213; clear HB; have BK213 := n0_; have HB := n1_; clear n0_ n1_; (try clear hb); (try clear hb2); (try clear hk); (try clear hi)))
            go_ret
            exact ⟨by first | rfl | (simp [errW_none, errW_some] <;> rfl) | (simp [*, errW_none, errW_some] <;> rfl), by repeat (first | (with_reducible first | exact HB.out | apply below_alloc | apply pw_below_drewN | apply below_drew1 | refine below_set ?_ GE213.out) | exact HB.out)⟩
          · rw [if_neg c21] at H
            have c21b0 : (a0_1.toList == ([] : List UInt8)) = false := beq_eq_false_iff_ne.mpr c21
            have c21b1 : (a0_1.toList != ([] : List UInt8)) = true := bne_iff_ne.mpr c21
            replace H := Option.bind_eq_some_iff.mp H
            obtain ⟨t216, A250, H⟩ := H
            replace H : (if t216 = true then (some (a0_2 == 0 && (a0_3 == 0))) else (some false)) = some r := H
            have A25 := Aside0.mk A250
            clear A250
            by_cases c26 : t216 = true
            · subst c26
              have H1 : (some (a0_2 == 0 && (a0_3 == 0))) = some r := by rw [if_pos rfl] at H; exact H
              clear H
              have H := H1
              clear H1
              obtain rfl := Option.some.inj H
              have hcz27_0 : wc.cell? ⟨gb213, 0, none⟩ = some (.bool false) := (blk_cell BK213.out 0).trans rfl
              have hcz27_1 : wc.cell? ⟨gb213, 1, none⟩ = some (.string a0_1) := (blk_cell BK213.out 1).trans rfl
              have hcz27_2 : wc.cell? ⟨gb213, 2, none⟩ = some (.int .u32 a0_2) := (blk_cell BK213.out 2).trans rfl
              have hcz27_3 : wc.cell? ⟨gb213, 3, none⟩ = some (.int .i64 a0_3) := (blk_cell BK213.out 3).trans rfl
              have hcz27_4 : wc.cell? ⟨gb213, 4, none⟩ = some (.int .i64 a0_4) := (blk_cell BK213.out 4).trans rfl
              have hcz27_5 : wc.cell? ⟨gb213, 5, none⟩ = some (.int .i64 a0_5) := (blk_cell BK213.out 5).trans rfl
              have hfz27_0 := blk_frozen BK213.out 0
              have hfz27_1 := blk_frozen BK213.out 1
              have hfz27_2 := blk_frozen BK213.out 2
              have hfz27_3 := blk_frozen BK213.out 3
              have hfz27_4 := blk_frozen BK213.out 4
              have hfz27_5 := blk_frozen BK213.out 5
              go_wp2_with (first | ((with_reducible refine gate_callee (f := 15) rfl ?_); refine goesL_ (some 52) rfl rfl Tryz.func15 (by kernel_rfl) rfl #[.string a0_1] rfl (by (try simp only [List.map_toArray, List.map_cons, List.map_nil]); first | done | rfl | (simp only [List.length_drop, List.length_take]; rfl)) ?_; (with_reducible refine (castellanref14_Name.calls kj2 a0_1 true _ A25.out).mono ?_); rintro e w' ⟨rfl, ⟨nd, rfl⟩⟩; refine ⟨_, rfl, ?_⟩))
              go_ret
              exact ⟨by first | rfl | (simp [errW_none, errW_some] <;> rfl) | (simp [*, errW_none, errW_some] <;> rfl), by repeat (first | (with_reducible first | exact HB.out | apply below_alloc | apply pw_below_drewN | apply below_drew1 | refine below_set ?_ GE213.out) | exact HB.out)⟩
            · replace c26 := Bool.eq_false_iff.mpr c26
              subst c26
              have H1 : (some false) = some r := by rw [if_neg (show ¬ (false = true) by decide)] at H; exact H
              clear H
              have H := H1
              clear H1
              obtain rfl := Option.some.inj H
              have hcz28_0 : wc.cell? ⟨gb213, 0, none⟩ = some (.bool false) := (blk_cell BK213.out 0).trans rfl
              have hcz28_1 : wc.cell? ⟨gb213, 1, none⟩ = some (.string a0_1) := (blk_cell BK213.out 1).trans rfl
              have hcz28_2 : wc.cell? ⟨gb213, 2, none⟩ = some (.int .u32 a0_2) := (blk_cell BK213.out 2).trans rfl
              have hcz28_3 : wc.cell? ⟨gb213, 3, none⟩ = some (.int .i64 a0_3) := (blk_cell BK213.out 3).trans rfl
              have hcz28_4 : wc.cell? ⟨gb213, 4, none⟩ = some (.int .i64 a0_4) := (blk_cell BK213.out 4).trans rfl
              have hcz28_5 : wc.cell? ⟨gb213, 5, none⟩ = some (.int .i64 a0_5) := (blk_cell BK213.out 5).trans rfl
              have hfz28_0 := blk_frozen BK213.out 0
              have hfz28_1 := blk_frozen BK213.out 1
              have hfz28_2 := blk_frozen BK213.out 2
              have hfz28_3 := blk_frozen BK213.out 3
              have hfz28_4 := blk_frozen BK213.out 4
              have hfz28_5 := blk_frozen BK213.out 5
              go_wp2_with (first | ((with_reducible refine gate_callee (f := 15) rfl ?_); refine goesL_ (some 52) rfl rfl Tryz.func15 (by kernel_rfl) rfl #[.string a0_1] rfl (by (try simp only [List.map_toArray, List.map_cons, List.map_nil]); first | done | rfl | (simp only [List.length_drop, List.length_take]; rfl)) ?_; (with_reducible refine (castellanref14_Name.calls kj2 a0_1 false _ A25.out).mono ?_); rintro e w' ⟨rfl, ⟨nd, rfl⟩⟩; refine ⟨_, rfl, ?_⟩))
              go_ret
              exact ⟨by first | rfl | (simp [errW_none, errW_some] <;> rfl) | (simp [*, errW_none, errW_some] <;> rfl), by repeat (first | (with_reducible first | exact HB.out | apply below_alloc | apply pw_below_drewN | apply below_drew1 | refine below_set ?_ GE213.out) | exact HB.out)⟩
def castellanref14_pin.f (k : Nat) (a0_0 : Bool) (a0_1 : ByteArray) (a0_2 : Int) : Option (Bool) := if a0_0 = true then ((castellanref14_Name.f k a0_1).bind fun t218 => (some t218)) else (some (!a0_0 && (a0_1.toList == ([] : List UInt8) && (a0_2 == 0))))
theorem castellanref14_pin.mono : ∀ a0 a1 a2 k, LeO (castellanref14_pin.f k a0 a1 a2) (castellanref14_pin.f (k + 1) a0 a1 a2) := by
  intro a0 a1 a2 k
  unfold castellanref14_pin.f
  repeat' first
      | (with_reducible exact castellanref14_Name.mono _ _)
      | (with_reducible exact LeO.refl _)
      | (with_reducible exact LeO.none _)
      | (with_reducible refine LeO.ite ?_ ?_)
      | (with_reducible refine LeO.bind ?_ (fun _ => ?_))
      | exact castellanref14_Name.mono _ _
      | exact LeO.none _
      | refine LeO.ite ?_ ?_
      | refine LeO.bind ?_ (fun _ => ?_)
set_option maxHeartbeats 8000000 in
set_option maxRecDepth 100000 in
theorem castellanref14_pin.calls (k : Nat) (a0_0 : Bool) (a0_1 : ByteArray) (a0_2 : Int) (r : Bool) (w : World) (h : castellanref14_pin.f k a0_0 a0_1 a0_2 = some r) :
    Calls Tryz.prog 51 #[.agg #[.bool a0_0, .string a0_1, .int .u32 a0_2]] w fun e w' => e = .returned (.bool r) ∧ Below w.heap.size w w' := by
  have hu30 := Tryz.underlying30
  have HB := Aside0.mk (Below.refl w.heap.size w)
  have H : (if a0_0 = true then ((castellanref14_Name.f k a0_1).bind fun t218 => (some t218)) else (some (!a0_0 && (a0_1.toList == ([] : List UInt8) && (a0_2 == 0))))) = some r := h
  clear h
  by_cases c2 : a0_0 = true
  · subst c2
    have H1 : ((castellanref14_Name.f k a0_1).bind fun t218 => (some t218)) = some r := by rw [if_pos rfl] at H; exact H
    clear H
    have H := H1
    clear H1
    replace H := Option.bind_eq_some_iff.mp H
    obtain ⟨t218, A30, H⟩ := H
    replace H : (some t218) = some r := H
    have A3 := Aside0.mk A30
    clear A30
    obtain rfl := Option.some.inj H
    go_enter Tryz.func51, Tryz.ntmps51
    go_wp2_with (first | ((with_reducible refine gate_dst (N := 1) rfl ?_); refine box_event ?hg (N := 1) ?hd (cs := #[.bool true, .string a0_1, .int .u32 a0_2]) (t := 30) ?hr ?_; (case hd => rfl); (case hg => rfl); (case hr => first | (go_simp; done) | (go_simp; rfl)); intro gb217 hg w4 hbox hb; have n0_ := Aside0.mk (below_step (by repeat (first | (with_reducible first | exact HB.out | apply below_alloc | apply pw_below_drewN | apply below_drew1) | exact HB.out)) hb); have n1_ := Aside0.mk (hbox); have n2_ := Aside0.mk ((by rw [hg]; exact (below_size (by repeat (first | (with_reducible first | exact HB.out | apply below_alloc | apply pw_below_drewN | apply below_drew1) | exact HB.out))) : w.heap.size ≤ gb217)); have n3_ := Aside0.mk ((by rw [hg]; exact (below_size (by repeat (first | (with_reducible first | exact HB.out | apply below_alloc | apply pw_below_drewN | apply below_drew1) | exact HB.out))) : w.heap.size ≤ gb217)); clear HB; have HB := n0_; have BK217 := n1_; have GW217 := n2_; have GE217 := n3_; clear n0_ n1_ n2_ n3_; clear hb hbox hg; have hcz5_0 : w4.cell? ⟨gb217, 0, none⟩ = some (.bool true) := (blk_cell BK217.out 0).trans rfl; have hcz5_1 : w4.cell? ⟨gb217, 1, none⟩ = some (.string a0_1) := (blk_cell BK217.out 1).trans rfl; have hcz5_2 : w4.cell? ⟨gb217, 2, none⟩ = some (.int .u32 a0_2) := (blk_cell BK217.out 2).trans rfl; have hfz5_0 := blk_frozen BK217.out 0; have hfz5_1 := blk_frozen BK217.out 1; have hfz5_2 := blk_frozen BK217.out 2) | ((with_reducible refine gate_callee (f := 15) rfl ?_); refine goesL_ (some 7) rfl rfl Tryz.func15 (by kernel_rfl) rfl #[.string a0_1] rfl (by (try simp only [List.map_toArray, List.map_cons, List.map_nil]); first | done | rfl | (simp only [List.length_drop, List.length_take]; rfl)) ?_; (with_reducible refine (castellanref14_Name.calls k a0_1 t218 _ A3.out).mono ?_); rintro e w' ⟨rfl, ⟨nd, rfl⟩⟩; refine ⟨_, rfl, ?_⟩))
    go_ret
    exact ⟨by first | rfl | (simp [errW_none, errW_some] <;> rfl) | (simp [*, errW_none, errW_some] <;> rfl), by repeat (first | (with_reducible first | exact HB.out | apply below_alloc | apply pw_below_drewN | apply below_drew1 | refine below_set ?_ GE217.out) | exact HB.out)⟩
  · replace c2 := Bool.eq_false_iff.mpr c2
    subst c2
    have H1 : (some (!false && (a0_1.toList == ([] : List UInt8) && (a0_2 == 0)))) = some r := by rw [if_neg (show ¬ (false = true) by decide)] at H; exact H
    clear H
    have H := H1
    clear H1
    obtain rfl := Option.some.inj H
    go_enter Tryz.func51, Tryz.ntmps51
    go_wp2_with (first | ((with_reducible refine gate_dst (N := 1) rfl ?_); refine box_event ?hg (N := 1) ?hd (cs := #[.bool false, .string a0_1, .int .u32 a0_2]) (t := 30) ?hr ?_; (case hd => rfl); (case hg => rfl); (case hr => first | (go_simp; done) | (go_simp; rfl)); intro gb217 hg w6 hbox hb; have n0_ := Aside0.mk (below_step (by repeat (first | (with_reducible first | exact HB.out | apply below_alloc | apply pw_below_drewN | apply below_drew1) | exact HB.out)) hb); have n1_ := Aside0.mk (hbox); have n2_ := Aside0.mk ((by rw [hg]; exact (below_size (by repeat (first | (with_reducible first | exact HB.out | apply below_alloc | apply pw_below_drewN | apply below_drew1) | exact HB.out))) : w.heap.size ≤ gb217)); have n3_ := Aside0.mk ((by rw [hg]; exact (below_size (by repeat (first | (with_reducible first | exact HB.out | apply below_alloc | apply pw_below_drewN | apply below_drew1) | exact HB.out))) : w.heap.size ≤ gb217)); clear HB; have HB := n0_; have BK217 := n1_; have GW217 := n2_; have GE217 := n3_; clear n0_ n1_ n2_ n3_; clear hb hbox hg; have hcz7_0 : w6.cell? ⟨gb217, 0, none⟩ = some (.bool false) := (blk_cell BK217.out 0).trans rfl; have hcz7_1 : w6.cell? ⟨gb217, 1, none⟩ = some (.string a0_1) := (blk_cell BK217.out 1).trans rfl; have hcz7_2 : w6.cell? ⟨gb217, 2, none⟩ = some (.int .u32 a0_2) := (blk_cell BK217.out 2).trans rfl; have hfz7_0 := blk_frozen BK217.out 0; have hfz7_1 := blk_frozen BK217.out 1; have hfz7_2 := blk_frozen BK217.out 2))
    go_ret
    exact ⟨by first | rfl | (simp [errW_none, errW_some] <;> rfl) | (simp [*, errW_none, errW_some] <;> rfl), by repeat (first | (with_reducible first | exact HB.out | apply below_alloc | apply pw_below_drewN | apply below_drew1 | refine below_set ?_ GE217.out) | exact HB.out)⟩
end Go.Proofs.YtomkohdlaednhaaGreatDoor.PConfParses
end
section
namespace Go.Proofs.YtomkohdlaednhaaGreatDoor.PConfParses
open Go.RowKit Go.Proofs.YtomkohdlaednhaaGreatDoorW.PrintWords Go.Proofs.YtomkohdlaednhaaGreatDoorW.PrintLast Go.Proofs.YtomkohdlaednhaaGreatDoorW.PrintMore
attribute [local go_sem] max2_int min2_int max_two min_two max_three min_three max_four min_four   -- for this text's walks alone
set_option linter.unusedVariables false
set_option linter.unusedSimpArgs false
def castellanref3_Dec.f : Nat → Int → Option (ByteArray)
  | 0, _ => none
  | k + 1, a0 => if a0 < 10 then (some (strOfNums (([(wrap64 (48 + a0)) % 256] : List Int)))) else ((castellanref3_Dec.f k (wrap64 (Int.tdiv a0 10))).bind fun t234 => ((castellanref3_Dec.f k (Int.tmod a0 10)).bind fun t235 => (if t234.size + t235.size ≤ 9223372036854775807 then (some (t234 ++ t235)) else (none))))
theorem castellanref3_Dec.mono_l : ∀ k, (∀ y0, LeO (castellanref3_Dec.f k y0) (castellanref3_Dec.f (k + 1) y0))
  | 0 => fun _ r h => by simp [castellanref3_Dec.f] at h
  | k + 1 => by
    have ih0 := castellanref3_Dec.mono_l k
    · intro y0
      unfold castellanref3_Dec.f
      repeat' first
      | (with_reducible exact ih0 _)
      | (with_reducible exact LeO.refl _)
      | (with_reducible exact LeO.none _)
      | (with_reducible refine LeO.ite ?_ ?_)
      | (with_reducible refine LeO.bind ?_ (fun _ => ?_))
      | exact ih0 _
      | exact LeO.none _
      | refine LeO.ite ?_ ?_
      | refine LeO.bind ?_ (fun _ => ?_)
theorem castellanref3_Dec.mono : ∀ a0 k, LeO (castellanref3_Dec.f k a0) (castellanref3_Dec.f (k + 1) a0) := by
  intro a0 k
  have ih0 := castellanref3_Dec.mono_l k
  exact ih0 a0
set_option maxHeartbeats 8000000 in
set_option maxRecDepth 100000 in
theorem castellanref3_Dec.calls (k : Nat) : ∀ (a0 : Int) (r : ByteArray) (w : World) (h : castellanref3_Dec.f k a0 = some r),
    Calls Tryz.prog 22 #[.int .i64 a0] w fun e w' => e = .returned (.string r) ∧ Below w.heap.size w w' := by
  induction k using Nat.strongRecOn with
  | _ k ih =>
  intro a0 r w h
  cases k with
  | zero => exact absurd h (by simp [castellanref3_Dec.f])
  | succ k =>
  simp only [castellanref3_Dec.f] at h
  have HB := Aside0.mk (Below.refl w.heap.size w)
  have H : (if a0 < 10 then (some (strOfNums (([(wrap64 (48 + a0)) % 256] : List Int)))) else ((castellanref3_Dec.f k (wrap64 (Int.tdiv a0 10))).bind fun t234 => ((castellanref3_Dec.f k (Int.tmod a0 10)).bind fun t235 => (if t234.size + t235.size ≤ 9223372036854775807 then (some (t234 ++ t235)) else (none))))) = some r := h
  clear h
  by_cases c2 : a0 < 10
  · rw [if_pos c2] at H
    have c2b0 : decide (a0 < 10) = true := decide_eq_true c2
    clear c2
    obtain ⟨y231, hy231⟩ : ∃ y_ : List Int, y_ = (([(wrap64 (48 + a0)) % 256] : List Int)) := ⟨_, rfl⟩
    replace H : (some (strOfNums y231)) = some r := by first | (rw [hy231]; with_reducible exact H) | (have H2_ := (Option.bind_some _ _).symm.trans H; rw [hy231]; with_reducible exact H2_) | (have H2_ := (Option.bind_some _ _).symm.trans H; with_reducible exact H2_) | with_reducible exact H | (rw [hy231]; exact H) | exact H
    have Ny231 := Aside0.mk hy231
    clear hy231
    obtain rfl := Option.some.inj H
    go_enter Tryz.func22, Tryz.ntmps22
    go_wp2_with (first | ((with_reducible refine gate_dst (N := 8) rfl ?_); refine Kd.R_lit (Kd.int .u8) _ 5 ?hg (N := 8) ?hd (xs := ([(wrap64 (48 + a0)) % 256] : List Int)) (inner := [.int .u8 ((wrap64 (48 + a0)) % 256)]) (ok := fun _ => True) (okp := fun _ => True) ?hr ?hp (fun _ hk => hk) trivial (Below.refl _ _) (Nat.le_refl _) (by simp) ?_; (case hd => rfl); (case hg => rfl); (case hr => first | (go_simp; done) | (go_simp; rfl)); (case hp => exact (Reps.one (show Kd.M (Kd.int .u8) _ _ _ ((wrap64 (48 + a0)) % 256) [.int .u8 ((wrap64 (48 + a0)) % 256)] from rfl) (Reps.none _ _))); intro v232 w3 ho4 hb hg_ hnew_; clear hg_ hnew_; (first | rw [← Ny231.out] at ho4 | (simp only [Int.reduceToNat] at ho4; rw [← Ny231.out] at ho4)); have n0_ := Aside0.mk (Kd.R_lower ho4 (below_size (by repeat (first | (with_reducible first | exact HB.out | apply below_alloc | apply pw_below_drewN | apply below_drew1) | exact HB.out)))); have n1_ := Aside0.mk (below_step (by repeat (first | (with_reducible first | exact HB.out | apply below_alloc | apply pw_below_drewN | apply below_drew1) | exact HB.out)) hb); clear HB; have HO233 := n0_; have HB := n1_; clear n0_ n1_; clear hb ho4; have hcv5 := own_string (P := Tryz.prog) Tryz.underlying90 Tryz.underlying5 Tryz.underlying9 (Kd.own_of_R HO233.out)))
    go_ret
    exact ⟨by first | rfl | (simp [errW_none, errW_some] <;> rfl) | (simp [*, errW_none, errW_some] <;> rfl), by repeat (first | (with_reducible first | exact HB.out | apply below_alloc | apply pw_below_drewN | apply below_drew1) | exact HB.out)⟩
  · rw [if_neg c2] at H
    have c2b0 : decide (a0 < 10) = false := decide_eq_false c2
    clear c2
    replace H := Option.bind_eq_some_iff.mp H
    obtain ⟨t234, A60, H⟩ := H
    replace H : ((castellanref3_Dec.f k (Int.tmod a0 10)).bind fun t235 => (if t234.size + t235.size ≤ 9223372036854775807 then (some (t234 ++ t235)) else (none))) = some r := H
    have A6 := Aside0.mk A60
    clear A60
    replace H := Option.bind_eq_some_iff.mp H
    obtain ⟨t235, A70, H⟩ := H
    replace H : (if t234.size + t235.size ≤ 9223372036854775807 then (some (t234 ++ t235)) else (none)) = some r := H
    have A7 := Aside0.mk A70
    clear A70
    by_cases c8 : t234.size + t235.size ≤ 9223372036854775807
    · rw [if_pos c8] at H
      have c8b0 := eq_true c8
      have c8b1 : decide (t234.size + t235.size ≤ 9223372036854775807) = true := decide_eq_true c8
      try have c8b2 : (9223372036854775807 < t234.size + t235.size) = False := eq_false (Nat.not_lt.2 c8)
      obtain rfl := Option.some.inj H
      go_enter Tryz.func22, Tryz.ntmps22
      go_wp2_with (first | ((with_reducible refine gate_callee (f := 22) rfl ?_); refine goesL_ (some 12) rfl rfl Tryz.func22 (by kernel_rfl) rfl #[.int .i64 (wrap64 (Int.tdiv a0 10))] rfl (by (try simp only [List.map_toArray, List.map_cons, List.map_nil]); first | done | rfl | (simp only [List.length_drop, List.length_take]; rfl)) ?_; (with_reducible refine (ih k (by omega) (wrap64 (Int.tdiv a0 10)) t234 _ A6.out).mono ?_); rintro e w9 ⟨rfl, hb⟩; refine ⟨_, rfl, ?_⟩; have n0_ := Aside0.mk (below_step (by repeat (first | (with_reducible first | exact HB.out | apply below_alloc | apply pw_below_drewN | apply below_drew1) | exact HB.out)) hb); clear HB; have HB := n0_; clear n0_; (try clear hb); (try clear hb2); (try clear hk); (try clear hi)) | ((with_reducible refine gate_callee (f := 22) rfl ?_); refine goesL_ (some 15) rfl rfl Tryz.func22 (by kernel_rfl) rfl #[.int .i64 (Int.tmod a0 10)] rfl (by (try simp only [List.map_toArray, List.map_cons, List.map_nil]); first | done | rfl | (simp only [List.length_drop, List.length_take]; rfl)) ?_; (with_reducible refine (ih k (by omega) (Int.tmod a0 10) t235 _ A7.out).mono ?_); rintro e w10 ⟨rfl, hb⟩; refine ⟨_, rfl, ?_⟩; have n0_ := Aside0.mk (below_step (by repeat (first | (with_reducible first | exact HB.out | apply below_alloc | apply pw_below_drewN | apply below_drew1) | exact HB.out)) hb); clear HB; have HB := n0_; clear n0_; (try clear hb); (try clear hb2); (try clear hk); (try clear hi)))
      go_ret
      exact ⟨by first | rfl | (simp [errW_none, errW_some] <;> rfl) | (simp [*, errW_none, errW_some] <;> rfl), by repeat (first | (with_reducible first | exact HB.out | apply below_alloc | apply pw_below_drewN | apply below_drew1) | exact HB.out)⟩
    · rw [if_neg c8] at H
      exact absurd H (by simp)
def castellanref14_proto.f (k : Nat) (a0 : Int) : Option (ByteArray) := if a0 = 1 then (some (⟨#[105, 99, 109, 112]⟩ : ByteArray)) else (if a0 = 6 then (some (⟨#[116, 99, 112]⟩ : ByteArray)) else (if a0 = 17 then (some (⟨#[117, 100, 112]⟩ : ByteArray)) else ((castellanref3_Dec.f k a0).bind fun t236 => (some t236))))
theorem castellanref14_proto.mono : ∀ a0 k, LeO (castellanref14_proto.f k a0) (castellanref14_proto.f (k + 1) a0) := by
  intro a0 k
  unfold castellanref14_proto.f
  repeat' first
      | (with_reducible exact castellanref3_Dec.mono _ _)
      | (with_reducible exact LeO.refl _)
      | (with_reducible exact LeO.none _)
      | (with_reducible refine LeO.ite ?_ ?_)
      | (with_reducible refine LeO.bind ?_ (fun _ => ?_))
      | exact castellanref3_Dec.mono _ _
      | exact LeO.none _
      | refine LeO.ite ?_ ?_
      | refine LeO.bind ?_ (fun _ => ?_)
set_option maxHeartbeats 8000000 in
set_option maxRecDepth 100000 in
theorem castellanref14_proto.calls (k : Nat) (a0 : Int) (r : ByteArray) (w : World) (h : castellanref14_proto.f k a0 = some r) :
    Calls Tryz.prog 63 #[.int .i64 a0] w fun e w' => e = .returned (.string r) ∧ Below w.heap.size w w' := by
  have HB := Aside0.mk (Below.refl w.heap.size w)
  have H : (if a0 = 1 then (some (⟨#[105, 99, 109, 112]⟩ : ByteArray)) else (if a0 = 6 then (some (⟨#[116, 99, 112]⟩ : ByteArray)) else (if a0 = 17 then (some (⟨#[117, 100, 112]⟩ : ByteArray)) else ((castellanref3_Dec.f k a0).bind fun t236 => (some t236))))) = some r := h
  clear h
  by_cases c2 : a0 = 1
  · rw [if_pos c2] at H
    have c2b0 : (a0 == 1) = true := beq_iff_eq.mpr c2
    have c2b1 : (a0 != 1) = false := bne_eq_false_iff_eq.mpr c2
    clear c2
    obtain rfl := Option.some.inj H
    go_enter Tryz.func63, Tryz.ntmps63
    go_wp2
    go_ret
    exact ⟨by first | rfl | (simp [errW_none, errW_some] <;> rfl) | (simp [*, errW_none, errW_some] <;> rfl), by repeat (first | (with_reducible first | exact HB.out | apply below_alloc | apply pw_below_drewN | apply below_drew1) | exact HB.out)⟩
  · rw [if_neg c2] at H
    have c2b0 : (a0 == 1) = false := beq_eq_false_iff_ne.mpr c2
    have c2b1 : (a0 != 1) = true := bne_iff_ne.mpr c2
    by_cases c3 : a0 = 6
    · rw [if_pos c3] at H
      have c3b0 : (a0 == 6) = true := beq_iff_eq.mpr c3
      have c3b1 : (a0 != 6) = false := bne_eq_false_iff_eq.mpr c3
      clear c3
      obtain rfl := Option.some.inj H
      go_enter Tryz.func63, Tryz.ntmps63
      go_wp2
      go_ret
      exact ⟨by first | rfl | (simp [errW_none, errW_some] <;> rfl) | (simp [*, errW_none, errW_some] <;> rfl), by repeat (first | (with_reducible first | exact HB.out | apply below_alloc | apply pw_below_drewN | apply below_drew1) | exact HB.out)⟩
    · rw [if_neg c3] at H
      have c3b0 : (a0 == 6) = false := beq_eq_false_iff_ne.mpr c3
      have c3b1 : (a0 != 6) = true := bne_iff_ne.mpr c3
      by_cases c4 : a0 = 17
      · rw [if_pos c4] at H
        have c4b0 : (a0 == 17) = true := beq_iff_eq.mpr c4
        have c4b1 : (a0 != 17) = false := bne_eq_false_iff_eq.mpr c4
        clear c4
        obtain rfl := Option.some.inj H
        go_enter Tryz.func63, Tryz.ntmps63
        go_wp2
        go_ret
        exact ⟨by first | rfl | (simp [errW_none, errW_some] <;> rfl) | (simp [*, errW_none, errW_some] <;> rfl), by repeat (first | (with_reducible first | exact HB.out | apply below_alloc | apply pw_below_drewN | apply below_drew1) | exact HB.out)⟩
      · rw [if_neg c4] at H
        have c4b0 : (a0 == 17) = false := beq_eq_false_iff_ne.mpr c4
        have c4b1 : (a0 != 17) = true := bne_iff_ne.mpr c4
        replace H := Option.bind_eq_some_iff.mp H
        obtain ⟨t236, A50, H⟩ := H
        replace H : (some t236) = some r := H
        have A5 := Aside0.mk A50
        clear A50
        obtain rfl := Option.some.inj H
        go_enter Tryz.func63, Tryz.ntmps63
        go_wp2_with (first | ((with_reducible refine gate_callee (f := 22) rfl ?_); refine goesL_ (some 11) rfl rfl Tryz.func22 (by kernel_rfl) rfl #[.int .i64 a0] rfl (by (try simp only [List.map_toArray, List.map_cons, List.map_nil]); first | done | rfl | (simp only [List.length_drop, List.length_take]; rfl)) ?_; (with_reducible refine (castellanref3_Dec.calls k a0 t236 _ A5.out).mono ?_); rintro e w6 ⟨rfl, hb⟩; refine ⟨_, rfl, ?_⟩; have n0_ := Aside0.mk (below_step (by repeat (first | (with_reducible first | exact HB.out | apply below_alloc | apply pw_below_drewN | apply below_drew1) | exact HB.out)) hb); clear HB; have HB := n0_; clear n0_; (try clear hb); (try clear hb2); (try clear hk); (try clear hi)))
        go_ret
        exact ⟨by first | rfl | (simp [errW_none, errW_some] <;> rfl) | (simp [*, errW_none, errW_some] <;> rfl), by repeat (first | (with_reducible first | exact HB.out | apply below_alloc | apply pw_below_drewN | apply below_drew1) | exact HB.out)⟩
def castellanref14_letters.l0 : Nat → Int → ByteArray → Int → Option (ByteArray)
  | 0, _, _, _ => none
  | k + 1, x0, x3, x4 => if x4 < 6 then (if 0 ≤ (IntKind.u64.wrap (x4)) then (if (Go.bits .and .i64 (shr .i64 x0 (IntKind.u64.wrap (x4))) 1) = 1 then (if 0 ≤ x4 then (if x4 ≤ (wrap64 (x4 + 1)) then (if (wrap64 (x4 + 1)) ≤ 6 then (if x3.size + ((⟨#[70, 83, 82, 80, 65, 85]⟩ : ByteArray).extract (x4 : Int).toNat ((wrap64 (x4 + 1)) : Int).toNat).size ≤ 9223372036854775807 then (castellanref14_letters.l0 k x0 (x3 ++ ((⟨#[70, 83, 82, 80, 65, 85]⟩ : ByteArray).extract (x4 : Int).toNat ((wrap64 (x4 + 1)) : Int).toNat)) (wrap64 (x4 + 1))) else (none)) else (none)) else (none)) else (none)) else (castellanref14_letters.l0 k x0 x3 (wrap64 (x4 + 1)))) else (none)) else (if x3.toList = ([] : List UInt8) then (some (⟨#[45]⟩ : ByteArray)) else (some x3))
def castellanref14_letters.f (k : Nat) (a0 : Int) : Option (ByteArray) := castellanref14_letters.l0 k a0 (⟨#[]⟩ : ByteArray) 0
theorem castellanref14_letters.mono_l : ∀ k, (∀ y0 y1 y2, LeO (castellanref14_letters.l0 k y0 y1 y2) (castellanref14_letters.l0 (k + 1) y0 y1 y2))
  | 0 => fun _ _ _ r h => by simp [castellanref14_letters.l0] at h
  | k + 1 => by
    have ih0 := castellanref14_letters.mono_l k
    · intro y0 y1 y2
      unfold castellanref14_letters.l0
      repeat' first
      | (with_reducible exact ih0 _ _ _)
      | (with_reducible exact LeO.refl _)
      | (with_reducible exact LeO.none _)
      | (with_reducible refine LeO.ite ?_ ?_)
      | (with_reducible refine LeO.bind ?_ (fun _ => ?_))
      | exact ih0 _ _ _
      | exact LeO.none _
      | refine LeO.ite ?_ ?_
      | refine LeO.bind ?_ (fun _ => ?_)
theorem castellanref14_letters.mono : ∀ a0 k, LeO (castellanref14_letters.f k a0) (castellanref14_letters.f (k + 1) a0) := by
  intro a0 k
  have ih0 := castellanref14_letters.mono_l k
  unfold castellanref14_letters.f
  repeat' first
      | (with_reducible exact ih0 _ _ _)
      | (with_reducible exact LeO.refl _)
      | (with_reducible exact LeO.none _)
      | (with_reducible refine LeO.ite ?_ ?_)
      | (with_reducible refine LeO.bind ?_ (fun _ => ?_))
      | exact ih0 _ _ _
      | exact LeO.none _
      | refine LeO.ite ?_ ?_
      | refine LeO.bind ?_ (fun _ => ?_)
set_option maxHeartbeats 8000000 in
set_option maxRecDepth 100000 in
theorem castellanref14_letters.calls (k : Nat) (a0 : Int) (r : ByteArray) (w : World) (h : castellanref14_letters.f k a0 = some r) :
    Calls Tryz.prog 65 #[.int .i64 a0] w fun e w' => e = .returned (.string r) ∧ Drawn0 w w' := by
  have H : (castellanref14_letters.l0 k a0 (⟨#[]⟩ : ByteArray) 0) = some r := h
  clear h
  have H' := Aside0.mk H
  clear H
  go_enter Tryz.func65, Tryz.ntmps65
  go_wp2
  go_loopg [3, 4] k (fun kq v3 v4 w' => ∃ (x3_1 : ByteArray) (x4_1 : Int), v3 = .string x3_1 ∧ v4 = .int .i64 x4_1 ∧ Aside0 (castellanref14_letters.l0 kq a0 x3_1 x4_1 = some r) ∧ Aside0 (kq ≤ k) ∧ Drawn0 w w')
  case atStart => exact ⟨((⟨#[]⟩ : ByteArray)), (0), (by first | rfl | (simp; done) | (simp [*]; done)), (by first | rfl | (simp; done) | (simp [*]; done)), H', ⟨Nat.le_refl _⟩, by repeat (first | exact Drawn0.refl _ | apply Drawn0.step)⟩
  case round =>
    clear H'
    obtain ⟨x3_1, x4_1, rfl, rfl, HA, HK1, ⟨m1, rfl⟩⟩ := hrel
    cases gk with
    | zero => exact absurd HA.out (by simp [castellanref14_letters.l0])
    | succ k1 =>
      have H := HA.out
      clear HA
      simp only [castellanref14_letters.l0] at H
      by_cases c2 : x4_1 < 6
      · rw [if_pos c2] at H
        have c2b0 : decide (x4_1 < 6) = true := decide_eq_true c2
        clear c2
        obtain ⟨ji3, hji3⟩ : ∃ j_ : Int, (IntKind.u64.wrap (x4_1)) = j_ := ⟨_, rfl⟩
        replace H : (if 0 ≤ (ji3) then (if (Go.bits .and .i64 (shr .i64 a0 (ji3)) 1) = 1 then (if 0 ≤ x4_1 then (if x4_1 ≤ (wrap64 (x4_1 + 1)) then (if (wrap64 (x4_1 + 1)) ≤ 6 then (if x3_1.size + ((⟨#[70, 83, 82, 80, 65, 85]⟩ : ByteArray).extract (x4_1 : Int).toNat ((wrap64 (x4_1 + 1)) : Int).toNat).size ≤ 9223372036854775807 then (castellanref14_letters.l0 k1 a0 (x3_1 ++ ((⟨#[70, 83, 82, 80, 65, 85]⟩ : ByteArray).extract (x4_1 : Int).toNat ((wrap64 (x4_1 + 1)) : Int).toNat)) (wrap64 (x4_1 + 1))) else (none)) else (none)) else (none)) else (none)) else (castellanref14_letters.l0 k1 a0 x3_1 (wrap64 (x4_1 + 1)))) else (none)) = some r := by first | (rw [hji3] at H; exact H) | (simp only [hji3] at H ⊢; exact H)
        by_cases c4 : 0 ≤ (ji3)
        · rw [if_pos c4] at H
          have c4b0 := eq_true c4
          have c4b1 : decide (0 ≤ (ji3)) = true := decide_eq_true c4
          clear c4
          obtain ⟨ji5, hji5⟩ : ∃ j_ : Int, (shr .i64 a0 (ji3)) = j_ := ⟨_, rfl⟩
          replace H : (if (Go.bits .and .i64 (ji5) 1) = 1 then (if 0 ≤ x4_1 then (if x4_1 ≤ (wrap64 (x4_1 + 1)) then (if (wrap64 (x4_1 + 1)) ≤ 6 then (if x3_1.size + ((⟨#[70, 83, 82, 80, 65, 85]⟩ : ByteArray).extract (x4_1 : Int).toNat ((wrap64 (x4_1 + 1)) : Int).toNat).size ≤ 9223372036854775807 then (castellanref14_letters.l0 k1 a0 (x3_1 ++ ((⟨#[70, 83, 82, 80, 65, 85]⟩ : ByteArray).extract (x4_1 : Int).toNat ((wrap64 (x4_1 + 1)) : Int).toNat)) (wrap64 (x4_1 + 1))) else (none)) else (none)) else (none)) else (none)) else (castellanref14_letters.l0 k1 a0 x3_1 (wrap64 (x4_1 + 1)))) = some r := by first | (rw [hji5] at H; exact H) | (simp only [hji5] at H ⊢; exact H)
          have hji5_ : (a0 / 2 ^ min (ji3).toNat 64) = ji5 := hji5
          have hji5z : (ji3) ≤ 64 → (a0 / 2 ^ (ji3).toNat) = ji5 := shr_small hji5
          by_cases c6 : (Go.bits .and .i64 (ji5) 1) = 1
          · rw [if_pos c6] at H
            have c6b0 : ((Go.bits .and .i64 (ji5) 1) == 1) = true := beq_iff_eq.mpr c6
            have c6b1 : ((Go.bits .and .i64 (ji5) 1) != 1) = false := bne_eq_false_iff_eq.mpr c6
            clear c6
            by_cases c7 : 0 ≤ x4_1
            · rw [if_pos c7] at H
              have c7b0 := eq_true c7
              have c7b1 : decide (0 ≤ x4_1) = true := decide_eq_true c7
              clear c7
              by_cases c8 : x4_1 ≤ (wrap64 (x4_1 + 1))
              · rw [if_pos c8] at H
                have c8b0 := eq_true c8
                have c8b1 : decide (x4_1 ≤ (wrap64 (x4_1 + 1))) = true := decide_eq_true c8
                by_cases c9 : (wrap64 (x4_1 + 1)) ≤ 6
                · rw [if_pos c9] at H
                  have c9b0 := eq_true c9
                  have c9b1 : decide ((wrap64 (x4_1 + 1)) ≤ 6) = true := decide_eq_true c9
                  by_cases c10 : x3_1.size + ((⟨#[70, 83, 82, 80, 65, 85]⟩ : ByteArray).extract (x4_1 : Int).toNat ((wrap64 (x4_1 + 1)) : Int).toNat).size ≤ 9223372036854775807
                  · rw [if_pos c10] at H
                    have c10b0 := eq_true c10
                    have c10b1 : decide (x3_1.size + ((⟨#[70, 83, 82, 80, 65, 85]⟩ : ByteArray).extract (x4_1 : Int).toNat ((wrap64 (x4_1 + 1)) : Int).toNat).size ≤ 9223372036854775807) = true := decide_eq_true c10
                    try have c10b2 : (9223372036854775807 < x3_1.size + ((⟨#[70, 83, 82, 80, 65, 85]⟩ : ByteArray).extract (x4_1 : Int).toNat ((wrap64 (x4_1 + 1)) : Int).toNat).size) = False := eq_false (Nat.not_lt.2 c10)
                    have H' := Aside0.mk H
                    clear H
                    go_wp2
                    go_roundg k1
                    case measure => have := HK1.out; omega
                    case rel => exact ⟨(x3_1 ++ ((⟨#[70, 83, 82, 80, 65, 85]⟩ : ByteArray).extract (x4_1 : Int).toNat ((wrap64 (x4_1 + 1)) : Int).toNat)), (wrap64 (x4_1 + 1)), (by first | rfl | (simp; done) | (simp [*]; done)), (by first | rfl | (simp; done) | (simp [*]; done)), H', ⟨by have := HK1.out; omega⟩, by repeat (first | exact Drawn0.refl _ | apply Drawn0.step)⟩
                  · rw [if_neg c10] at H
                    exact absurd H (by simp)
                · rw [if_neg c9] at H
                  exact absurd H (by simp)
              · rw [if_neg c8] at H
                exact absurd H (by simp)
            · rw [if_neg c7] at H
              exact absurd H (by simp)
          · rw [if_neg c6] at H
            have c6b0 : ((Go.bits .and .i64 (ji5) 1) == 1) = false := beq_eq_false_iff_ne.mpr c6
            have c6b1 : ((Go.bits .and .i64 (ji5) 1) != 1) = true := bne_iff_ne.mpr c6
            have H' := Aside0.mk H
            clear H
            go_wp2
            go_roundg k1
            case measure => have := HK1.out; omega
            case rel => exact ⟨(x3_1), (wrap64 (x4_1 + 1)), (by first | rfl | (simp; done) | (simp [*]; done)), (by first | rfl | (simp; done) | (simp [*]; done)), H', ⟨by have := HK1.out; omega⟩, by repeat (first | exact Drawn0.refl _ | apply Drawn0.step)⟩
        · rw [if_neg c4] at H
          exact absurd H (by simp)
      · rw [if_neg c2] at H
        have c2b0 : decide (x4_1 < 6) = false := decide_eq_false c2
        clear c2
        by_cases c11 : x3_1.toList = ([] : List UInt8)
        · rw [if_pos c11] at H
          have c11b0 : (x3_1.toList == ([] : List UInt8)) = true := beq_iff_eq.mpr c11
          have c11b1 : (x3_1.toList != ([] : List UInt8)) = false := bne_eq_false_iff_eq.mpr c11
          clear c11
          obtain rfl := Option.some.inj H
          go_wp2
          go_ret
          exact ⟨by first | rfl | (simp; done) | (simp [*]; done), by repeat (first | exact Drawn0.refl _ | apply Drawn0.step)⟩
        · rw [if_neg c11] at H
          have c11b0 : (x3_1.toList == ([] : List UInt8)) = false := beq_eq_false_iff_ne.mpr c11
          have c11b1 : (x3_1.toList != ([] : List UInt8)) = true := bne_iff_ne.mpr c11
          obtain rfl := Option.some.inj H
          go_wp2
          go_ret
          exact ⟨by first | rfl | (simp; done) | (simp [*]; done), by repeat (first | exact Drawn0.refl _ | apply Drawn0.step)⟩
end Go.Proofs.YtomkohdlaednhaaGreatDoor.PConfParses
end
