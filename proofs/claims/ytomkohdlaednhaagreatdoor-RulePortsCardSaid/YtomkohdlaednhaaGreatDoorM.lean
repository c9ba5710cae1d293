import Derived.Test.YtomkohdlaednhaaGreatDoorL
import Derived.BigFrame
import Derived.Laws.Tables
set_option linter.unusedSimpArgs false
set_option linter.unusedVariables false
namespace Go.Proofs.YtomkohdlaednhaaGreatDoor
open Go.RowKit Go.Proofs.YtomkohdlaednhaaGreatDoorW.PrintWords

theorem rule_cells {w : World} {n : Nat} {r : RuleV} (h : w.heap[n]? = some (ruleBlk r)) : w.cell? ⟨n, 0, none⟩ = some (.bool r.pass) ∧ w.cell? ⟨n, 1, none⟩ = some (.bool r.ret) ∧ w.cell? ⟨n, 3, none⟩ = some (.string r.on) ∧ w.cell? ⟨n, 4, none⟩ = some (.int .i64 r.proto) ∧ w.cell? ⟨n, 5, none⟩ = some (.bool r.src.any) ∧ w.cell? ⟨n, 6, none⟩ = some (.string r.src.table) ∧ w.cell? ⟨n, 7, none⟩ = some (.int .u32 r.src.addr) ∧ w.cell? ⟨n, 8, none⟩ = some (.int .i64 r.src.len) ∧ w.cell? ⟨n, 9, none⟩ = some (.int .i64 r.src.low) ∧ w.cell? ⟨n, 10, none⟩ = some (.int .i64 r.src.high) ∧ w.cell? ⟨n, 11, none⟩ = some (.bool r.dst.any) ∧ w.cell? ⟨n, 12, none⟩ = some (.string r.dst.table) ∧ w.cell? ⟨n, 13, none⟩ = some (.int .u32 r.dst.addr) ∧ w.cell? ⟨n, 14, none⟩ = some (.int .i64 r.dst.len) ∧ w.cell? ⟨n, 15, none⟩ = some (.int .i64 r.dst.low) ∧ w.cell? ⟨n, 16, none⟩ = some (.int .i64 r.dst.high) ∧ w.cell? ⟨n, 21, none⟩ = some (.bool r.route.on) ∧ w.cell? ⟨n, 22, none⟩ = some (.string r.route.iface) ∧ w.cell? ⟨n, 23, none⟩ = some (.int .u32 r.route.gate) ∧ w.cell? ⟨n, 24, none⟩ = some (.bool r.reply.on) ∧ w.cell? ⟨n, 25, none⟩ = some (.string r.reply.iface) ∧ w.cell? ⟨n, 26, none⟩ = some (.int .u32 r.reply.gate) ∧ w.cell? ⟨n, 27, none⟩ = some (.int .i64 r.table) :=
  ⟨(blk_cell h 0).trans rfl, (blk_cell h 1).trans rfl, (blk_cell h 3).trans rfl, (blk_cell h 4).trans rfl, (blk_cell h 5).trans rfl, (blk_cell h 6).trans rfl, (blk_cell h 7).trans rfl, (blk_cell h 8).trans rfl, (blk_cell h 9).trans rfl, (blk_cell h 10).trans rfl, (blk_cell h 11).trans rfl, (blk_cell h 12).trans rfl, (blk_cell h 13).trans rfl, (blk_cell h 14).trans rfl, (blk_cell h 15).trans rfl, (blk_cell h 16).trans rfl, (blk_cell h 21).trans rfl, (blk_cell h 22).trans rfl, (blk_cell h 23).trans rfl, (blk_cell h 24).trans rfl, (blk_cell h 25).trans rfl, (blk_cell h 26).trans rfl, (blk_cell h 27).trans rfl⟩
def passB (r : RuleV) : Bool := r.pass || (!r.keep && !r.route.on && !r.reply.on && r.table == 0)
theorem passB_eq (r : RuleV) : PConfParses.rule_isPass.f r.pass r.ret r.quick r.on r.proto r.src.any r.src.table r.src.addr r.src.len r.src.low r.src.high r.dst.any r.dst.table r.dst.addr r.dst.len r.dst.low r.dst.high r.set r.mask r.type r.keep r.route.on r.route.iface r.route.gate r.reply.on r.reply.iface r.reply.gate r.table = some (passB r) := by
  unfold PConfParses.rule_isPass.f passB
  cases r.pass <;> cases r.keep <;> cases r.route.on <;> cases r.reply.on <;> simp
theorem isPass_calls (r : RuleV) (w : World) :
    Calls Tryz.prog 59 #[r.val] w fun e w' => e = .returned (.bool (passB r)) ∧ Grows w w' :=
  PConfParses.rule_isPass.calls r.pass r.ret r.quick r.on r.proto r.src.any r.src.table r.src.addr r.src.len r.src.low r.src.high r.dst.any r.dst.table r.dst.addr r.dst.len r.dst.low r.dst.high r.set r.mask r.type r.keep r.route.on r.route.iface r.route.gate r.reply.on r.reply.iface r.reply.gate r.table _ w (passB_eq r)
def isB (r : RuleV) : Bool := !(r.ret && r.pass) && passB r && (emptyB r.on || nameB r.on) && lookB r && sideB r.src r.proto && sideB r.dst r.proto && pinB r.route && pinB r.reply && decide (0 ≤ r.table) && decide (r.table < 4)
set_option maxHeartbeats 4000000 in
set_option maxRecDepth 100000 in
theorem is_calls' (r : RuleV) (w : World) :
    Calls Tryz.prog 21 #[r.val] w fun e w' => e = .returned (.bool (isB r)) ∧ Grows w w' := by
  have he : r.val = .agg r.cells := rfl
  rw [he, RuleV.cells]
  clear he
  have hR : Hid (isB r = (!(r.ret && r.pass) && passB r && (emptyB r.on || nameB r.on) && lookB r && sideB r.src r.proto && sideB r.dst r.proto && pinB r.route && pinB r.reply && decide (0 ≤ r.table) && decide (r.table < 4))) := Lib.hid rfl
  obtain ⟨n, hn⟩ : ∃ n, n = w.heap.size := ⟨_, rfl⟩
  have HN := Lib.hid hn
  clear hn
  go_enter Tryz.func21, Tryz.ntmps21
  go_upto_region 0 with fail
  go_cut [1, 0] (fun s1 _ wc => s1 = .pointer (some ⟨n, 0, none⟩) ∧ wc.heap[n]? = some (ruleBlk r) ∧ Grows w wc)
  case first =>
    go_wp2_with fail
    go_meet
    exact ⟨by rw [HN.out], by rw [HN.out]; exact heap_alloc_new w (ruleBlk r), below_alloc (Below.refl _ _) _⟩
  case rest =>
    obtain ⟨rfl, hg, hw⟩ := hcut
    obtain ⟨c0, c1, c3, c4, c5, c6, c7, c8, c9, c10, c11, c12, c13, c14, c15, c16, c21, c22, c23, c24, c25, c26, c27⟩ := rule_cells hg
    have HG := Lib.hid hg
    have HW := Lib.hid hw
    clear hg hw
    cases h0 : r.ret with
    | true =>
      cases h1 : r.pass with
      | true =>
        go_wp2_with fail
        go_ret
        exact ⟨ret_bool (by rw [hR.out]; simp [*]), HW.out⟩
      | false =>
        go_wp2_with (refine Go.BigFrame.wpList_want (by go_simp) fun K hK => wp_load_row 32 (.tmp 1) rfl n rfl 32 r.cells (0, 0) _ HG.out Tryz.underlying32 rfl (by kernel_rfl) (hK _ _ ?_))
        refine (isPass_calls r _).mono ?_
        rintro e w2 ⟨rfl, hb⟩
        have hg := blkG HG.out hb
        have HW := Lib.hid (below_then HW.out HW.out.size hb)
        clear hb c0 c1 c3 c4 c5 c6 c7 c8 c9 c10 c11 c12 c13 c14 c15 c16 c21 c22 c23 c24 c25 c26 c27
        obtain ⟨c0, c1, c3, c4, c5, c6, c7, c8, c9, c10, c11, c12, c13, c14, c15, c16, c21, c22, c23, c24, c25, c26, c27⟩ := rule_cells hg
        have HG := Lib.hid hg
        clear hg
        cases hP : passB r with
        | false =>
          go_wp2_with fail
          go_ret
          exact ⟨ret_bool (by rw [hR.out]; simp [*]), HW.out⟩
        | true =>
          skip
          cases hE : emptyB r.on with
          | true =>
            have hEa := hE
            simp only [emptyB] at hEa
            go_wp2_with (refine Go.BigFrame.wpList_want (by go_simp) fun K hK => wp_load_row 32 (.tmp 1) rfl n rfl 32 r.cells (0, 0) _ HG.out Tryz.underlying32 rfl (by kernel_rfl) (hK _ _ ?_))
            refine (isLook_calls r _).mono ?_
            rintro e w5 ⟨rfl, hb⟩
            have hg := blkG HG.out hb
            have HW := Lib.hid (below_then HW.out HW.out.size hb)
            clear hb c0 c1 c3 c4 c5 c6 c7 c8 c9 c10 c11 c12 c13 c14 c15 c16 c21 c22 c23 c24 c25 c26 c27
            obtain ⟨c0, c1, c3, c4, c5, c6, c7, c8, c9, c10, c11, c12, c13, c14, c15, c16, c21, c22, c23, c24, c25, c26, c27⟩ := rule_cells hg
            have HG := Lib.hid hg
            clear hg
            cases hL : lookB r with
            | false =>
              go_wp2_with fail
              go_ret
              exact ⟨ret_bool (by rw [hR.out]; simp [*]), HW.out⟩
            | true =>
              go_wp2_with fail
              refine (isSide_calls r.src r.proto _).mono ?_
              rintro e w6 ⟨rfl, hb⟩
              have hg := blkG HG.out hb
              have HW := Lib.hid (below_then HW.out HW.out.size hb)
              clear hb c0 c1 c3 c4 c5 c6 c7 c8 c9 c10 c11 c12 c13 c14 c15 c16 c21 c22 c23 c24 c25 c26 c27
              obtain ⟨c0, c1, c3, c4, c5, c6, c7, c8, c9, c10, c11, c12, c13, c14, c15, c16, c21, c22, c23, c24, c25, c26, c27⟩ := rule_cells hg
              have HG := Lib.hid hg
              clear hg
              cases hS : sideB r.src r.proto with
              | false =>
                go_wp2_with fail
                go_ret
                exact ⟨ret_bool (by rw [hR.out]; simp [*]), HW.out⟩
              | true =>
                go_wp2_with fail
                refine (isSide_calls r.dst r.proto _).mono ?_
                rintro e w7 ⟨rfl, hb⟩
                have hg := blkG HG.out hb
                have HW := Lib.hid (below_then HW.out HW.out.size hb)
                clear hb c0 c1 c3 c4 c5 c6 c7 c8 c9 c10 c11 c12 c13 c14 c15 c16 c21 c22 c23 c24 c25 c26 c27
                obtain ⟨c0, c1, c3, c4, c5, c6, c7, c8, c9, c10, c11, c12, c13, c14, c15, c16, c21, c22, c23, c24, c25, c26, c27⟩ := rule_cells hg
                have HG := Lib.hid hg
                clear hg
                cases hD : sideB r.dst r.proto with
                | false =>
                  go_wp2_with fail
                  go_ret
                  exact ⟨ret_bool (by rw [hR.out]; simp [*]), HW.out⟩
                | true =>
                  go_wp2_with fail
                  refine (isPin_calls r.route _).mono ?_
                  rintro e w8 ⟨rfl, hb⟩
                  have hg := blkG HG.out hb
                  have HW := Lib.hid (below_then HW.out HW.out.size hb)
                  clear hb c0 c1 c3 c4 c5 c6 c7 c8 c9 c10 c11 c12 c13 c14 c15 c16 c21 c22 c23 c24 c25 c26 c27
                  obtain ⟨c0, c1, c3, c4, c5, c6, c7, c8, c9, c10, c11, c12, c13, c14, c15, c16, c21, c22, c23, c24, c25, c26, c27⟩ := rule_cells hg
                  have HG := Lib.hid hg
                  clear hg
                  cases hA : pinB r.route with
                  | false =>
                    go_wp2_with fail
                    go_ret
                    exact ⟨ret_bool (by rw [hR.out]; simp [*]), HW.out⟩
                  | true =>
                    go_wp2_with fail
                    refine (isPin_calls r.reply _).mono ?_
                    rintro e w9 ⟨rfl, hb⟩
                    have hg := blkG HG.out hb
                    have HW := Lib.hid (below_then HW.out HW.out.size hb)
                    clear hb c0 c1 c3 c4 c5 c6 c7 c8 c9 c10 c11 c12 c13 c14 c15 c16 c21 c22 c23 c24 c25 c26 c27
                    obtain ⟨c0, c1, c3, c4, c5, c6, c7, c8, c9, c10, c11, c12, c13, c14, c15, c16, c21, c22, c23, c24, c25, c26, c27⟩ := rule_cells hg
                    have HG := Lib.hid hg
                    clear hg
                    cases hB : pinB r.reply with
                    | false =>
                      go_wp2_with fail
                      go_ret
                      exact ⟨ret_bool (by rw [hR.out]; simp [*]), HW.out⟩
                    | true =>
                      go_wp2_with fail
                      all_goals go_ret
                      all_goals exact ⟨ret_bool (by rw [hR.out]; first | (simp [*]; done) | (simp [*]; omega)), HW.out⟩
          | false =>
            have hEa := hE
            simp only [emptyB] at hEa
            go_wp2_with fail
            refine (name_calls r.on _).mono ?_
            rintro e w3 ⟨rfl, hb⟩
            have hg := blkG HG.out hb
            have HW := Lib.hid (below_then HW.out HW.out.size hb)
            clear hb c0 c1 c3 c4 c5 c6 c7 c8 c9 c10 c11 c12 c13 c14 c15 c16 c21 c22 c23 c24 c25 c26 c27
            obtain ⟨c0, c1, c3, c4, c5, c6, c7, c8, c9, c10, c11, c12, c13, c14, c15, c16, c21, c22, c23, c24, c25, c26, c27⟩ := rule_cells hg
            have HG := Lib.hid hg
            clear hg
            cases hN : nameB r.on with
            | false =>
              go_wp2_with fail
              go_ret
              exact ⟨ret_bool (by rw [hR.out]; simp [*]), HW.out⟩
            | true =>
              go_wp2_with (refine Go.BigFrame.wpList_want (by go_simp) fun K hK => wp_load_row 32 (.tmp 1) rfl n rfl 32 r.cells (0, 0) _ HG.out Tryz.underlying32 rfl (by kernel_rfl) (hK _ _ ?_))
              refine (isLook_calls r _).mono ?_
              rintro e w5 ⟨rfl, hb⟩
              have hg := blkG HG.out hb
              have HW := Lib.hid (below_then HW.out HW.out.size hb)
              clear hb c0 c1 c3 c4 c5 c6 c7 c8 c9 c10 c11 c12 c13 c14 c15 c16 c21 c22 c23 c24 c25 c26 c27
              obtain ⟨c0, c1, c3, c4, c5, c6, c7, c8, c9, c10, c11, c12, c13, c14, c15, c16, c21, c22, c23, c24, c25, c26, c27⟩ := rule_cells hg
              have HG := Lib.hid hg
              clear hg
              cases hL : lookB r with
              | false =>
                go_wp2_with fail
                go_ret
                exact ⟨ret_bool (by rw [hR.out]; simp [*]), HW.out⟩
              | true =>
                go_wp2_with fail
                refine (isSide_calls r.src r.proto _).mono ?_
                rintro e w6 ⟨rfl, hb⟩
                have hg := blkG HG.out hb
                have HW := Lib.hid (below_then HW.out HW.out.size hb)
                clear hb c0 c1 c3 c4 c5 c6 c7 c8 c9 c10 c11 c12 c13 c14 c15 c16 c21 c22 c23 c24 c25 c26 c27
                obtain ⟨c0, c1, c3, c4, c5, c6, c7, c8, c9, c10, c11, c12, c13, c14, c15, c16, c21, c22, c23, c24, c25, c26, c27⟩ := rule_cells hg
                have HG := Lib.hid hg
                clear hg
                cases hS : sideB r.src r.proto with
                | false =>
                  go_wp2_with fail
                  go_ret
                  exact ⟨ret_bool (by rw [hR.out]; simp [*]), HW.out⟩
                | true =>
                  go_wp2_with fail
                  refine (isSide_calls r.dst r.proto _).mono ?_
                  rintro e w7 ⟨rfl, hb⟩
                  have hg := blkG HG.out hb
                  have HW := Lib.hid (below_then HW.out HW.out.size hb)
                  clear hb c0 c1 c3 c4 c5 c6 c7 c8 c9 c10 c11 c12 c13 c14 c15 c16 c21 c22 c23 c24 c25 c26 c27
                  obtain ⟨c0, c1, c3, c4, c5, c6, c7, c8, c9, c10, c11, c12, c13, c14, c15, c16, c21, c22, c23, c24, c25, c26, c27⟩ := rule_cells hg
                  have HG := Lib.hid hg
                  clear hg
                  cases hD : sideB r.dst r.proto with
                  | false =>
                    go_wp2_with fail
                    go_ret
                    exact ⟨ret_bool (by rw [hR.out]; simp [*]), HW.out⟩
                  | true =>
                    go_wp2_with fail
                    refine (isPin_calls r.route _).mono ?_
                    rintro e w8 ⟨rfl, hb⟩
                    have hg := blkG HG.out hb
                    have HW := Lib.hid (below_then HW.out HW.out.size hb)
                    clear hb c0 c1 c3 c4 c5 c6 c7 c8 c9 c10 c11 c12 c13 c14 c15 c16 c21 c22 c23 c24 c25 c26 c27
                    obtain ⟨c0, c1, c3, c4, c5, c6, c7, c8, c9, c10, c11, c12, c13, c14, c15, c16, c21, c22, c23, c24, c25, c26, c27⟩ := rule_cells hg
                    have HG := Lib.hid hg
                    clear hg
                    cases hA : pinB r.route with
                    | false =>
                      go_wp2_with fail
                      go_ret
                      exact ⟨ret_bool (by rw [hR.out]; simp [*]), HW.out⟩
                    | true =>
                      go_wp2_with fail
                      refine (isPin_calls r.reply _).mono ?_
                      rintro e w9 ⟨rfl, hb⟩
                      have hg := blkG HG.out hb
                      have HW := Lib.hid (below_then HW.out HW.out.size hb)
                      clear hb c0 c1 c3 c4 c5 c6 c7 c8 c9 c10 c11 c12 c13 c14 c15 c16 c21 c22 c23 c24 c25 c26 c27
                      obtain ⟨c0, c1, c3, c4, c5, c6, c7, c8, c9, c10, c11, c12, c13, c14, c15, c16, c21, c22, c23, c24, c25, c26, c27⟩ := rule_cells hg
                      have HG := Lib.hid hg
                      clear hg
                      cases hB : pinB r.reply with
                      | false =>
                        go_wp2_with fail
                        go_ret
                        exact ⟨ret_bool (by rw [hR.out]; simp [*]), HW.out⟩
                      | true =>
                        go_wp2_with fail
                        all_goals go_ret
                        all_goals exact ⟨ret_bool (by rw [hR.out]; first | (simp [*]; done) | (simp [*]; omega)), HW.out⟩
    | false =>
      go_wp2_with (refine Go.BigFrame.wpList_want (by go_simp) fun K hK => wp_load_row 32 (.tmp 1) rfl n rfl 32 r.cells (0, 0) _ HG.out Tryz.underlying32 rfl (by kernel_rfl) (hK _ _ ?_))
      refine (isPass_calls r _).mono ?_
      rintro e w2 ⟨rfl, hb⟩
      have hg := blkG HG.out hb
      have HW := Lib.hid (below_then HW.out HW.out.size hb)
      clear hb c0 c1 c3 c4 c5 c6 c7 c8 c9 c10 c11 c12 c13 c14 c15 c16 c21 c22 c23 c24 c25 c26 c27
      obtain ⟨c0, c1, c3, c4, c5, c6, c7, c8, c9, c10, c11, c12, c13, c14, c15, c16, c21, c22, c23, c24, c25, c26, c27⟩ := rule_cells hg
      have HG := Lib.hid hg
      clear hg
      cases hP : passB r with
      | false =>
        go_wp2_with fail
        go_ret
        exact ⟨ret_bool (by rw [hR.out]; simp [*]), HW.out⟩
      | true =>
        skip
        cases hE : emptyB r.on with
        | true =>
          have hEa := hE
          simp only [emptyB] at hEa
          go_wp2_with (refine Go.BigFrame.wpList_want (by go_simp) fun K hK => wp_load_row 32 (.tmp 1) rfl n rfl 32 r.cells (0, 0) _ HG.out Tryz.underlying32 rfl (by kernel_rfl) (hK _ _ ?_))
          refine (isLook_calls r _).mono ?_
          rintro e w5 ⟨rfl, hb⟩
          have hg := blkG HG.out hb
          have HW := Lib.hid (below_then HW.out HW.out.size hb)
          clear hb c0 c1 c3 c4 c5 c6 c7 c8 c9 c10 c11 c12 c13 c14 c15 c16 c21 c22 c23 c24 c25 c26 c27
          obtain ⟨c0, c1, c3, c4, c5, c6, c7, c8, c9, c10, c11, c12, c13, c14, c15, c16, c21, c22, c23, c24, c25, c26, c27⟩ := rule_cells hg
          have HG := Lib.hid hg
          clear hg
          cases hL : lookB r with
          | false =>
            go_wp2_with fail
            go_ret
            exact ⟨ret_bool (by rw [hR.out]; simp [*]), HW.out⟩
          | true =>
            go_wp2_with fail
            refine (isSide_calls r.src r.proto _).mono ?_
            rintro e w6 ⟨rfl, hb⟩
            have hg := blkG HG.out hb
            have HW := Lib.hid (below_then HW.out HW.out.size hb)
            clear hb c0 c1 c3 c4 c5 c6 c7 c8 c9 c10 c11 c12 c13 c14 c15 c16 c21 c22 c23 c24 c25 c26 c27
            obtain ⟨c0, c1, c3, c4, c5, c6, c7, c8, c9, c10, c11, c12, c13, c14, c15, c16, c21, c22, c23, c24, c25, c26, c27⟩ := rule_cells hg
            have HG := Lib.hid hg
            clear hg
            cases hS : sideB r.src r.proto with
            | false =>
              go_wp2_with fail
              go_ret
              exact ⟨ret_bool (by rw [hR.out]; simp [*]), HW.out⟩
            | true =>
              go_wp2_with fail
              refine (isSide_calls r.dst r.proto _).mono ?_
              rintro e w7 ⟨rfl, hb⟩
              have hg := blkG HG.out hb
              have HW := Lib.hid (below_then HW.out HW.out.size hb)
              clear hb c0 c1 c3 c4 c5 c6 c7 c8 c9 c10 c11 c12 c13 c14 c15 c16 c21 c22 c23 c24 c25 c26 c27
              obtain ⟨c0, c1, c3, c4, c5, c6, c7, c8, c9, c10, c11, c12, c13, c14, c15, c16, c21, c22, c23, c24, c25, c26, c27⟩ := rule_cells hg
              have HG := Lib.hid hg
              clear hg
              cases hD : sideB r.dst r.proto with
              | false =>
                go_wp2_with fail
                go_ret
                exact ⟨ret_bool (by rw [hR.out]; simp [*]), HW.out⟩
              | true =>
                go_wp2_with fail
                refine (isPin_calls r.route _).mono ?_
                rintro e w8 ⟨rfl, hb⟩
                have hg := blkG HG.out hb
                have HW := Lib.hid (below_then HW.out HW.out.size hb)
                clear hb c0 c1 c3 c4 c5 c6 c7 c8 c9 c10 c11 c12 c13 c14 c15 c16 c21 c22 c23 c24 c25 c26 c27
                obtain ⟨c0, c1, c3, c4, c5, c6, c7, c8, c9, c10, c11, c12, c13, c14, c15, c16, c21, c22, c23, c24, c25, c26, c27⟩ := rule_cells hg
                have HG := Lib.hid hg
                clear hg
                cases hA : pinB r.route with
                | false =>
                  go_wp2_with fail
                  go_ret
                  exact ⟨ret_bool (by rw [hR.out]; simp [*]), HW.out⟩
                | true =>
                  go_wp2_with fail
                  refine (isPin_calls r.reply _).mono ?_
                  rintro e w9 ⟨rfl, hb⟩
                  have hg := blkG HG.out hb
                  have HW := Lib.hid (below_then HW.out HW.out.size hb)
                  clear hb c0 c1 c3 c4 c5 c6 c7 c8 c9 c10 c11 c12 c13 c14 c15 c16 c21 c22 c23 c24 c25 c26 c27
                  obtain ⟨c0, c1, c3, c4, c5, c6, c7, c8, c9, c10, c11, c12, c13, c14, c15, c16, c21, c22, c23, c24, c25, c26, c27⟩ := rule_cells hg
                  have HG := Lib.hid hg
                  clear hg
                  cases hB : pinB r.reply with
                  | false =>
                    go_wp2_with fail
                    go_ret
                    exact ⟨ret_bool (by rw [hR.out]; simp [*]), HW.out⟩
                  | true =>
                    go_wp2_with fail
                    all_goals go_ret
                    all_goals exact ⟨ret_bool (by rw [hR.out]; first | (simp [*]; done) | (simp [*]; omega)), HW.out⟩
        | false =>
          have hEa := hE
          simp only [emptyB] at hEa
          go_wp2_with fail
          refine (name_calls r.on _).mono ?_
          rintro e w3 ⟨rfl, hb⟩
          have hg := blkG HG.out hb
          have HW := Lib.hid (below_then HW.out HW.out.size hb)
          clear hb c0 c1 c3 c4 c5 c6 c7 c8 c9 c10 c11 c12 c13 c14 c15 c16 c21 c22 c23 c24 c25 c26 c27
          obtain ⟨c0, c1, c3, c4, c5, c6, c7, c8, c9, c10, c11, c12, c13, c14, c15, c16, c21, c22, c23, c24, c25, c26, c27⟩ := rule_cells hg
          have HG := Lib.hid hg
          clear hg
          cases hN : nameB r.on with
          | false =>
            go_wp2_with fail
            go_ret
            exact ⟨ret_bool (by rw [hR.out]; simp [*]), HW.out⟩
          | true =>
            go_wp2_with (refine Go.BigFrame.wpList_want (by go_simp) fun K hK => wp_load_row 32 (.tmp 1) rfl n rfl 32 r.cells (0, 0) _ HG.out Tryz.underlying32 rfl (by kernel_rfl) (hK _ _ ?_))
            refine (isLook_calls r _).mono ?_
            rintro e w5 ⟨rfl, hb⟩
            have hg := blkG HG.out hb
            have HW := Lib.hid (below_then HW.out HW.out.size hb)
            clear hb c0 c1 c3 c4 c5 c6 c7 c8 c9 c10 c11 c12 c13 c14 c15 c16 c21 c22 c23 c24 c25 c26 c27
            obtain ⟨c0, c1, c3, c4, c5, c6, c7, c8, c9, c10, c11, c12, c13, c14, c15, c16, c21, c22, c23, c24, c25, c26, c27⟩ := rule_cells hg
            have HG := Lib.hid hg
            clear hg
            cases hL : lookB r with
            | false =>
              go_wp2_with fail
              go_ret
              exact ⟨ret_bool (by rw [hR.out]; simp [*]), HW.out⟩
            | true =>
              go_wp2_with fail
              refine (isSide_calls r.src r.proto _).mono ?_
              rintro e w6 ⟨rfl, hb⟩
              have hg := blkG HG.out hb
              have HW := Lib.hid (below_then HW.out HW.out.size hb)
              clear hb c0 c1 c3 c4 c5 c6 c7 c8 c9 c10 c11 c12 c13 c14 c15 c16 c21 c22 c23 c24 c25 c26 c27
              obtain ⟨c0, c1, c3, c4, c5, c6, c7, c8, c9, c10, c11, c12, c13, c14, c15, c16, c21, c22, c23, c24, c25, c26, c27⟩ := rule_cells hg
              have HG := Lib.hid hg
              clear hg
              cases hS : sideB r.src r.proto with
              | false =>
                go_wp2_with fail
                go_ret
                exact ⟨ret_bool (by rw [hR.out]; simp [*]), HW.out⟩
              | true =>
                go_wp2_with fail
                refine (isSide_calls r.dst r.proto _).mono ?_
                rintro e w7 ⟨rfl, hb⟩
                have hg := blkG HG.out hb
                have HW := Lib.hid (below_then HW.out HW.out.size hb)
                clear hb c0 c1 c3 c4 c5 c6 c7 c8 c9 c10 c11 c12 c13 c14 c15 c16 c21 c22 c23 c24 c25 c26 c27
                obtain ⟨c0, c1, c3, c4, c5, c6, c7, c8, c9, c10, c11, c12, c13, c14, c15, c16, c21, c22, c23, c24, c25, c26, c27⟩ := rule_cells hg
                have HG := Lib.hid hg
                clear hg
                cases hD : sideB r.dst r.proto with
                | false =>
                  go_wp2_with fail
                  go_ret
                  exact ⟨ret_bool (by rw [hR.out]; simp [*]), HW.out⟩
                | true =>
                  go_wp2_with fail
                  refine (isPin_calls r.route _).mono ?_
                  rintro e w8 ⟨rfl, hb⟩
                  have hg := blkG HG.out hb
                  have HW := Lib.hid (below_then HW.out HW.out.size hb)
                  clear hb c0 c1 c3 c4 c5 c6 c7 c8 c9 c10 c11 c12 c13 c14 c15 c16 c21 c22 c23 c24 c25 c26 c27
                  obtain ⟨c0, c1, c3, c4, c5, c6, c7, c8, c9, c10, c11, c12, c13, c14, c15, c16, c21, c22, c23, c24, c25, c26, c27⟩ := rule_cells hg
                  have HG := Lib.hid hg
                  clear hg
                  cases hA : pinB r.route with
                  | false =>
                    go_wp2_with fail
                    go_ret
                    exact ⟨ret_bool (by rw [hR.out]; simp [*]), HW.out⟩
                  | true =>
                    go_wp2_with fail
                    refine (isPin_calls r.reply _).mono ?_
                    rintro e w9 ⟨rfl, hb⟩
                    have hg := blkG HG.out hb
                    have HW := Lib.hid (below_then HW.out HW.out.size hb)
                    clear hb c0 c1 c3 c4 c5 c6 c7 c8 c9 c10 c11 c12 c13 c14 c15 c16 c21 c22 c23 c24 c25 c26 c27
                    obtain ⟨c0, c1, c3, c4, c5, c6, c7, c8, c9, c10, c11, c12, c13, c14, c15, c16, c21, c22, c23, c24, c25, c26, c27⟩ := rule_cells hg
                    have HG := Lib.hid hg
                    clear hg
                    cases hB : pinB r.reply with
                    | false =>
                      go_wp2_with fail
                      go_ret
                      exact ⟨ret_bool (by rw [hR.out]; simp [*]), HW.out⟩
                    | true =>
                      go_wp2_with fail
                      all_goals go_ret
                      all_goals exact ⟨ret_bool (by rw [hR.out]; first | (simp [*]; done) | (simp [*]; omega)), HW.out⟩

end Go.Proofs.YtomkohdlaednhaaGreatDoor
