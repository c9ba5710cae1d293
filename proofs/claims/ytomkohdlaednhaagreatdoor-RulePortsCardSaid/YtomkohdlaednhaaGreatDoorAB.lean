import Derived.Test.YtomkohdlaednhaaGreatDoorBA
set_option linter.unusedSimpArgs false
set_option linter.unusedVariables false
namespace Go.Proofs.YtomkohdlaednhaaGreatDoor
open Go.RowKit Go.Proofs.YtomkohdlaednhaaGreatDoorW.PrintWords PConfParses

set_option maxHeartbeats 4000000 in
set_option maxRecDepth 100000 in
theorem rIs_calls (r : RuleV) (w : World) (hs : Small r) :
    Calls Tryz.prog 18 #[r.val] w fun e w' => e = .returned (.bool (rIsB r)) ∧ Grows w w' := by
  have he : r.val = .agg r.cells := rfl
  rw [he, RuleV.cells]
  clear he
  have HSm := Lib.hid hs
  clear hs
  have hR : Hid (rIsB r = (!(r.pass && r.ret) && !(!passB r) && !(!emptyB r.on && !nameB r.on) && !(!(decide (0 ≤ r.proto) && decide (r.proto ≤ 255))) && !(!(sideB r.src r.proto && sideB r.dst r.proto)) && !(!(decide (0 ≤ r.mask) && decide (r.mask ≤ 63) && decide (0 ≤ r.set) && (Go.bits .andNot .i64 r.set r.mask == 0))) && !(!(r.proto == 6) && (!(r.mask == 0) || !(r.set == 0))) && !(!(decide (-1 ≤ r.type) && decide (r.type ≤ 255))) && !(!(r.proto == 1) && !(r.type == -1)) && (pinB r.route && pinB r.reply && decide (0 ≤ r.table) && decide (r.table < 4)))) := Lib.hid rfl
  obtain ⟨n, hn⟩ : ∃ n, n = w.heap.size := ⟨_, rfl⟩
  have HN := Lib.hid hn
  clear hn
  go_enter Tryz.func18, Tryz.ntmps18
  go_upto_region 1 with fail
  go_cut [3, 1, 0] (fun s3 s1 _ wc => s1 = .pointer (some ⟨n, 0, none⟩) ∧ s3 = .bool (portedB r.proto) ∧ wc.heap[n]? = some (ruleBlk r) ∧ Grows w wc)
  case first =>
    cases hm : (r.proto == 6) with
    | true =>
      go_wp2_with fail
      go_meet
      exact ⟨by rw [HN.out], congrArg Value.bool (by simp [portedB, hm]), by rw [HN.out]; exact heap_alloc_new w (ruleBlk r), below_alloc (Below.refl _ _) _⟩
    | false =>
      go_wp2_with fail
      go_meet
      exact ⟨by rw [HN.out], congrArg Value.bool (by simp [portedB, hm]), by rw [HN.out]; exact heap_alloc_new w (ruleBlk r), below_alloc (Below.refl _ _) _⟩
  case rest =>
  obtain ⟨rfl, rfl, hg, hw⟩ := hcut
  have HG := Lib.hid hg
  have HW := Lib.hid hw
  clear hg hw
  -- region 2
  go_upto_region 2 with fail
  go_cut [12] (fun s w20 => s = .bool (r.pass && r.ret) ∧ w20.heap[n]? = some (ruleBlk r) ∧ Grows w w20)
  case first =>
    have hg := HG.out
    have c0 : wc.cell? ⟨n, 0, none⟩ = some (.bool r.pass) := (blk_cell hg 0).trans rfl
    have c1 : wc.cell? ⟨n, 1, none⟩ = some (.bool r.ret) := (blk_cell hg 1).trans rfl
    clear hg
    as_aux_lemma =>
      cases h1 : r.pass <;> cases h2 : r.ret
      all_goals go_wp2_with fail
      all_goals go_meet
      all_goals refine ⟨congrArg Value.bool ?_, HG.out, HW.out⟩
      all_goals first | (simp only [bne, lt_not, Bool.not_and]; done) | (simp [*]; done) | rfl | (have e : (r.mask == 0) = false := (by rw [beq_eq_false_iff_ne]; assumption); rw [e, bne]; cases (r.proto == 6) <;> cases (r.set == 0) <;> rfl) | (have e : (r.mask == 0) = true := (by rw [beq_iff_eq]; assumption); rw [e, bne, bne]; cases (r.proto == 6) <;> cases (r.set == 0) <;> rfl)
  case rest =>
  as_aux_lemma =>
  obtain ⟨rfl, hg, hw⟩ := hcut
  have HG := Lib.hid hg
  have HW := Lib.hid hw
  clear hg hw
  cases h2 : (r.pass && r.ret)
  case true =>
    go_wp2_with fail
    go_ret
    exact ⟨ret_bool (by rw [hR.out, h2]; simp), HW.out⟩
  case false =>
  -- region 3
  go_upto_region 3 with fail
  go_cut [12] (fun s w21 => s = .bool (!passB r) ∧ w21.heap[n]? = some (ruleBlk r) ∧ Grows w w21)
  case first =>
    have hg := HG.out
    have c0 : wc.cell? ⟨n, 0, none⟩ = some (.bool r.pass) := (blk_cell hg 0).trans rfl
    have c20 : wc.cell? ⟨n, 20, none⟩ = some (.bool r.keep) := (blk_cell hg 20).trans rfl
    have c21 : wc.cell? ⟨n, 21, none⟩ = some (.bool r.route.on) := (blk_cell hg 21).trans rfl
    have c24 : wc.cell? ⟨n, 24, none⟩ = some (.bool r.reply.on) := (blk_cell hg 24).trans rfl
    have c27 : wc.cell? ⟨n, 27, none⟩ = some (.int .i64 r.table) := (blk_cell hg 27).trans rfl
    clear hg
    as_aux_lemma =>
      have hp : Hid (passB r = (r.pass || (!r.keep && !r.route.on && !r.reply.on && r.table == 0))) := Lib.hid rfl
      cases h1 : r.pass
      · cases h2 : r.keep
        · cases h3 : r.route.on
          · cases h4 : r.reply.on
            · cases h5 : (r.table == 0)
              all_goals go_wp2_with fail
              all_goals go_meet
              all_goals refine ⟨congrArg Value.bool ?_, HG.out, HW.out⟩
              all_goals rw [hp.out]
              all_goals simp only [h1, h2, h3, h4]
              all_goals first | rfl | (rw [h5]; rfl)
            · go_wp2_with fail
              go_meet
              refine ⟨congrArg Value.bool ?_, HG.out, HW.out⟩
              rw [hp.out]
              simp [*]
          · go_wp2_with fail
            go_meet
            refine ⟨congrArg Value.bool ?_, HG.out, HW.out⟩
            rw [hp.out]
            simp [*]
        · go_wp2_with fail
          go_meet
          refine ⟨congrArg Value.bool ?_, HG.out, HW.out⟩
          rw [hp.out]
          simp [*]
      · go_wp2_with fail
        go_meet
        refine ⟨congrArg Value.bool ?_, HG.out, HW.out⟩
        rw [hp.out]
        simp [*]
  case rest =>
  as_aux_lemma =>
  obtain ⟨rfl, hg, hw⟩ := hcut
  have HG := Lib.hid hg
  have HW := Lib.hid hw
  clear hg hw
  cases h3 : (!passB r)
  case true =>
    go_wp2_with fail
    go_ret
    exact ⟨ret_bool (by rw [hR.out, h3]; simp), HW.out⟩
  case false =>
  -- region 5
  go_upto_region 5 with fail
  go_cut [41] (fun s w22 => s = .bool (!emptyB r.on && !nameB r.on) ∧ w22.heap[n]? = some (ruleBlk r) ∧ Grows w w22)
  case first =>
    have hg := HG.out
    have c3 : wc.cell? ⟨n, 3, none⟩ = some (.string r.on) := (blk_cell hg 3).trans rfl
    clear hg
    as_aux_lemma =>
      cases hE : emptyB r.on with
      | true =>
        have hEa := hE
        simp only [emptyB] at hEa
        go_wp2_with fail
        go_meet
        exact ⟨congrArg Value.bool (by simp [hE]), HG.out, HW.out⟩
      | false =>
        have hEa := hE
        simp only [emptyB] at hEa
        go_wp2_with fail
        refine (rname_calls r.on _ HSm.out.on).mono ?_
        rintro e we ⟨rfl, hb⟩
        have HG := Lib.hid (blkG HG.out hb)
        have HW := Lib.hid (below_then HW.out HW.out.size hb)
        clear hb
        go_wp2_with fail
        go_meet
        exact ⟨congrArg Value.bool (by simp [hE]), HG.out, HW.out⟩
  case rest =>
  as_aux_lemma =>
  obtain ⟨rfl, hg, hw⟩ := hcut
  have HG := Lib.hid hg
  have HW := Lib.hid hw
  clear hg hw
  cases h5 : (!emptyB r.on && !nameB r.on)
  case true =>
    go_wp2_with fail
    go_ret
    exact ⟨ret_bool (by rw [hR.out, h5]; simp), HW.out⟩
  case false =>
  -- region 6
  go_upto_region 6 with fail
  go_cut [41] (fun s w23 => s = .bool (!(decide (0 ≤ r.proto) && decide (r.proto ≤ 255))) ∧ w23.heap[n]? = some (ruleBlk r) ∧ Grows w w23)
  case first =>
    have hg := HG.out
    have c4 : wc.cell? ⟨n, 4, none⟩ = some (.int .i64 r.proto) := (blk_cell hg 4).trans rfl
    clear hg
    as_aux_lemma =>
      go_wp2_with fail
      all_goals go_meet
      all_goals refine ⟨congrArg Value.bool ?_, HG.out, HW.out⟩
      all_goals first | (simp only [bne, lt_not, Bool.not_and]; done) | (simp [*]; done) | rfl | (have e : (r.mask == 0) = false := (by rw [beq_eq_false_iff_ne]; assumption); rw [e, bne]; cases (r.proto == 6) <;> cases (r.set == 0) <;> rfl) | (have e : (r.mask == 0) = true := (by rw [beq_iff_eq]; assumption); rw [e, bne, bne]; cases (r.proto == 6) <;> cases (r.set == 0) <;> rfl)
  case rest =>
  as_aux_lemma =>
  obtain ⟨rfl, hg, hw⟩ := hcut
  have HG := Lib.hid hg
  have HW := Lib.hid hw
  clear hg hw
  cases h6 : (!(decide (0 ≤ r.proto) && decide (r.proto ≤ 255)))
  case true =>
    go_wp2_with fail
    go_ret
    exact ⟨ret_bool (by rw [hR.out, h6]; simp), HW.out⟩
  case false =>
  -- region 7
  go_upto_region 7 with fail
  go_cut [41] (fun s w24 => s = .bool (!(sideB r.src r.proto && sideB r.dst r.proto)) ∧ w24.heap[n]? = some (ruleBlk r) ∧ Grows w w24)
  case first =>
    have hg := HG.out
    clear hg
    as_aux_lemma =>
      have hg := HG.out
      have c5 : wc.cell? ⟨n, 5, none⟩ = some (.bool r.src.any) := (blk_cell hg 5).trans rfl
      have c6 : wc.cell? ⟨n, 6, none⟩ = some (.string r.src.table) := (blk_cell hg 6).trans rfl
      have c7 : wc.cell? ⟨n, 7, none⟩ = some (.int .u32 r.src.addr) := (blk_cell hg 7).trans rfl
      have c8 : wc.cell? ⟨n, 8, none⟩ = some (.int .i64 r.src.len) := (blk_cell hg 8).trans rfl
      have c9 : wc.cell? ⟨n, 9, none⟩ = some (.int .i64 r.src.low) := (blk_cell hg 9).trans rfl
      have c10 : wc.cell? ⟨n, 10, none⟩ = some (.int .i64 r.src.high) := (blk_cell hg 10).trans rfl
      have c11 : wc.cell? ⟨n, 11, none⟩ = some (.bool r.dst.any) := (blk_cell hg 11).trans rfl
      have c12 : wc.cell? ⟨n, 12, none⟩ = some (.string r.dst.table) := (blk_cell hg 12).trans rfl
      have c13 : wc.cell? ⟨n, 13, none⟩ = some (.int .u32 r.dst.addr) := (blk_cell hg 13).trans rfl
      have c14 : wc.cell? ⟨n, 14, none⟩ = some (.int .i64 r.dst.len) := (blk_cell hg 14).trans rfl
      have c15 : wc.cell? ⟨n, 15, none⟩ = some (.int .i64 r.dst.low) := (blk_cell hg 15).trans rfl
      have c16 : wc.cell? ⟨n, 16, none⟩ = some (.int .i64 r.dst.high) := (blk_cell hg 16).trans rfl
      clear hg
      go_wp2_with fail
      refine (rsideB_calls r.src r.proto _ HSm.out.src).mono ?_
      rintro e we ⟨rfl, hb⟩
      have hg := blkG HG.out hb
      have HW := Lib.hid (below_then HW.out HW.out.size hb)
      clear hb c5 c6 c7 c8 c9 c10 c11 c12 c13 c14 c15 c16
      have c11 : we.cell? ⟨n, 11, none⟩ = some (.bool r.dst.any) := (blk_cell hg 11).trans rfl
      have c12 : we.cell? ⟨n, 12, none⟩ = some (.string r.dst.table) := (blk_cell hg 12).trans rfl
      have c13 : we.cell? ⟨n, 13, none⟩ = some (.int .u32 r.dst.addr) := (blk_cell hg 13).trans rfl
      have c14 : we.cell? ⟨n, 14, none⟩ = some (.int .i64 r.dst.len) := (blk_cell hg 14).trans rfl
      have c15 : we.cell? ⟨n, 15, none⟩ = some (.int .i64 r.dst.low) := (blk_cell hg 15).trans rfl
      have c16 : we.cell? ⟨n, 16, none⟩ = some (.int .i64 r.dst.high) := (blk_cell hg 16).trans rfl
      have HG := Lib.hid hg
      clear hg
      cases hS : sideB r.src r.proto with
      | false =>
        go_wp2_with fail
        go_meet
        exact ⟨congrArg Value.bool (by simp [hS]), HG.out, HW.out⟩
      | true =>
        go_wp2_with fail
        refine (rsideB_calls r.dst r.proto _ HSm.out.dst).mono ?_
        rintro e wf ⟨rfl, hb⟩
        have HG := Lib.hid (blkG HG.out hb)
        have HW := Lib.hid (below_then HW.out HW.out.size hb)
        clear hb
        go_wp2_with fail
        go_meet
        exact ⟨congrArg Value.bool (by simp [hS]), HG.out, HW.out⟩
  case rest =>
  as_aux_lemma =>
  obtain ⟨rfl, hg, hw⟩ := hcut
  have HG := Lib.hid hg
  have HW := Lib.hid hw
  clear hg hw
  cases h7 : (!(sideB r.src r.proto && sideB r.dst r.proto))
  case true =>
    go_wp2_with fail
    go_ret
    exact ⟨ret_bool (by rw [hR.out, h7]; simp), HW.out⟩
  case false =>
  -- region 9
  go_upto_region 9 with fail
  go_cut [71, 3] (fun s _ w25 => s = .bool (!(decide (0 ≤ r.mask) && decide (r.mask ≤ 63) && decide (0 ≤ r.set) && (Go.bits .andNot .i64 r.set r.mask == 0))) ∧ w25.heap[n]? = some (ruleBlk r) ∧ Grows w w25)
  case first =>
    have hg := HG.out
    have c17 : wc.cell? ⟨n, 17, none⟩ = some (.int .i64 r.set) := (blk_cell hg 17).trans rfl
    have c18 : wc.cell? ⟨n, 18, none⟩ = some (.int .i64 r.mask) := (blk_cell hg 18).trans rfl
    clear hg
    as_aux_lemma =>
      go_wp2_with fail
      all_goals go_meet
      all_goals refine ⟨congrArg Value.bool ?_, HG.out, HW.out⟩
      all_goals first | (simp only [bne, lt_not, Bool.not_and]; done) | (simp [*]; done) | rfl | (have e : (r.mask == 0) = false := (by rw [beq_eq_false_iff_ne]; assumption); rw [e, bne]; cases (r.proto == 6) <;> cases (r.set == 0) <;> rfl) | (have e : (r.mask == 0) = true := (by rw [beq_iff_eq]; assumption); rw [e, bne, bne]; cases (r.proto == 6) <;> cases (r.set == 0) <;> rfl)
  case rest =>
  as_aux_lemma =>
  obtain ⟨rfl, hg, hw⟩ := hcut
  have HG := Lib.hid hg
  have HW := Lib.hid hw
  clear hg hw
  cases h9 : (!(decide (0 ≤ r.mask) && decide (r.mask ≤ 63) && decide (0 ≤ r.set) && (Go.bits .andNot .i64 r.set r.mask == 0)))
  case true =>
    go_wp2_with fail
    go_ret
    exact ⟨ret_bool (by rw [hR.out, h9]; simp), HW.out⟩
  case false =>
  -- region 10
  go_upto_region 10 with fail
  go_cut [71, 3] (fun s _ w26 => s = .bool (!(r.proto == 6) && (!(r.mask == 0) || !(r.set == 0))) ∧ w26.heap[n]? = some (ruleBlk r) ∧ Grows w w26)
  case first =>
    have hg := HG.out
    have c4 : wc.cell? ⟨n, 4, none⟩ = some (.int .i64 r.proto) := (blk_cell hg 4).trans rfl
    have c17 : wc.cell? ⟨n, 17, none⟩ = some (.int .i64 r.set) := (blk_cell hg 17).trans rfl
    have c18 : wc.cell? ⟨n, 18, none⟩ = some (.int .i64 r.mask) := (blk_cell hg 18).trans rfl
    clear hg
    as_aux_lemma =>
      cases hq : (r.proto == 6)
      · cases hq2 : (r.mask == 0)
        all_goals go_wp2_with fail
        all_goals go_meet
        all_goals refine ⟨congrArg Value.bool ?_, HG.out, HW.out⟩
        all_goals first | (simp only [bne, lt_not, Bool.not_and]; done) | (simp [*]; done) | rfl | (have e : (r.mask == 0) = false := (by rw [beq_eq_false_iff_ne]; assumption); rw [e, bne]; cases (r.proto == 6) <;> cases (r.set == 0) <;> rfl) | (have e : (r.mask == 0) = true := (by rw [beq_iff_eq]; assumption); rw [e, bne, bne]; cases (r.proto == 6) <;> cases (r.set == 0) <;> rfl)
      · go_wp2_with fail
        all_goals go_meet
        all_goals refine ⟨congrArg Value.bool ?_, HG.out, HW.out⟩
        all_goals first | (simp only [bne, lt_not, Bool.not_and]; done) | (simp [*]; done) | rfl | (have e : (r.mask == 0) = false := (by rw [beq_eq_false_iff_ne]; assumption); rw [e, bne]; cases (r.proto == 6) <;> cases (r.set == 0) <;> rfl) | (have e : (r.mask == 0) = true := (by rw [beq_iff_eq]; assumption); rw [e, bne, bne]; cases (r.proto == 6) <;> cases (r.set == 0) <;> rfl)
  case rest =>
  as_aux_lemma =>
  obtain ⟨rfl, hg, hw⟩ := hcut
  have HG := Lib.hid hg
  have HW := Lib.hid hw
  clear hg hw
  cases h10 : (!(r.proto == 6) && (!(r.mask == 0) || !(r.set == 0)))
  case true =>
    go_wp2_with fail
    go_ret
    exact ⟨ret_bool (by rw [hR.out, h10]; simp), HW.out⟩
  case false =>
  -- region 12
  go_upto_region 12 with fail
  go_cut [106, 3] (fun s _ w27 => s = .bool (!(decide (-1 ≤ r.type) && decide (r.type ≤ 255))) ∧ w27.heap[n]? = some (ruleBlk r) ∧ Grows w w27)
  case first =>
    have hg := HG.out
    have c19 : wc.cell? ⟨n, 19, none⟩ = some (.int .i64 r.type) := (blk_cell hg 19).trans rfl
    clear hg
    as_aux_lemma =>
      go_wp2_with fail
      all_goals go_meet
      all_goals refine ⟨congrArg Value.bool ?_, HG.out, HW.out⟩
      all_goals first | (simp only [bne, lt_not, Bool.not_and]; done) | (simp [*]; done) | rfl | (have e : (r.mask == 0) = false := (by rw [beq_eq_false_iff_ne]; assumption); rw [e, bne]; cases (r.proto == 6) <;> cases (r.set == 0) <;> rfl) | (have e : (r.mask == 0) = true := (by rw [beq_iff_eq]; assumption); rw [e, bne, bne]; cases (r.proto == 6) <;> cases (r.set == 0) <;> rfl)
  case rest =>
  as_aux_lemma =>
  obtain ⟨rfl, hg, hw⟩ := hcut
  have HG := Lib.hid hg
  have HW := Lib.hid hw
  clear hg hw
  cases h12 : (!(decide (-1 ≤ r.type) && decide (r.type ≤ 255)))
  case true =>
    go_wp2_with fail
    go_ret
    exact ⟨ret_bool (by rw [hR.out, h12]; simp), HW.out⟩
  case false =>
  -- region 13
  go_upto_region 13 with fail
  go_cut [106, 3] (fun s _ w28 => s = .bool (!(r.proto == 1) && !(r.type == -1)) ∧ w28.heap[n]? = some (ruleBlk r) ∧ Grows w w28)
  case first =>
    have hg := HG.out
    have c4 : wc.cell? ⟨n, 4, none⟩ = some (.int .i64 r.proto) := (blk_cell hg 4).trans rfl
    have c19 : wc.cell? ⟨n, 19, none⟩ = some (.int .i64 r.type) := (blk_cell hg 19).trans rfl
    clear hg
    as_aux_lemma =>
      cases hq : (r.proto == 1)
      · cases hq2 : (r.type == -1)
        all_goals go_wp2_with fail
        all_goals go_meet
        all_goals refine ⟨congrArg Value.bool ?_, HG.out, HW.out⟩
        all_goals first | (simp only [bne, lt_not, Bool.not_and]; done) | (simp [*]; done) | rfl | (have e : (r.mask == 0) = false := (by rw [beq_eq_false_iff_ne]; assumption); rw [e, bne]; cases (r.proto == 6) <;> cases (r.set == 0) <;> rfl) | (have e : (r.mask == 0) = true := (by rw [beq_iff_eq]; assumption); rw [e, bne, bne]; cases (r.proto == 6) <;> cases (r.set == 0) <;> rfl)
      · go_wp2_with fail
        all_goals go_meet
        all_goals refine ⟨congrArg Value.bool ?_, HG.out, HW.out⟩
        all_goals first | (simp only [bne, lt_not, Bool.not_and]; done) | (simp [*]; done) | rfl | (have e : (r.mask == 0) = false := (by rw [beq_eq_false_iff_ne]; assumption); rw [e, bne]; cases (r.proto == 6) <;> cases (r.set == 0) <;> rfl) | (have e : (r.mask == 0) = true := (by rw [beq_iff_eq]; assumption); rw [e, bne, bne]; cases (r.proto == 6) <;> cases (r.set == 0) <;> rfl)
  case rest =>
  as_aux_lemma =>
  obtain ⟨rfl, hg, hw⟩ := hcut
  have HG := Lib.hid hg
  have HW := Lib.hid hw
  clear hg hw
  cases h13 : (!(r.proto == 1) && !(r.type == -1))
  case true =>
    go_wp2_with fail
    go_ret
    exact ⟨ret_bool (by rw [hR.out, h13]; simp), HW.out⟩
  case false =>
  have hg := HG.out
  have c21 : wc.cell? ⟨n, 21, none⟩ = some (.bool r.route.on) := (blk_cell hg 21).trans rfl
  have c22 : wc.cell? ⟨n, 22, none⟩ = some (.string r.route.iface) := (blk_cell hg 22).trans rfl
  have c23 : wc.cell? ⟨n, 23, none⟩ = some (.int .u32 r.route.gate) := (blk_cell hg 23).trans rfl
  have c24 : wc.cell? ⟨n, 24, none⟩ = some (.bool r.reply.on) := (blk_cell hg 24).trans rfl
  have c25 : wc.cell? ⟨n, 25, none⟩ = some (.string r.reply.iface) := (blk_cell hg 25).trans rfl
  have c26 : wc.cell? ⟨n, 26, none⟩ = some (.int .u32 r.reply.gate) := (blk_cell hg 26).trans rfl
  have c27 : wc.cell? ⟨n, 27, none⟩ = some (.int .i64 r.table) := (blk_cell hg 27).trans rfl
  clear hg
  have hF : Hid (rIsB r = (pinB r.route && pinB r.reply && decide (0 ≤ r.table) && decide (r.table < 4))) := Lib.hid (by rw [hR.out, h2, h3, h5, h6, h7, h9, h10, h12, h13]; simp)
  clear hR
  go_wp2_with fail
  refine (rpinB_calls r.route _ HSm.out.route).mono ?_
  rintro e we ⟨rfl, hb⟩
  have hg := blkG HG.out hb
  have HW := Lib.hid (below_then HW.out HW.out.size hb)
  clear hb c21 c22 c23 c24 c25 c26 c27
  have c24 : we.cell? ⟨n, 24, none⟩ = some (.bool r.reply.on) := (blk_cell hg 24).trans rfl
  have c25 : we.cell? ⟨n, 25, none⟩ = some (.string r.reply.iface) := (blk_cell hg 25).trans rfl
  have c26 : we.cell? ⟨n, 26, none⟩ = some (.int .u32 r.reply.gate) := (blk_cell hg 26).trans rfl
  have c27 : we.cell? ⟨n, 27, none⟩ = some (.int .i64 r.table) := (blk_cell hg 27).trans rfl
  have HG := Lib.hid hg
  clear hg
  cases hA : pinB r.route with
  | false =>
    go_wp2_with fail
    go_ret
    exact ⟨ret_bool (by rw [hF.out, hA]; simp), HW.out⟩
  | true =>
    go_wp2_with fail
    refine (rpinB_calls r.reply _ HSm.out.reply).mono ?_
    rintro e wf ⟨rfl, hb⟩
    have hg := blkG HG.out hb
    have HW := Lib.hid (below_then HW.out HW.out.size hb)
    clear hb c24 c25 c26 c27
    have c27 : wf.cell? ⟨n, 27, none⟩ = some (.int .i64 r.table) := (blk_cell hg 27).trans rfl
    have HG := Lib.hid hg
    clear hg
    cases hB : pinB r.reply with
    | false =>
      go_wp2_with fail
      go_ret
      exact ⟨ret_bool (by rw [hF.out, hA, hB]; simp), HW.out⟩
    | true =>
      go_wp2_with fail
      all_goals go_ret
      all_goals exact ⟨ret_bool (by rw [hF.out, hA, hB]; first | (simp [*]; done) | (simp [*]; omega)), HW.out⟩
end Go.Proofs.YtomkohdlaednhaaGreatDoor
