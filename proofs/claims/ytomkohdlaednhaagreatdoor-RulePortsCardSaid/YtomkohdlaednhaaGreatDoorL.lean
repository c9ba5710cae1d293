import Derived.Test.YtomkohdlaednhaaGreatDoorK
set_option linter.unusedSimpArgs false
set_option linter.unusedVariables false
namespace Go.Proofs.YtomkohdlaednhaaGreatDoor
open Go.RowKit Go.Proofs.YtomkohdlaednhaaGreatDoorW.PrintWords
attribute [local go_sem high] PConfParses.eqA24 PConfParses.eqA30 PConfParses.eqA26

def heldV (n : Int) : Int := if n < 0 then 0 else if 32 < n then 32 else n
theorem heldV_eq (n : Int) : PConfParses.addr_held.f n = some (heldV n) := by
  simp only [PConfParses.addr_held.f, heldV, mn, mx]
  congr 1
  split <;> split <;> (try split) <;> omega
def maskV (n : Int) : Int := shl .u32 4294967295 (32 - heldV n)
theorem heldV_bd (n : Int) : 0 ≤ heldV n ∧ heldV n ≤ 32 := by unfold heldV; split <;> (try split) <;> omega
theorem maskV_eq (n : Int) : PConfParses.addr_Mask.f n = some (maskV n) := by
  have h := heldV_bd n
  have hw : wrap64 (32 - heldV n) = 32 - heldV n := by unfold wrap64; omega
  simp only [PConfParses.addr_Mask.f, heldV_eq, Option.bind_some, hw, maskV]
  rw [if_pos (by omega)]
/-- May a prefix be? -/
def pfxB (a n : Int) : Bool := a == Go.bits .and .u32 a (maskV n) && (n == heldV n)
theorem pfxB_eq (a n : Int) : PConfParses.addr_Is.f a n = some (pfxB a n) := by
  simp only [PConfParses.addr_Is.f, PConfParses.addr_Norm.f, heldV_eq, maskV_eq, Option.bind_some, pfxB]
theorem pfxB_calls (a n : Int) (w : World) :
    Calls Tryz.prog 102 #[.agg #[.int .u32 a, .int .i64 n]] w fun e w' => e = .returned (.bool (pfxB a n)) ∧ Grows w w' :=
  PConfParses.addr_Is.calls a n _ w (pfxB_eq a n)
def portedB (n : Int) : Bool := n == 6 || n == 17
theorem ported_calls (n : Int) (w : World) :
    Calls Tryz.prog 103 #[.int .i64 n] w fun e w' => e = .returned (.bool (portedB n)) ∧ w' = w := by
  cases h6 : (n == 6) with
  | true =>
    go_enter Tryz.func103, Tryz.ntmps103
    go_wp2_with fail
    go_ret
    exact ⟨ret_bool (by simp [portedB, h6]), rfl⟩
  | false =>
    go_enter Tryz.func103, Tryz.ntmps103
    go_wp2_with fail
    go_ret
    exact ⟨ret_bool (by simp [portedB, h6]), rfl⟩
def emptyB (s : ByteArray) : Bool := s.toList.isEmpty
def nonePfx (s : SideV) : Bool := s.addr == 0 && (s.len == 0)
def allPorts (s : SideV) : Bool := s.low == 0 && (s.high == 65535)
/-- Why a side may not be, by its address. -/
def sideBad (s : SideV) : Bool := s.any && (!emptyB s.table || !nonePfx s) || (!emptyB s.table && (!nameB s.table || !nonePfx s)) || !pfxB s.addr s.len
def portsB (s : SideV) (proto : Int) : Bool := decide (0 ≤ s.low) && decide (s.low ≤ s.high) && decide (s.high ≤ 65535) && (allPorts s || portedB proto)
def sideB (s : SideV) (proto : Int) : Bool := !sideBad s && portsB s proto
set_option maxHeartbeats 2000000 in
theorem isSide_calls (s : SideV) (proto : Int) (w : World) :
    Calls Tryz.prog 61 #[s.val, .int .i64 proto] w fun e w' => e = .returned (.bool (sideB s proto)) ∧ Grows w w' := by
  have he : s.val = .agg s.cells := rfl
  rw [he, SideV.cells]
  clear he
  have hR : Hid (sideB s proto = (!sideBad s && portsB s proto)) := Lib.hid rfl
  have hP : Hid (portsB s proto = (decide (0 ≤ s.low) && decide (s.low ≤ s.high) && decide (s.high ≤ 65535) && (allPorts s || portedB proto))) := Lib.hid rfl
  obtain ⟨n, hn⟩ : ∃ n, n = w.heap.size := ⟨_, rfl⟩
  have HN := Lib.hid hn
  clear hn
  go_enter Tryz.func61, Tryz.ntmps61
  go_upto_region 1 with fail
  go_cut [5, 2] (fun s5 s2 wc => s2 = .pointer (some ⟨n, 0, none⟩) ∧ s5 = .bool (nonePfx s) ∧ wc.heap[n]? = some (sideBlk s) ∧ Grows w wc)
  case first =>
    go_wp2_with fail
    go_meet
    exact ⟨by rw [HN.out], rfl, by rw [HN.out]; exact heap_alloc_new w (sideBlk s), below_alloc (Below.refl _ _) _⟩
  case rest =>
    obtain ⟨rfl, rfl, hg, hw⟩ := hcut
    have c0 : wc.cell? ⟨n, 0, none⟩ = some (.bool s.any) := (blk_cell hg 0).trans rfl
    have c1 : wc.cell? ⟨n, 1, none⟩ = some (.string s.table) := (blk_cell hg 1).trans rfl
    have c2 : wc.cell? ⟨n, 2, none⟩ = some (.int .u32 s.addr) := (blk_cell hg 2).trans rfl
    have c3 : wc.cell? ⟨n, 3, none⟩ = some (.int .i64 s.len) := (blk_cell hg 3).trans rfl
    have HG := Lib.hid hg
    have HW := Lib.hid hw
    clear hg hw
    go_upto_region 2 with fail
    go_cut [42, 2, 5, 0] (fun s42 s2 _ _ wd => s42 = .bool (sideBad s) ∧ s2 = .pointer (some ⟨n, 0, none⟩) ∧ wd.heap[n]? = some (sideBlk s) ∧ Grows w wd)
    case first =>
      cases h1 : s.any with
      | true =>
        cases h2 : emptyB s.table with
        | true =>
          have h2a := h2
          simp only [emptyB] at h2a
          cases h3 : nonePfx s with
          | true =>
            go_wp2_with fail
            refine (pfxB_calls s.addr s.len _).mono ?_
            rintro e we ⟨rfl, hb⟩
            have HG := Lib.hid (blkG HG.out hb)
            have HW := Lib.hid (below_then HW.out HW.out.size hb)
            clear hb
            go_wp2_with fail
            go_meet
            exact ⟨congrArg Value.bool (by simp [sideBad, h1, h2, h3]), rfl, HG.out, HW.out⟩
          | false =>
            go_wp2_with fail
            go_meet
            exact ⟨congrArg Value.bool (by simp [sideBad, h1, h2, h3]), rfl, HG.out, HW.out⟩
        | false =>
          have h2a := h2
          simp only [emptyB] at h2a
          cases h3 : nonePfx s with
          | true =>
            go_wp2_with fail
            go_meet
            exact ⟨congrArg Value.bool (by simp [sideBad, h1, h2, h3]), rfl, HG.out, HW.out⟩
          | false =>
            go_wp2_with fail
            go_meet
            exact ⟨congrArg Value.bool (by simp [sideBad, h1, h2, h3]), rfl, HG.out, HW.out⟩
      | false =>
        cases h2 : emptyB s.table with
        | true =>
          have h2a := h2
          simp only [emptyB] at h2a
          cases h3 : nonePfx s with
          | true =>
            go_wp2_with fail
            refine (pfxB_calls s.addr s.len _).mono ?_
            rintro e we ⟨rfl, hb⟩
            have HG := Lib.hid (blkG HG.out hb)
            have HW := Lib.hid (below_then HW.out HW.out.size hb)
            clear hb
            go_wp2_with fail
            go_meet
            exact ⟨congrArg Value.bool (by simp [sideBad, h1, h2, h3]), rfl, HG.out, HW.out⟩
          | false =>
            go_wp2_with fail
            refine (pfxB_calls s.addr s.len _).mono ?_
            rintro e we ⟨rfl, hb⟩
            have HG := Lib.hid (blkG HG.out hb)
            have HW := Lib.hid (below_then HW.out HW.out.size hb)
            clear hb
            go_wp2_with fail
            go_meet
            exact ⟨congrArg Value.bool (by simp [sideBad, h1, h2, h3]), rfl, HG.out, HW.out⟩
        | false =>
          have h2a := h2
          simp only [emptyB] at h2a
          cases h3 : nonePfx s with
          | true =>
            cases h4 : nameB s.table with
            | true =>
              go_wp2_with fail
              refine (name_calls s.table _).mono ?_
              rintro e wd ⟨rfl, hb⟩
              have hg := blkG HG.out hb
              have c2 : wd.cell? ⟨n, 2, none⟩ = some (.int .u32 s.addr) := (blk_cell hg 2).trans rfl
              have c3 : wd.cell? ⟨n, 3, none⟩ = some (.int .i64 s.len) := (blk_cell hg 3).trans rfl
              have HG := Lib.hid hg
              have HW := Lib.hid (below_then HW.out HW.out.size hb)
              clear hg hb
              go_wp2_with fail
              refine (pfxB_calls s.addr s.len _).mono ?_
              rintro e we ⟨rfl, hb⟩
              have HG := Lib.hid (blkG HG.out hb)
              have HW := Lib.hid (below_then HW.out HW.out.size hb)
              clear hb
              go_wp2_with fail
              go_meet
              exact ⟨congrArg Value.bool (by simp [sideBad, h1, h2, h3, h4]), rfl, HG.out, HW.out⟩
            | false =>
              go_wp2_with fail
              refine (name_calls s.table _).mono ?_
              rintro e wd ⟨rfl, hb⟩
              have hg := blkG HG.out hb
              have c2 : wd.cell? ⟨n, 2, none⟩ = some (.int .u32 s.addr) := (blk_cell hg 2).trans rfl
              have c3 : wd.cell? ⟨n, 3, none⟩ = some (.int .i64 s.len) := (blk_cell hg 3).trans rfl
              have HG := Lib.hid hg
              have HW := Lib.hid (below_then HW.out HW.out.size hb)
              clear hg hb
              go_wp2_with fail
              go_meet
              exact ⟨congrArg Value.bool (by simp [sideBad, h1, h2, h3, h4]), rfl, HG.out, HW.out⟩
          | false =>
            cases h4 : nameB s.table with
            | true =>
              go_wp2_with fail
              refine (name_calls s.table _).mono ?_
              rintro e wd ⟨rfl, hb⟩
              have hg := blkG HG.out hb
              have c2 : wd.cell? ⟨n, 2, none⟩ = some (.int .u32 s.addr) := (blk_cell hg 2).trans rfl
              have c3 : wd.cell? ⟨n, 3, none⟩ = some (.int .i64 s.len) := (blk_cell hg 3).trans rfl
              have HG := Lib.hid hg
              have HW := Lib.hid (below_then HW.out HW.out.size hb)
              clear hg hb
              go_wp2_with fail
              go_meet
              exact ⟨congrArg Value.bool (by simp [sideBad, h1, h2, h3, h4]), rfl, HG.out, HW.out⟩
            | false =>
              go_wp2_with fail
              refine (name_calls s.table _).mono ?_
              rintro e wd ⟨rfl, hb⟩
              have hg := blkG HG.out hb
              have c2 : wd.cell? ⟨n, 2, none⟩ = some (.int .u32 s.addr) := (blk_cell hg 2).trans rfl
              have c3 : wd.cell? ⟨n, 3, none⟩ = some (.int .i64 s.len) := (blk_cell hg 3).trans rfl
              have HG := Lib.hid hg
              have HW := Lib.hid (below_then HW.out HW.out.size hb)
              clear hg hb
              go_wp2_with fail
              go_meet
              exact ⟨congrArg Value.bool (by simp [sideBad, h1, h2, h3, h4]), rfl, HG.out, HW.out⟩
    case rest =>
      clear c0 c1 c2 c3 HG HW
      obtain ⟨rfl, rfl, hg, hw⟩ := hcut
      have c4 : wc.cell? ⟨n, 4, none⟩ = some (.int .i64 s.low) := (blk_cell hg 4).trans rfl
      have c5 : wc.cell? ⟨n, 5, none⟩ = some (.int .i64 s.high) := (blk_cell hg 5).trans rfl
      have HW := Lib.hid hw
      clear hg hw
      cases hb : sideBad s with
      | true =>
        have HB := Lib.hid hb
        go_wp2_with fail
        go_ret
        exact ⟨ret_bool (by rw [hR.out, HB.out]; rfl), HW.out⟩
      | false =>
        have HB := Lib.hid hb
        go_wp2_with fail
        · have ha : allPorts s = false := by
            rw [allPorts, Bool.and_eq_false_iff, beq_eq_false_iff_ne, beq_eq_false_iff_ne]
            assumption
          have HA := Lib.hid ha
          refine (ported_calls proto _).mono ?_
          rintro e w9 ⟨rfl, h9⟩
          obtain rfl : wc = w9 := h9.symm
          clear h9
          go_wp2_with fail
          go_ret
          exact ⟨ret_bool (by rw [hR.out, HB.out, hP.out, HA.out]; simp [*]; intro h5 h6; omega), HW.out⟩
        all_goals go_ret
        all_goals refine ⟨ret_bool ?_, HW.out⟩
        all_goals rw [hR.out, HB.out, hP.out]
        · have ha : allPorts s = true := by
            rename_i h0
            rw [allPorts, Bool.and_eq_true, beq_iff_eq, beq_iff_eq]
            omega
          rw [ha]
          simp [*]
        all_goals first | (simp [*]; done) | (simp [*]; omega)
end Go.Proofs.YtomkohdlaednhaaGreatDoor
