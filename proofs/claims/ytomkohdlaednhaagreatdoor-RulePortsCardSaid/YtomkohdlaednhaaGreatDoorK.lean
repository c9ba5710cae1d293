import Derived.Test.YtomkohdlaednhaaGreatDoorJ
set_option linter.unusedSimpArgs false
set_option linter.unusedVariables false
namespace Go.Proofs.YtomkohdlaednhaaGreatDoor
open Go.RowKit Go.Proofs.YtomkohdlaednhaaGreatDoorW.PrintWords
attribute [local go_sem high] PConfParses.eqA24 PConfParses.eqA30 PConfParses.eqA26

def signs : ByteArray := ⟨#[97, 98, 99, 100, 101, 102, 103, 104, 105, 106, 107, 108, 109, 110, 111, 112, 113, 114, 115, 116, 117, 118, 119, 120, 121, 122, 48, 49, 50, 51, 52, 53, 54, 55, 56, 57]⟩
def isSign (b : UInt8) : Bool := decide (97 ≤ b.toNat ∧ b.toNat ≤ 122 ∨ 48 ≤ b.toNat ∧ b.toNat ≤ 57)
theorem contains_signs (b : UInt8) : signs.data.toList.contains b = isSign b := by
  have : ∀ b : Fin 256, signs.data.toList.contains (UInt8.ofNat b.val) = isSign (UInt8.ofNat b.val) := by decide +kernel
  have h := this ⟨b.toNat, b.toNat_lt⟩
  simpa using h
theorem trim_signs (s : ByteArray) : (Lib.trimS s.data.toList signs.data.toList).isEmpty = s.data.toList.all isSign := by
  rw [Bool.eq_iff_iff, List.isEmpty_iff, trimS_nil]
  simp only [contains_signs]
def nameB (s : ByteArray) : Bool := decide (1 ≤ s.size ∧ s.size ≤ 8) && s.data.toList.all isSign
theorem name_calls (s : ByteArray) (w : World) :
    Calls Tryz.prog 14 #[.string s] w fun e w' => e = .returned (.bool (nameB s)) ∧ Grows w w' := by
  by_cases h1 : s.toList = []
  · have e1 : Hid (nameB s = false) := Lib.hid (by
      have : s.size = 0 := by rw [Lib.size_eq, ← Lib.toList_data, h1]; rfl
      simp [nameB, this])
    go_enter Tryz.func14, Tryz.ntmps14
    go_wp2_with fail
    go_ret
    exact ⟨ret_bool (by rw [e1.out]), Below.refl _ _⟩
  · have hp := size_pos_of h1
    have he : s.toList.isEmpty = false := by simpa using h1
    by_cases h2 : s.size ≤ 8
    · have e1 : Hid (nameB s = s.data.toList.all isSign) := Lib.hid (by
        have : (1 ≤ s.size ∧ s.size ≤ 8) := ⟨hp, h2⟩
        simp [nameB, this])
      go_enter Tryz.func14, Tryz.ntmps14
      go_wp2_with fail
      refine (trim_calls s signs w (by omega) (by decide) (by decide)).mono ?_
      rintro e w1 ⟨rfl, hb⟩
      have ht := trim_signs s
      generalize Lib.trimS s.data.toList signs.data.toList = t at *
      have HT := Lib.hid ht
      clear ht
      go_wp2_with fail
      go_ret
      exact ⟨ret_bool (by rw [e1.out, ← HT.out]), hb⟩
    · have e1 : Hid (nameB s = false) := Lib.hid (by
        have : ¬ (1 ≤ s.size ∧ s.size ≤ 8) := by omega
        simp [nameB, this])
      go_enter Tryz.func14, Tryz.ntmps14
      go_wp2_with fail
      go_ret
      exact ⟨ret_bool (by rw [e1.out]), Below.refl _ _⟩

def pinB (p : PinV) : Bool := p.on && nameB p.iface || (!p.on && decide (p.iface = ⟨#[]⟩) && decide (p.gate = 0))
theorem isPin_calls (p : PinV) (w : World) :
    Calls Tryz.prog 62 #[p.val] w fun e w' => e = .returned (.bool (pinB p)) ∧ Grows w w' := by
  obtain ⟨on, ifc, gate⟩ := p
  have he : PinV.val ⟨on, ifc, gate⟩ = .agg #[.bool on, .string ifc, .int .u32 gate] := rfl
  rw [he]
  clear he
  cases on with
  | true =>
    go_enter Tryz.func62, Tryz.ntmps62
    go_wp2_with fail
    refine (name_calls ifc _).mono ?_
    rintro e w1 ⟨rfl, hb⟩
    have hg := blkG (heap_alloc_new w _) hb
    have hbw := below_then (below_alloc (Below.refl w.heap.size w) (.cells #[.bool true, .string ifc, .int .u32 gate] 30)) (by simp) hb
    obtain ⟨n, hn⟩ : ∃ n, n = w.heap.size := ⟨_, rfl⟩
    rw [← hn] at hg ⊢
    clear hn
    have c0 : w1.cell? ⟨n, 0, none⟩ = some (.bool true) := (blk_cell hg 0).trans rfl
    have c1 : w1.cell? ⟨n, 1, none⟩ = some (.string ifc) := (blk_cell hg 1).trans rfl
    have c2 : w1.cell? ⟨n, 2, none⟩ = some (.int .u32 gate) := (blk_cell hg 2).trans rfl
    have HBW : Hid (Grows w w1) := Lib.hid hbw
    clear hg hb hbw
    cases hq : nameB ifc with
    | true =>
      go_wp2_with fail
      go_ret
      exact ⟨ret_bool (by simp [pinB, hq]), HBW.out⟩
    | false =>
      go_wp2_with fail
      go_ret
      exact ⟨ret_bool (by simp [pinB, hq]), HBW.out⟩
  | false =>
    go_enter Tryz.func62, Tryz.ntmps62
    go_wp2_with fail
    go_ret
    refine ⟨ret_bool ?_, below_alloc (Below.refl _ _) _⟩
    have : ifc.toList.isEmpty = decide (ifc = ⟨#[]⟩) := by
      rw [Bool.eq_iff_iff, List.isEmpty_iff, decide_eq_true_eq, ← toList_inj (s := ⟨#[]⟩)]
      rw [Lib.toList_data (⟨#[]⟩ : ByteArray)]
    simp only [pinB, this, Bool.false_and, Bool.false_or, Bool.not_false, Bool.true_and]
    rfl

/-! ### a rule's looks -/
def flagB (r : RuleV) : Bool := decide (0 ≤ r.mask) && decide (r.mask ≤ 63) && (Go.bits .andNot .i64 r.set r.mask == 0) && (r.mask == 0 || r.proto == 6)
def typeB (r : RuleV) : Bool := decide (-1 ≤ r.type) && decide (r.type ≤ 255) && (r.type == -1 || r.proto == 1)
def lookB (r : RuleV) : Bool := decide (0 ≤ r.proto) && decide (r.proto ≤ 255) && flagB r && typeB r
set_option maxHeartbeats 2000000 in
theorem isLook_calls (r : RuleV) (w : World) :
    Calls Tryz.prog 60 #[r.val] w fun e w' => e = .returned (.bool (lookB r)) ∧ Grows w w' := by
  have he : r.val = .agg r.cells := rfl
  rw [he, RuleV.cells]
  clear he
  have hf : Hid (flagB r = (decide (0 ≤ r.mask) && decide (r.mask ≤ 63) && (Go.bits .andNot .i64 r.set r.mask == 0) && (r.mask == 0 || r.proto == 6))) := Lib.hid rfl
  have ht : Hid (typeB r = (decide (-1 ≤ r.type) && decide (r.type ≤ 255) && (r.type == -1 || r.proto == 1))) := Lib.hid rfl
  have hl : Hid (lookB r = (decide (0 ≤ r.proto) && decide (r.proto ≤ 255) && flagB r && typeB r)) := Lib.hid rfl
  go_enter Tryz.func60, Tryz.ntmps60
  obtain ⟨n, hn⟩ : ∃ n, n = w.heap.size := ⟨_, rfl⟩
  have HN := Lib.hid hn
  clear hn
  go_upto_region 1 with fail
  go_cut [3, 1] (fun s3 s1 wc => s1 = .pointer (some ⟨n, 0, none⟩) ∧ s3 = .bool (flagB r) ∧ wc.heap[n]? = some (ruleBlk r) ∧ Grows w wc)
  case first =>
    cases hm : (r.mask == 0) with
    | true =>
      go_wp2_with fail
      all_goals go_meet
      all_goals refine ⟨by rw [HN.out], congrArg Value.bool ?_, by rw [HN.out]; exact heap_alloc_new w (ruleBlk r), below_alloc (Below.refl _ _) _⟩
      all_goals rw [hf.out]
      all_goals first | (simp [*]; done) | (simp [*]; omega)
    | false =>
      go_wp2_with fail
      all_goals go_meet
      all_goals refine ⟨by rw [HN.out], congrArg Value.bool ?_, by rw [HN.out]; exact heap_alloc_new w (ruleBlk r), below_alloc (Below.refl _ _) _⟩
      all_goals rw [hf.out]
      all_goals first | (simp [*]; done) | (simp [*]; omega)
  case rest =>
    obtain ⟨rfl, rfl, hg, hw⟩ := hcut
    have c4 : wc.cell? ⟨n, 4, none⟩ = some (.int .i64 r.proto) := (blk_cell hg 4).trans rfl
    have c7 : wc.cell? ⟨n, 19, none⟩ = some (.int .i64 r.type) := (blk_cell hg 19).trans rfl
    have HG := Lib.hid hg
    have HW := Lib.hid hw
    clear hg hw
    go_upto_region 2 with fail
    go_cut [4] (fun s4 wd => s4 = .bool (typeB r) ∧ wd = wc)
    case first =>
      cases hm : (r.type == -1) with
      | true =>
        go_wp2_with fail
        all_goals go_meet
        all_goals refine ⟨congrArg Value.bool ?_, rfl⟩
        all_goals rw [ht.out]
        all_goals first | (simp [*]; done) | (simp [*]; omega)
      | false =>
        go_wp2_with fail
        all_goals go_meet
        all_goals refine ⟨congrArg Value.bool ?_, rfl⟩
        all_goals rw [ht.out]
        all_goals first | (simp [*]; done) | (simp [*]; omega)
    case rest =>
      obtain ⟨rfl, rfl⟩ := hcut
      go_wp2_with fail
      all_goals go_ret
      all_goals refine ⟨ret_bool ?_, HW.out⟩
      all_goals rw [hl.out]
      all_goals first | (simp [*]; done) | (simp [*]; omega)
end Go.Proofs.YtomkohdlaednhaaGreatDoor
