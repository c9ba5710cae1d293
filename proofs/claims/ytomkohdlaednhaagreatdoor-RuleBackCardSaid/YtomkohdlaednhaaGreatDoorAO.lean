import Derived.Test.YtomkohdlaednhaaGreatDoorBA
import Derived.WideShapes
import Derived.Carry
import Derived.ProofKit
set_option linter.unusedSimpArgs false
set_option linter.unusedVariables false
set_option maxRecDepth 100000
namespace Go.Proofs.YtomkohdlaednhaaGreatDoor
open Go.RowKit

/-! ### a rule that comes in: what its cells hold -/
theorem cell_bool {W : World} {b : Nat} {v : Value} (h : Cell.okWide Tryz.prog W .any b 4 v) : ∃ x, v = .bool x := by
  simp only [Cell.okWide, Tryz.underlying4] at h
  cases v <;> simp_all [Cell.ok]
theorem cell_str {W : World} {b : Nat} {v : Value} (h : Cell.okWide Tryz.prog W .any b 9 v) : ∃ s, v = .string s ∧ s.size ≤ 9223372036854775807 := by
  simp only [Cell.okWide, Tryz.underlying9] at h
  cases v with
  | string s =>
    refine ⟨s, rfl, ?_⟩
    simp only [Cell.ok, Tryz.underlying9] at h
    have e : IntKind.i64.max = 9223372036854775807 := rfl
    rw [e] at h
    omega
  | _ => simp_all [Cell.ok]
theorem cell_i64 {W : World} {b : Nat} {v : Value} (h : Cell.okWide Tryz.prog W .any b 3 v) : ∃ n, v = .int .i64 n ∧ -9223372036854775808 ≤ n ∧ n ≤ 9223372036854775807 := by
  simp only [Cell.okWide, Tryz.underlying3] at h
  cases v with
  | int k n =>
    simp only [Cell.ok, Tryz.underlying3] at h
    obtain ⟨rfl, h1, h2⟩ := h
    have e1 : IntKind.i64.max = 9223372036854775807 := rfl
    have e2 : IntKind.i64.min = -9223372036854775808 := rfl
    rw [e2] at h1; rw [e1] at h2
    exact ⟨n, rfl, h1, h2⟩
  | _ => simp_all [Cell.ok]
theorem cell_u32 {W : World} {b : Nat} {v : Value} (h : Cell.okWide Tryz.prog W .any b 22 v) : ∃ n, v = .int .u32 n ∧ 0 ≤ n ∧ n < 4294967296 := by
  simp only [Cell.okWide, Tryz.underlying22] at h
  cases v with
  | int k n =>
    simp only [Cell.ok, Tryz.underlying22] at h
    obtain ⟨rfl, h1, h2⟩ := h
    have e1 : IntKind.u32.max = 4294967295 := rfl
    have e2 : IntKind.u32.min = 0 := rfl
    rw [e2] at h1; rw [e1] at h2
    exact ⟨n, rfl, h1, by omega⟩
  | _ => simp_all [Cell.ok]
def ruleTys : List TypeId := [4, 4, 4, 9, 3, 4, 9, 22, 3, 3, 3, 4, 9, 22, 3, 3, 3, 3, 3, 3, 4, 4, 9, 22, 4, 9, 22, 3]
set_option maxRecDepth 100000 in
theorem rule_tys : Tryz.prog.cellTypes Tryz.prog.depth 32 = some ruleTys := by kernel_rfl
theorem rule_size : Tryz.prog.cellsOf 32 = 28 := by kernel_rfl
set_option maxRecDepth 100000 in
set_option maxHeartbeats 2000000 in
theorem rule_arg {W : World} {b : Nat} {v : Value} (h : Value.okWide Tryz.prog W .any b 32 v) :
    ∃ r : RuleV, v = .agg r.cells ∧ Small r ∧ (0 ≤ r.src.addr ∧ r.src.addr < 4294967296) ∧ (0 ≤ r.dst.addr ∧ r.dst.addr < 4294967296) ∧ (0 ≤ r.route.gate ∧ r.route.gate < 4294967296) ∧ (0 ≤ r.reply.gate ∧ r.reply.gate < 4294967296) ∧
      (-9223372036854775808 ≤ r.set ∧ r.set ≤ 9223372036854775807) := by
  simp only [Value.okWide, Tryz.underlying32] at h
  obtain ⟨cs, rfl, hsz, ts, hts, _, hc⟩ := h
  rw [rule_size] at hsz
  obtain rfl : ts = ruleTys := Option.some.inj (hts.symm.trans rule_tys)
  have hc' : ∀ (i : Nat) (v : Value) (u : TypeId), i < 28 → cs[i]? = some v → ruleTys[i]? = some u → Cell.okWide Tryz.prog W .any b u v := by
    intro i v u hi hv hu
    obtain ⟨u', hu', h⟩ := hc i v hv
    rw [show ruleTys.length = 28 from rfl, Nat.mod_eq_of_lt hi, hu] at hu'
    rw [Option.some.inj hu']
    exact h
  have get : ∀ i, i < 28 → ∃ v, cs[i]? = some v := fun i hi => ⟨cs[i]'(by omega), Array.getElem?_eq_getElem (by omega)⟩
  obtain ⟨v0, g0⟩ := get 0 (by omega); obtain ⟨x0, rfl⟩ := cell_bool (hc' 0 _ 4 (by omega) g0 rfl)
  obtain ⟨v1, g1⟩ := get 1 (by omega); obtain ⟨x1, rfl⟩ := cell_bool (hc' 1 _ 4 (by omega) g1 rfl)
  obtain ⟨v2, g2⟩ := get 2 (by omega); obtain ⟨x2, rfl⟩ := cell_bool (hc' 2 _ 4 (by omega) g2 rfl)
  obtain ⟨v3, g3⟩ := get 3 (by omega); obtain ⟨x3, rfl, s3⟩ := cell_str (hc' 3 _ 9 (by omega) g3 rfl)
  obtain ⟨v4, g4⟩ := get 4 (by omega); obtain ⟨x4, rfl, s4⟩ := cell_i64 (hc' 4 _ 3 (by omega) g4 rfl)
  obtain ⟨v5, g5⟩ := get 5 (by omega); obtain ⟨x5, rfl⟩ := cell_bool (hc' 5 _ 4 (by omega) g5 rfl)
  obtain ⟨v6, g6⟩ := get 6 (by omega); obtain ⟨x6, rfl, s6⟩ := cell_str (hc' 6 _ 9 (by omega) g6 rfl)
  obtain ⟨v7, g7⟩ := get 7 (by omega); obtain ⟨x7, rfl, s7⟩ := cell_u32 (hc' 7 _ 22 (by omega) g7 rfl)
  obtain ⟨v8, g8⟩ := get 8 (by omega); obtain ⟨x8, rfl, s8⟩ := cell_i64 (hc' 8 _ 3 (by omega) g8 rfl)
  obtain ⟨v9, g9⟩ := get 9 (by omega); obtain ⟨x9, rfl, s9⟩ := cell_i64 (hc' 9 _ 3 (by omega) g9 rfl)
  obtain ⟨v10, g10⟩ := get 10 (by omega); obtain ⟨x10, rfl, s10⟩ := cell_i64 (hc' 10 _ 3 (by omega) g10 rfl)
  obtain ⟨v11, g11⟩ := get 11 (by omega); obtain ⟨x11, rfl⟩ := cell_bool (hc' 11 _ 4 (by omega) g11 rfl)
  obtain ⟨v12, g12⟩ := get 12 (by omega); obtain ⟨x12, rfl, s12⟩ := cell_str (hc' 12 _ 9 (by omega) g12 rfl)
  obtain ⟨v13, g13⟩ := get 13 (by omega); obtain ⟨x13, rfl, s13⟩ := cell_u32 (hc' 13 _ 22 (by omega) g13 rfl)
  obtain ⟨v14, g14⟩ := get 14 (by omega); obtain ⟨x14, rfl, s14⟩ := cell_i64 (hc' 14 _ 3 (by omega) g14 rfl)
  obtain ⟨v15, g15⟩ := get 15 (by omega); obtain ⟨x15, rfl, s15⟩ := cell_i64 (hc' 15 _ 3 (by omega) g15 rfl)
  obtain ⟨v16, g16⟩ := get 16 (by omega); obtain ⟨x16, rfl, s16⟩ := cell_i64 (hc' 16 _ 3 (by omega) g16 rfl)
  obtain ⟨v17, g17⟩ := get 17 (by omega); obtain ⟨x17, rfl, s17⟩ := cell_i64 (hc' 17 _ 3 (by omega) g17 rfl)
  obtain ⟨v18, g18⟩ := get 18 (by omega); obtain ⟨x18, rfl, s18⟩ := cell_i64 (hc' 18 _ 3 (by omega) g18 rfl)
  obtain ⟨v19, g19⟩ := get 19 (by omega); obtain ⟨x19, rfl, s19⟩ := cell_i64 (hc' 19 _ 3 (by omega) g19 rfl)
  obtain ⟨v20, g20⟩ := get 20 (by omega); obtain ⟨x20, rfl⟩ := cell_bool (hc' 20 _ 4 (by omega) g20 rfl)
  obtain ⟨v21, g21⟩ := get 21 (by omega); obtain ⟨x21, rfl⟩ := cell_bool (hc' 21 _ 4 (by omega) g21 rfl)
  obtain ⟨v22, g22⟩ := get 22 (by omega); obtain ⟨x22, rfl, s22⟩ := cell_str (hc' 22 _ 9 (by omega) g22 rfl)
  obtain ⟨v23, g23⟩ := get 23 (by omega); obtain ⟨x23, rfl, s23⟩ := cell_u32 (hc' 23 _ 22 (by omega) g23 rfl)
  obtain ⟨v24, g24⟩ := get 24 (by omega); obtain ⟨x24, rfl⟩ := cell_bool (hc' 24 _ 4 (by omega) g24 rfl)
  obtain ⟨v25, g25⟩ := get 25 (by omega); obtain ⟨x25, rfl, s25⟩ := cell_str (hc' 25 _ 9 (by omega) g25 rfl)
  obtain ⟨v26, g26⟩ := get 26 (by omega); obtain ⟨x26, rfl, s26⟩ := cell_u32 (hc' 26 _ 22 (by omega) g26 rfl)
  obtain ⟨v27, g27⟩ := get 27 (by omega); obtain ⟨x27, rfl, s27⟩ := cell_i64 (hc' 27 _ 3 (by omega) g27 rfl)
  refine ⟨⟨x0, x1, x2, x3, x4, ⟨x5, x6, x7, x8, x9, x10⟩, ⟨x11, x12, x13, x14, x15, x16⟩, x17, x18, x19, x20, ⟨x21, x22, x23⟩, ⟨x24, x25, x26⟩, x27⟩, ?_, ⟨s3, s6, s12, s22, s25⟩, s7, s13, s23, s26, s17⟩
  congr 1
  apply Array.ext_getElem?
  intro i
  by_cases hi : i < 28
  · match i, hi with
    | 0, _ => exact g0
    | 1, _ => exact g1
    | 2, _ => exact g2
    | 3, _ => exact g3
    | 4, _ => exact g4
    | 5, _ => exact g5
    | 6, _ => exact g6
    | 7, _ => exact g7
    | 8, _ => exact g8
    | 9, _ => exact g9
    | 10, _ => exact g10
    | 11, _ => exact g11
    | 12, _ => exact g12
    | 13, _ => exact g13
    | 14, _ => exact g14
    | 15, _ => exact g15
    | 16, _ => exact g16
    | 17, _ => exact g17
    | 18, _ => exact g18
    | 19, _ => exact g19
    | 20, _ => exact g20
    | 21, _ => exact g21
    | 22, _ => exact g22
    | 23, _ => exact g23
    | 24, _ => exact g24
    | 25, _ => exact g25
    | 26, _ => exact g26
    | 27, _ => exact g27
    | k + 28, h => omega
  · rw [Array.getElem?_eq_none (by omega), Array.getElem?_eq_none (by simp [RuleV.cells]; omega)]
end Go.Proofs.YtomkohdlaednhaaGreatDoor
