import Derived.Test.YtomkohdlaednhaaGreatDoorAN
import Derived.Test.YtomkohdlaednhaaGreatDoorBF
set_option linter.unusedSimpArgs false
set_option linter.unusedVariables false
namespace Go.Proofs.YtomkohdlaednhaaGreatDoor
open Go.RowKit Go.Proofs.YtomkohdlaednhaaGreatDoorW.PrintWords PConfParses

theorem wf64 {x : Int} (h : (Lit.int .i64 x).wf = true) : -9223372036854775808 ≤ x ∧ x ≤ 9223372036854775807 := by
  simpa [Lit.wf, IntKind.min, IntKind.max, IntKind.signed, IntKind.bits] using h
set_option maxRecDepth 100000 in
set_option maxHeartbeats 4000000 in
theorem flags_out (s m : Int) (w : World) (he : Env w) (h : s < 0 ∨ (0 ≤ s ∧ 63 < s) ∨ (0 ≤ s ∧ s ≤ 63 ∧ m < 1) ∨ (0 ≤ s ∧ s ≤ 63 ∧ 1 ≤ m ∧ 63 < m)) :
    Calls Tryz.prog 6 #[.int .i64 s, .int .i64 m] w fun e w' => e = .returned (.bool true) ∧ Grows w w' := by
  have HE := Lib.hid he
  clear he
  rcases h with h | ⟨h0, h1⟩ | ⟨h0, h1, h2⟩ | ⟨h0, h1, h2, h3⟩
  all_goals
    go_enter Tryz.func6, Tryz.ntmps6
    go_wp2_with fail
    refine (known_calls w HE.out).mono ?_
    rintro e w1 ⟨rfl, hb⟩
    have HB := Lib.hid hb
    clear hb
    go_wp2_with fail
    go_ret
    exact ⟨rfl, HB.out⟩
theorem up_t {z : Int} {k : Nat} {L : ByteArray} (hb : bitB z k = true) (hl : L = letter k) : Value.string (ltrs z k ++ L) = Value.string (ltrs z (k + 1)) := by
  rw [hl, ltrs, if_pos hb]
theorem up_f {z : Int} {k : Nat} (hb : bitB z k = false) : Value.string (ltrs z k) = Value.string (ltrs z (k + 1)) := by
  rw [ltrs, if_neg (by rw [hb]; decide)]
theorem bitk {z : Int} {k : Nat} {d : Int} (h : (2 : Int) ^ k = d) : (Go.bits .and .i64 (z / d) 1 == 1) = bitB z k := by subst h; rfl
theorem bit0 (z : Int) : bitB z 0 = (Go.bits .and .i64 z 1 == 1) := by
  show (Go.bits .and .i64 (z / 2 ^ 0) 1 == 1) = _
  rw [Int.pow_zero, Int.ediv_one]
theorem flags_no32 : ∀ n : Fin 64, (32 : UInt8) ∉ (flagsS (n.val : Int)).data.toList ∧ (flagsS (n.val : Int)).size ≤ 6 := by decide +kernel
theorem flags_words (s m : Nat) (h1 : s ≤ 63) (h2 : 1 ≤ m) (h3 : m ≤ 63) : ∀ x ∈ toks (flagsV s m), IsWd x := by
  have e : toks (flagsV s m) = [passW, protoW, protoS 6, fromW, anyS, toW, anyS, flagsW, flagsP (flagsV s m)] := by
    have hm : ((m : Int) == 0) = false := by rw [beq_eq_false_iff_ne]; omega
    have e0 : emptyB ⟨#[]⟩ = true := by decide +kernel
    simp [toks, t3, t4, t5, t6, t7, t8, t9, t10, t11, t12, t13, t14, t15, t16, flagsV, zRef, zRule, anyV, sideT, portsT, headP, allPorts, hm, e0, opt, noPin]
  rw [e, flagsP_eq]
  have key : ∀ x ∈ [passW, protoW, protoS 6, fromW, anyS, toW, anyS, flagsW], x.data.toList ≠ [] ∧ (32 : UInt8) ∉ x.data.toList := by decide +kernel
  have hn := (flags_no32 ⟨s, by omega⟩).1
  have hm := (flags_no32 ⟨m, by omega⟩).1
  intro x hx
  rw [show [passW, protoW, protoS 6, fromW, anyS, toW, anyS, flagsW, flagsS (flagsV s m).set ++ ⟨#[47]⟩ ++ flagsS (flagsV s m).mask] = [passW, protoW, protoS 6, fromW, anyS, toW, anyS, flagsW] ++ [flagsS (flagsV s m).set ++ ⟨#[47]⟩ ++ flagsS (flagsV s m).mask] from rfl, List.mem_append, List.mem_singleton] at hx
  rcases hx with hx | rfl
  · exact key x hx
  · have e3 : (flagsS (flagsV s m).set ++ ⟨#[47]⟩ ++ flagsS (flagsV s m).mask).data.toList = (flagsS (s : Int)).data.toList ++ [47] ++ (flagsS (m : Int)).data.toList := by
      show (flagsS (s : Int) ++ ⟨#[47]⟩ ++ flagsS (m : Int)).data.toList = _
      simp [ByteArray.data_append]
    refine ⟨by rw [e3]; simp, ?_⟩
    rw [e3, List.mem_append, List.mem_append]
    rintro ((h | h) | h)
    · exact hn h
    · simp at h
    · exact hm h

set_option maxRecDepth 100000 in
set_option maxHeartbeats 16000000 in
theorem flags_in (s m : Nat) (w : World) (he : Env w) (h1 : s ≤ 63) (h2 : 1 ≤ m) (h3 : m ≤ 63) :
    Calls Tryz.prog 6 #[.int .i64 (s : Int), .int .i64 (m : Int)] w fun e w' => e = .returned (.bool true) ∧ Grows w w' := by
  have HE := Lib.hid he
  clear he
  have hl0 : Hid (ltrs (s : Int) 0 = ⟨#[]⟩ ∧ ltrs (m : Int) 0 = ⟨#[]⟩) := Lib.hid ⟨rfl, rfl⟩
  have g0 : (0 : Int) ≤ (s : Int) := by omega
  have g1 : (s : Int) ≤ 63 := by omega
  have g2 : (1 : Int) ≤ (m : Int) := by omega
  have g3 : (m : Int) ≤ 63 := by omega
  have HQ : Hid (∀ w1, Grows w w1 → Calls Tryz.prog 11 #[.string (preF ++ flagsS s ++ ⟨#[47]⟩ ++ flagsS m)] w1 fun e w' => e = .returned (.tuple #[(if (Go.bits .andNot .i64 s m == 0) then (flagsV s m, (0 : Int)) else (zRule, 2)).1.val, .int .i64 (if (Go.bits .andNot .i64 s m == 0) then (flagsV s m, (0 : Int)) else (zRule, 2)).2]) ∧ Grows w1 w') := Lib.hid (by
    intro w1 hg
    have hn := (flags_no32 ⟨s, by omega⟩).2
    have hm := (flags_no32 ⟨m, by omega⟩).2
    dsimp only at hn hm
    have := parse_calls (textOf (toks (flagsV s m))) w1 (by
      rw [flags_text s m (by omega)]
      simp only [ByteArray.size_append]
      have e1 : preF.size = 37 := by decide
      have e2 : (⟨#[47]⟩ : ByteArray).size = 1 := by decide
      omega) (HE.out.below hg)
    rw [words_text _ (flags_words s m h1 h2 h3), flags_rule s m g0 g1 g2 g3, flags_text s m (by omega)] at this
    exact this)
  have HF : Hid ((flagsS (s : Int) = (if ltrs (s : Int) 6 = ⟨#[]⟩ then ⟨#[45]⟩ else ltrs (s : Int) 6)) ∧ flagsS (m : Int) = ltrs (m : Int) 6 ∧ (ltrs (s : Int) 6).size ≤ 6 ∧ (ltrs (m : Int) 6).size ≤ 6) := Lib.hid (by
    have a := ltrs_flags ⟨s, by omega⟩
    have b := ltrs_flags ⟨m, by omega⟩
    have c := ltrs_small ⟨s, by omega⟩ 6
    have d := ltrs_small ⟨m, by omega⟩ 6
    refine ⟨a.1, ?_, c, d⟩
    have e := b.1
    rw [if_neg (b.2 (show m ≠ 0 by omega))] at e
    exact e)
  have HB : Hid (∀ k : Fin 7, (ltrs (s : Int) k.val).size ≤ 6 ∧ (ltrs (m : Int) k.val).size ≤ 6) := Lib.hid (fun k => ⟨ltrs_small ⟨s, by omega⟩ k, ltrs_small ⟨m, by omega⟩ k⟩)
  go_enter Tryz.func6, Tryz.ntmps6
  go_wp2_with fail
  go_loop [5, 6, 7] (fun v5 v6 v7 => ∃ (k : Nat) (i : Int), (k, i) ∈ [(0, (0 : Int)), (1, 1), (2, 2), (3, 3), (4, 4), (5, 5), (6, 6)] ∧ v7 = .int .i64 i ∧ v5 = .string (ltrs (s : Int) k) ∧ v6 = .string (ltrs (m : Int) k)) (fun _ _ v7 => (6 - intOf v7).toNat)
  case atStart => exact ⟨0, 0, by simp, rfl, by rw [hl0.out.1], by rw [hl0.out.2]⟩
  case round =>
    obtain ⟨k, i, hk, rfl, rfl, rfl⟩ := hrel
    simp only [List.mem_cons, Prod.mk.injEq, List.not_mem_nil, or_false] at hk
    rcases hk with ⟨rfl, rfl⟩ | ⟨rfl, rfl⟩ | ⟨rfl, rfl⟩ | ⟨rfl, rfl⟩ | ⟨rfl, rfl⟩ | ⟨rfl, rfl⟩ | ⟨rfl, rfl⟩
    · have y1 : (ltrs (s : Int) 0).size ≤ 6 := (HB.out 0).1
      have y2 : (ltrs (m : Int) 0).size ≤ 6 := (HB.out 0).2
      have z1 : ¬ 9223372036854775807 < (ltrs (s : Int) 0).size + 1 := by omega
      have z2 : ¬ 9223372036854775807 < (ltrs (m : Int) 0).size + 1 := by omega
      clear y1 y2
      have t1 : (Go.bits .and .i64 ((s : Int)) 1 == 1) = bitB (s : Int) 0 := (bit0 _).symm
      have t2 : (Go.bits .and .i64 ((m : Int)) 1 == 1) = bitB (m : Int) 0 := (bit0 _).symm
      cases hb1 : bitB (s : Int) 0 <;> cases hb2 : bitB (m : Int) 0 <;> rw [hb1] at t1 <;> rw [hb2] at t2
      case false.false =>
        have q1 := up_f hb1
        have q2 := up_f hb2
        go_wp2_with fail
        go_round
        case rel => exact ⟨1, 1, by simp, rfl, by first | with_reducible rfl | exact q1, by first | with_reducible rfl | exact q2⟩
        case measure => simp [intOf]
      case false.true =>
        have q1 := up_f hb1
        have q2 := up_t (L := (⟨#[70, 83, 82, 80, 65, 85]⟩ : ByteArray).extract 0 (0 + 1)) hb2 (by decide +kernel)
        go_wp2_with fail
        go_round
        case rel => exact ⟨1, 1, by simp, rfl, by first | with_reducible rfl | exact q1, by first | with_reducible rfl | exact q2⟩
        case measure => simp [intOf]
      case true.false =>
        have q1 := up_t (L := (⟨#[70, 83, 82, 80, 65, 85]⟩ : ByteArray).extract 0 (0 + 1)) hb1 (by decide +kernel)
        have q2 := up_f hb2
        go_wp2_with fail
        go_round
        case rel => exact ⟨1, 1, by simp, rfl, by first | with_reducible rfl | exact q1, by first | with_reducible rfl | exact q2⟩
        case measure => simp [intOf]
      case true.true =>
        have q1 := up_t (L := (⟨#[70, 83, 82, 80, 65, 85]⟩ : ByteArray).extract 0 (0 + 1)) hb1 (by decide +kernel)
        have q2 := up_t (L := (⟨#[70, 83, 82, 80, 65, 85]⟩ : ByteArray).extract 0 (0 + 1)) hb2 (by decide +kernel)
        go_wp2_with fail
        go_round
        case rel => exact ⟨1, 1, by simp, rfl, by first | with_reducible rfl | exact q1, by first | with_reducible rfl | exact q2⟩
        case measure => simp [intOf]
    · have y1 : (ltrs (s : Int) 1).size ≤ 6 := (HB.out 1).1
      have y2 : (ltrs (m : Int) 1).size ≤ 6 := (HB.out 1).2
      have z1 : ¬ 9223372036854775807 < (ltrs (s : Int) 1).size + 1 := by omega
      have z2 : ¬ 9223372036854775807 < (ltrs (m : Int) 1).size + 1 := by omega
      clear y1 y2
      have t1 : (Go.bits .and .i64 ((s : Int) / 2) 1 == 1) = bitB (s : Int) 1 := bitk (by decide)
      have t2 : (Go.bits .and .i64 ((m : Int) / 2) 1 == 1) = bitB (m : Int) 1 := bitk (by decide)
      cases hb1 : bitB (s : Int) 1 <;> cases hb2 : bitB (m : Int) 1 <;> rw [hb1] at t1 <;> rw [hb2] at t2
      case false.false =>
        have q1 := up_f hb1
        have q2 := up_f hb2
        go_wp2_with fail
        go_round
        case rel => exact ⟨2, 2, by simp, rfl, by first | with_reducible rfl | exact q1, by first | with_reducible rfl | exact q2⟩
        case measure => simp [intOf]
      case false.true =>
        have q1 := up_f hb1
        have q2 := up_t (L := (⟨#[70, 83, 82, 80, 65, 85]⟩ : ByteArray).extract 1 (1 + 1)) hb2 (by decide +kernel)
        go_wp2_with fail
        go_round
        case rel => exact ⟨2, 2, by simp, rfl, by first | with_reducible rfl | exact q1, by first | with_reducible rfl | exact q2⟩
        case measure => simp [intOf]
      case true.false =>
        have q1 := up_t (L := (⟨#[70, 83, 82, 80, 65, 85]⟩ : ByteArray).extract 1 (1 + 1)) hb1 (by decide +kernel)
        have q2 := up_f hb2
        go_wp2_with fail
        go_round
        case rel => exact ⟨2, 2, by simp, rfl, by first | with_reducible rfl | exact q1, by first | with_reducible rfl | exact q2⟩
        case measure => simp [intOf]
      case true.true =>
        have q1 := up_t (L := (⟨#[70, 83, 82, 80, 65, 85]⟩ : ByteArray).extract 1 (1 + 1)) hb1 (by decide +kernel)
        have q2 := up_t (L := (⟨#[70, 83, 82, 80, 65, 85]⟩ : ByteArray).extract 1 (1 + 1)) hb2 (by decide +kernel)
        go_wp2_with fail
        go_round
        case rel => exact ⟨2, 2, by simp, rfl, by first | with_reducible rfl | exact q1, by first | with_reducible rfl | exact q2⟩
        case measure => simp [intOf]
    · have y1 : (ltrs (s : Int) 2).size ≤ 6 := (HB.out 2).1
      have y2 : (ltrs (m : Int) 2).size ≤ 6 := (HB.out 2).2
      have z1 : ¬ 9223372036854775807 < (ltrs (s : Int) 2).size + 1 := by omega
      have z2 : ¬ 9223372036854775807 < (ltrs (m : Int) 2).size + 1 := by omega
      clear y1 y2
      have t1 : (Go.bits .and .i64 ((s : Int) / 4) 1 == 1) = bitB (s : Int) 2 := bitk (by decide)
      have t2 : (Go.bits .and .i64 ((m : Int) / 4) 1 == 1) = bitB (m : Int) 2 := bitk (by decide)
      cases hb1 : bitB (s : Int) 2 <;> cases hb2 : bitB (m : Int) 2 <;> rw [hb1] at t1 <;> rw [hb2] at t2
      case false.false =>
        have q1 := up_f hb1
        have q2 := up_f hb2
        go_wp2_with fail
        go_round
        case rel => exact ⟨3, 3, by simp, rfl, by first | with_reducible rfl | exact q1, by first | with_reducible rfl | exact q2⟩
        case measure => simp [intOf]
      case false.true =>
        have q1 := up_f hb1
        have q2 := up_t (L := (⟨#[70, 83, 82, 80, 65, 85]⟩ : ByteArray).extract 2 (2 + 1)) hb2 (by decide +kernel)
        go_wp2_with fail
        go_round
        case rel => exact ⟨3, 3, by simp, rfl, by first | with_reducible rfl | exact q1, by first | with_reducible rfl | exact q2⟩
        case measure => simp [intOf]
      case true.false =>
        have q1 := up_t (L := (⟨#[70, 83, 82, 80, 65, 85]⟩ : ByteArray).extract 2 (2 + 1)) hb1 (by decide +kernel)
        have q2 := up_f hb2
        go_wp2_with fail
        go_round
        case rel => exact ⟨3, 3, by simp, rfl, by first | with_reducible rfl | exact q1, by first | with_reducible rfl | exact q2⟩
        case measure => simp [intOf]
      case true.true =>
        have q1 := up_t (L := (⟨#[70, 83, 82, 80, 65, 85]⟩ : ByteArray).extract 2 (2 + 1)) hb1 (by decide +kernel)
        have q2 := up_t (L := (⟨#[70, 83, 82, 80, 65, 85]⟩ : ByteArray).extract 2 (2 + 1)) hb2 (by decide +kernel)
        go_wp2_with fail
        go_round
        case rel => exact ⟨3, 3, by simp, rfl, by first | with_reducible rfl | exact q1, by first | with_reducible rfl | exact q2⟩
        case measure => simp [intOf]
    · have y1 : (ltrs (s : Int) 3).size ≤ 6 := (HB.out 3).1
      have y2 : (ltrs (m : Int) 3).size ≤ 6 := (HB.out 3).2
      have z1 : ¬ 9223372036854775807 < (ltrs (s : Int) 3).size + 1 := by omega
      have z2 : ¬ 9223372036854775807 < (ltrs (m : Int) 3).size + 1 := by omega
      clear y1 y2
      have t1 : (Go.bits .and .i64 ((s : Int) / 8) 1 == 1) = bitB (s : Int) 3 := bitk (by decide)
      have t2 : (Go.bits .and .i64 ((m : Int) / 8) 1 == 1) = bitB (m : Int) 3 := bitk (by decide)
      cases hb1 : bitB (s : Int) 3 <;> cases hb2 : bitB (m : Int) 3 <;> rw [hb1] at t1 <;> rw [hb2] at t2
      case false.false =>
        have q1 := up_f hb1
        have q2 := up_f hb2
        go_wp2_with fail
        go_round
        case rel => exact ⟨4, 4, by simp, rfl, by first | with_reducible rfl | exact q1, by first | with_reducible rfl | exact q2⟩
        case measure => simp [intOf]
      case false.true =>
        have q1 := up_f hb1
        have q2 := up_t (L := (⟨#[70, 83, 82, 80, 65, 85]⟩ : ByteArray).extract 3 (3 + 1)) hb2 (by decide +kernel)
        go_wp2_with fail
        go_round
        case rel => exact ⟨4, 4, by simp, rfl, by first | with_reducible rfl | exact q1, by first | with_reducible rfl | exact q2⟩
        case measure => simp [intOf]
      case true.false =>
        have q1 := up_t (L := (⟨#[70, 83, 82, 80, 65, 85]⟩ : ByteArray).extract 3 (3 + 1)) hb1 (by decide +kernel)
        have q2 := up_f hb2
        go_wp2_with fail
        go_round
        case rel => exact ⟨4, 4, by simp, rfl, by first | with_reducible rfl | exact q1, by first | with_reducible rfl | exact q2⟩
        case measure => simp [intOf]
      case true.true =>
        have q1 := up_t (L := (⟨#[70, 83, 82, 80, 65, 85]⟩ : ByteArray).extract 3 (3 + 1)) hb1 (by decide +kernel)
        have q2 := up_t (L := (⟨#[70, 83, 82, 80, 65, 85]⟩ : ByteArray).extract 3 (3 + 1)) hb2 (by decide +kernel)
        go_wp2_with fail
        go_round
        case rel => exact ⟨4, 4, by simp, rfl, by first | with_reducible rfl | exact q1, by first | with_reducible rfl | exact q2⟩
        case measure => simp [intOf]
    · have y1 : (ltrs (s : Int) 4).size ≤ 6 := (HB.out 4).1
      have y2 : (ltrs (m : Int) 4).size ≤ 6 := (HB.out 4).2
      have z1 : ¬ 9223372036854775807 < (ltrs (s : Int) 4).size + 1 := by omega
      have z2 : ¬ 9223372036854775807 < (ltrs (m : Int) 4).size + 1 := by omega
      clear y1 y2
      have t1 : (Go.bits .and .i64 ((s : Int) / 16) 1 == 1) = bitB (s : Int) 4 := bitk (by decide)
      have t2 : (Go.bits .and .i64 ((m : Int) / 16) 1 == 1) = bitB (m : Int) 4 := bitk (by decide)
      cases hb1 : bitB (s : Int) 4 <;> cases hb2 : bitB (m : Int) 4 <;> rw [hb1] at t1 <;> rw [hb2] at t2
      case false.false =>
        have q1 := up_f hb1
        have q2 := up_f hb2
        go_wp2_with fail
        go_round
        case rel => exact ⟨5, 5, by simp, rfl, by first | with_reducible rfl | exact q1, by first | with_reducible rfl | exact q2⟩
        case measure => simp [intOf]
      case false.true =>
        have q1 := up_f hb1
        have q2 := up_t (L := (⟨#[70, 83, 82, 80, 65, 85]⟩ : ByteArray).extract 4 (4 + 1)) hb2 (by decide +kernel)
        go_wp2_with fail
        go_round
        case rel => exact ⟨5, 5, by simp, rfl, by first | with_reducible rfl | exact q1, by first | with_reducible rfl | exact q2⟩
        case measure => simp [intOf]
      case true.false =>
        have q1 := up_t (L := (⟨#[70, 83, 82, 80, 65, 85]⟩ : ByteArray).extract 4 (4 + 1)) hb1 (by decide +kernel)
        have q2 := up_f hb2
        go_wp2_with fail
        go_round
        case rel => exact ⟨5, 5, by simp, rfl, by first | with_reducible rfl | exact q1, by first | with_reducible rfl | exact q2⟩
        case measure => simp [intOf]
      case true.true =>
        have q1 := up_t (L := (⟨#[70, 83, 82, 80, 65, 85]⟩ : ByteArray).extract 4 (4 + 1)) hb1 (by decide +kernel)
        have q2 := up_t (L := (⟨#[70, 83, 82, 80, 65, 85]⟩ : ByteArray).extract 4 (4 + 1)) hb2 (by decide +kernel)
        go_wp2_with fail
        go_round
        case rel => exact ⟨5, 5, by simp, rfl, by first | with_reducible rfl | exact q1, by first | with_reducible rfl | exact q2⟩
        case measure => simp [intOf]
    · have y1 : (ltrs (s : Int) 5).size ≤ 6 := (HB.out 5).1
      have y2 : (ltrs (m : Int) 5).size ≤ 6 := (HB.out 5).2
      have z1 : ¬ 9223372036854775807 < (ltrs (s : Int) 5).size + 1 := by omega
      have z2 : ¬ 9223372036854775807 < (ltrs (m : Int) 5).size + 1 := by omega
      clear y1 y2
      have t1 : (Go.bits .and .i64 ((s : Int) / 32) 1 == 1) = bitB (s : Int) 5 := bitk (by decide)
      have t2 : (Go.bits .and .i64 ((m : Int) / 32) 1 == 1) = bitB (m : Int) 5 := bitk (by decide)
      cases hb1 : bitB (s : Int) 5 <;> cases hb2 : bitB (m : Int) 5 <;> rw [hb1] at t1 <;> rw [hb2] at t2
      case false.false =>
        have q1 := up_f hb1
        have q2 := up_f hb2
        go_wp2_with fail
        go_round
        case rel => exact ⟨6, 6, by simp, rfl, by first | with_reducible rfl | exact q1, by first | with_reducible rfl | exact q2⟩
        case measure => simp [intOf]
      case false.true =>
        have q1 := up_f hb1
        have q2 := up_t (L := (⟨#[70, 83, 82, 80, 65, 85]⟩ : ByteArray).extract 5 (5 + 1)) hb2 (by decide +kernel)
        go_wp2_with fail
        go_round
        case rel => exact ⟨6, 6, by simp, rfl, by first | with_reducible rfl | exact q1, by first | with_reducible rfl | exact q2⟩
        case measure => simp [intOf]
      case true.false =>
        have q1 := up_t (L := (⟨#[70, 83, 82, 80, 65, 85]⟩ : ByteArray).extract 5 (5 + 1)) hb1 (by decide +kernel)
        have q2 := up_f hb2
        go_wp2_with fail
        go_round
        case rel => exact ⟨6, 6, by simp, rfl, by first | with_reducible rfl | exact q1, by first | with_reducible rfl | exact q2⟩
        case measure => simp [intOf]
      case true.true =>
        have q1 := up_t (L := (⟨#[70, 83, 82, 80, 65, 85]⟩ : ByteArray).extract 5 (5 + 1)) hb1 (by decide +kernel)
        have q2 := up_t (L := (⟨#[70, 83, 82, 80, 65, 85]⟩ : ByteArray).extract 5 (5 + 1)) hb2 (by decide +kernel)
        go_wp2_with fail
        go_round
        case rel => exact ⟨6, 6, by simp, rfl, by first | with_reducible rfl | exact q1, by first | with_reducible rfl | exact q2⟩
        case measure => simp [intOf]
    · obtain ⟨hs6, hm6, hz1, hz2⟩ := HF.out
      rw [hm6, hs6] at HQ
      clear hs6 hm6 HF HB hl0
      generalize ltrs (m : Int) 6 = M at *
      generalize ltrs (s : Int) 6 = S at *
      have hsc : S = ⟨#[]⟩ ∨ (¬ S = ⟨#[]⟩ ∧ (S.toList == []) = false) := by
        by_cases h : S = ⟨#[]⟩
        · exact .inl h
        · refine .inr ⟨h, ?_⟩
          rw [beq_eq_false_iff_ne]
          intro e
          exact h (by rw [← mkB_eta S, ← Lib.toList_data, e]; rfl)
      rcases hsc with rfl | ⟨hsc1, hsc⟩
      · rw [if_pos rfl] at HQ
        go_wp2_with fail
        cases hc : (Go.bits .andNot .i64 (s : Int) m == 0)
        case true =>
          rw [hc, if_pos rfl] at HQ
          refine (HQ.out w (Below.refl _ _)).mono ?_
          clear HQ
          have he0 : (flagsV (s : Int) m, (0 : Int)).1.val = .agg (flagsV (s : Int) m).cells := rfl
          rw [he0]
          rintro e w1 ⟨rfl, hb⟩
          have HW1 := Lib.hid hb
          have HZ := Lib.hid (heap_alloc_new w1 (ruleBlk zRule))
          clear hb he0
          go_upto_region 14 with (refine wpList_store_row rfl 32 (.tmp 8) (.tmp 62) rfl w1.heap.size (flagsV (s : Int) m).cells rfl rfl 32 zRule.cells HZ.out (by kernel_rfl) rfl (rule_one _) ?_)
          rw [lit32]
          obtain ⟨w5, e5⟩ : ∃ w5, w5 = (w1.alloc (ruleBlk zRule)).setRow w1.heap.size (flagsV (s : Int) m).cells := ⟨_, rfl⟩
          have h5 := row_laid HW1.out (flagsV (s : Int) m).cells
          rw [← e5] at h5 ⊢
          have HR5 := Lib.hid h5.1
          have HW5 : Hid (Grows w w5) := Lib.hid (below_then HW1.out HW1.out.size h5.2)
          clear e5 h5 HZ
          obtain ⟨b1, hb1⟩ : ∃ b1, b1 = w1.heap.size := ⟨_, rfl⟩
          rw [← hb1] at HR5 ⊢
          clear hb1 HW1
          have c1 : w5.cell? ⟨b1, 17, none⟩ = some (.int .i64 (s : Int)) := (blk_cell HR5.out 17).trans rfl
          have c2 : w5.cell? ⟨b1, 18, none⟩ = some (.int .i64 (m : Int)) := (blk_cell HR5.out 18).trans rfl
          go_wp2_with fail
          refine (known_calls w5 (HE.out.below HW5.out)).mono ?_
          rintro e w6 ⟨rfl, hb⟩
          have HW6 : Hid (Grows w w6) := Lib.hid (below_then HW5.out HW5.out.size hb)
          clear hb HW5 c1 c2
          go_wp2_with fail
          go_ret
          exact ⟨rfl, HW6.out⟩
        case false =>
          rw [hc, if_neg (by decide)] at HQ
          refine (HQ.out w (Below.refl _ _)).mono ?_
          clear HQ
          have he0 : (zRule, (2 : Int)).1.val = .agg zRule.cells := rfl
          rw [he0]
          rintro e w1 ⟨rfl, hb⟩
          have HW1 := Lib.hid hb
          have HZ := Lib.hid (heap_alloc_new w1 (ruleBlk zRule))
          clear hb he0
          go_upto_region 14 with (refine wpList_store_row rfl 32 (.tmp 8) (.tmp 62) rfl w1.heap.size zRule.cells rfl rfl 32 zRule.cells HZ.out (by kernel_rfl) rfl (rule_one _) ?_)
          rw [lit32]
          obtain ⟨w5, e5⟩ : ∃ w5, w5 = (w1.alloc (ruleBlk zRule)).setRow w1.heap.size zRule.cells := ⟨_, rfl⟩
          have h5 := row_laid HW1.out zRule.cells
          rw [← e5] at h5 ⊢
          have HW5 : Hid (Grows w w5) := Lib.hid (below_then HW1.out HW1.out.size h5.2)
          clear e5 h5 HZ HW1
          go_wp2_with fail
          refine (known_calls w5 (HE.out.below HW5.out)).mono ?_
          rintro e w6 ⟨rfl, hb⟩
          have HW6 : Hid (Grows w w6) := Lib.hid (below_then HW5.out HW5.out.size hb)
          clear hb HW5
          go_wp2_with fail
          go_ret
          exact ⟨rfl, HW6.out⟩
      · rw [if_neg hsc1] at HQ
        go_wp2_with fail
        cases hc : (Go.bits .andNot .i64 (s : Int) m == 0)
        case true =>
          rw [hc, if_pos rfl] at HQ
          refine (HQ.out w (Below.refl _ _)).mono ?_
          clear HQ
          have he0 : (flagsV (s : Int) m, (0 : Int)).1.val = .agg (flagsV (s : Int) m).cells := rfl
          rw [he0]
          rintro e w1 ⟨rfl, hb⟩
          have HW1 := Lib.hid hb
          have HZ := Lib.hid (heap_alloc_new w1 (ruleBlk zRule))
          clear hb he0
          go_upto_region 14 with (refine wpList_store_row rfl 32 (.tmp 8) (.tmp 62) rfl w1.heap.size (flagsV (s : Int) m).cells rfl rfl 32 zRule.cells HZ.out (by kernel_rfl) rfl (rule_one _) ?_)
          rw [lit32]
          obtain ⟨w5, e5⟩ : ∃ w5, w5 = (w1.alloc (ruleBlk zRule)).setRow w1.heap.size (flagsV (s : Int) m).cells := ⟨_, rfl⟩
          have h5 := row_laid HW1.out (flagsV (s : Int) m).cells
          rw [← e5] at h5 ⊢
          have HR5 := Lib.hid h5.1
          have HW5 : Hid (Grows w w5) := Lib.hid (below_then HW1.out HW1.out.size h5.2)
          clear e5 h5 HZ
          obtain ⟨b1, hb1⟩ : ∃ b1, b1 = w1.heap.size := ⟨_, rfl⟩
          rw [← hb1] at HR5 ⊢
          clear hb1 HW1
          have c1 : w5.cell? ⟨b1, 17, none⟩ = some (.int .i64 (s : Int)) := (blk_cell HR5.out 17).trans rfl
          have c2 : w5.cell? ⟨b1, 18, none⟩ = some (.int .i64 (m : Int)) := (blk_cell HR5.out 18).trans rfl
          go_wp2_with fail
          refine (known_calls w5 (HE.out.below HW5.out)).mono ?_
          rintro e w6 ⟨rfl, hb⟩
          have HW6 : Hid (Grows w w6) := Lib.hid (below_then HW5.out HW5.out.size hb)
          clear hb HW5 c1 c2
          go_wp2_with fail
          go_ret
          exact ⟨rfl, HW6.out⟩
        case false =>
          rw [hc, if_neg (by decide)] at HQ
          refine (HQ.out w (Below.refl _ _)).mono ?_
          clear HQ
          have he0 : (zRule, (2 : Int)).1.val = .agg zRule.cells := rfl
          rw [he0]
          rintro e w1 ⟨rfl, hb⟩
          have HW1 := Lib.hid hb
          have HZ := Lib.hid (heap_alloc_new w1 (ruleBlk zRule))
          clear hb he0
          go_upto_region 14 with (refine wpList_store_row rfl 32 (.tmp 8) (.tmp 62) rfl w1.heap.size zRule.cells rfl rfl 32 zRule.cells HZ.out (by kernel_rfl) rfl (rule_one _) ?_)
          rw [lit32]
          obtain ⟨w5, e5⟩ : ∃ w5, w5 = (w1.alloc (ruleBlk zRule)).setRow w1.heap.size zRule.cells := ⟨_, rfl⟩
          have h5 := row_laid HW1.out zRule.cells
          rw [← e5] at h5 ⊢
          have HW5 : Hid (Grows w w5) := Lib.hid (below_then HW1.out HW1.out.size h5.2)
          clear e5 h5 HZ HW1
          go_wp2_with fail
          refine (known_calls w5 (HE.out.below HW5.out)).mono ?_
          rintro e w6 ⟨rfl, hb⟩
          have HW6 : Hid (Grows w w6) := Lib.hid (below_then HW5.out HW5.out.size hb)
          clear hb HW5
          go_wp2_with fail
          go_ret
          exact ⟨rfl, HW6.out⟩
theorem lawFlags_calls (x0 x1 : Int) (w : World) (he : Env w) (h0 : -9223372036854775808 ≤ x0 ∧ x0 ≤ 9223372036854775807) (h1 : -9223372036854775808 ≤ x1 ∧ x1 ≤ 9223372036854775807) :
    Calls Tryz.prog 6 #[.int .i64 x0, .int .i64 x1] w fun e w' => e = .returned (.bool true) ∧ Grows w w' := by
  by_cases h : 0 ≤ x0 ∧ x0 ≤ 63 ∧ 1 ≤ x1 ∧ x1 ≤ 63
  · obtain ⟨s, rfl⟩ := Int.eq_ofNat_of_zero_le h.1
    obtain ⟨m, rfl⟩ := Int.eq_ofNat_of_zero_le (show 0 ≤ x1 by omega)
    exact flags_in s m w he (by omega) (by omega) (by omega)
  · exact flags_out x0 x1 w he (by omega)
end Go.Proofs.YtomkohdlaednhaaGreatDoor
