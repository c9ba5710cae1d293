import Derived.Test.YtomkohdlaednhaaGreatDoorAN
import Derived.Test.YtomkohdlaednhaaGreatDoorBG
set_option linter.unusedSimpArgs false
set_option linter.unusedVariables false
namespace Go.Proofs.YtomkohdlaednhaaGreatDoor
open Go.RowKit Go.Proofs.YtomkohdlaednhaaGreatDoorW.PrintWords PConfParses

theorem wf64p {x : Int} (h : (Lit.int .i64 x).wf = true) : -9223372036854775808 ≤ x ∧ x ≤ 9223372036854775807 := by
  simpa [Lit.wf, IntKind.min, IntKind.max, IntKind.signed, IntKind.bits] using h
set_option maxRecDepth 100000 in
set_option maxHeartbeats 4000000 in
theorem ports_out (a b c : Int) (w : World) (he : Env w) (h : a < 0 ∨ (0 ≤ a ∧ 99999 < a) ∨ (0 ≤ a ∧ a ≤ 99999 ∧ b < 0) ∨ (0 ≤ a ∧ a ≤ 99999 ∧ 0 ≤ b ∧ 99999 < b) ∨ (0 ≤ a ∧ a ≤ 99999 ∧ 0 ≤ b ∧ b ≤ 99999 ∧ c < 1) ∨ (0 ≤ a ∧ a ≤ 99999 ∧ 0 ≤ b ∧ b ≤ 99999 ∧ 1 ≤ c ∧ 255 < c)) :
    Calls Tryz.prog 7 #[.int .i64 a, .int .i64 b, .int .i64 c] w fun e w' => e = .returned (.bool true) ∧ Grows w w' := by
  have HE := Lib.hid he
  clear he
  rcases h with h | ⟨h0, h1⟩ | ⟨h0, h1, h2⟩ | ⟨h0, h1, h2, h3⟩ | ⟨h0, h1, h2, h3, h4⟩ | ⟨h0, h1, h2, h3, h4, h5⟩
  all_goals
    go_enter Tryz.func7, Tryz.ntmps7
    go_wp2_with fail
    refine (known_calls w HE.out).mono ?_
    rintro e w1 ⟨rfl, hb⟩
    have HB := Lib.hid hb
    clear hb
    go_wp2_with fail
    go_ret
    exact ⟨rfl, HB.out⟩
/-- What a law's text is read as. -/
structure ReadAs (T : ByteArray) (V : RuleV) (k : Int) (w : World) : Prop where
  parse : ∀ w1, Grows w w1 → Calls Tryz.prog 11 #[.string T] w1 fun e w' => e = .returned (.tuple #[.agg V.cells, .int .i64 k]) ∧ Grows w1 w'
  rparse : ∀ w1, Grows w w1 → Calls Tryz.prog 12 #[.string T] w1 fun e w' => e = .returned (.tuple #[.agg V.cells, .int .i64 k]) ∧ Grows w1 w'
theorem read_as (T : List ByteArray) (w : World) (he : Env w) (hT : ∀ x ∈ T, IsWd x) (hz : (textOf T).size ≤ 400) : ReadAs (textOf T) (ruleOf T).1 (ruleOf T).2 w := by
  constructor
  · intro w1 h1
    have := parse_calls (textOf T) w1 (by omega) (he.below h1)
    rw [words_text T hT] at this
    exact this
  · intro w1 h1
    have := rparse_calls (textOf T) w1 (by omega) (he.below h1)
    rw [parse_same, words_text T hT] at this
    exact this
def nm0 (p : Nat) : ByteArray := mkB (Lib.decDigits p)
def nm1 (p : Nat) : ByteArray := if (p : Int) = 1 then icmpS else nm0 p
def nm2 (p : Nat) : ByteArray := if (p : Int) = 6 then tcpS else nm1 p
def nm3 (p : Nat) : ByteArray := if (p : Int) = 17 then udpS else nm2 p
theorem nm_eq (p : Nat) : nm3 p = protoS (p : Int) := by
  rw [protoS, Lib.itoa_nonneg, nm3, nm2, nm1, nm0]
  by_cases h1 : (p : Int) = 1
  · rw [if_neg (by omega), if_neg (by omega), if_pos h1, if_pos h1]
  · by_cases h2 : (p : Int) = 6
    · rw [if_neg (by omega), if_pos h2, if_neg h1, if_pos h2]
    · by_cases h3 : (p : Int) = 17
      · rw [if_pos h3, if_neg h1, if_neg h2, if_pos h3]
      · rw [if_neg h3, if_neg h2, if_neg h1, if_neg h1, if_neg h2, if_neg h3]; rfl
theorem rng_same (u : Nat) : rngS u u = mkB (Lib.decDigits u) := by rw [rngS, rngL, if_pos rfl, List.append_nil]
theorem rng_two {u v : Nat} (h : ¬ u = v) : rngS u v = mkB (Lib.decDigits u) ++ ⟨#[58]⟩ ++ mkB (Lib.decDigits v) := by
  rw [rngS, rngL, if_neg h, ← mkB_eta ⟨#[58]⟩, mkB_app, mkB_app]; simp
set_option maxRecDepth 100000 in
set_option maxHeartbeats 16000000 in
/-- One way of the law: a name N, a range's text built so. -/
theorem ports_way (u v p : Nat) (w : World) (he : Env w) (h1 : u ≤ 99999) (h2 : v ≤ 99999) (h3 : 1 ≤ p) (h4 : p ≤ 255) :
    Calls Tryz.prog 7 #[.int .i64 (u : Int), .int .i64 (v : Int), .int .i64 (p : Int)] w fun e w' => e = .returned (.bool true) ∧ Grows w w' := by
  have HE := Lib.hid he
  have g0 : (0 : Int) ≤ (u : Int) := by omega
  have g1 : (u : Int) ≤ 99999 := by omega
  have g2 : (0 : Int) ≤ (v : Int) := by omega
  have g3 : (v : Int) ≤ 99999 := by omega
  have g4 : (1 : Int) ≤ (p : Int) := by omega
  have g5 : (p : Int) ≤ 255 := by omega
  have hpz := (protoS_ok ⟨p, by omega⟩ (by show p ≠ 0; omega)).2.2
  dsimp only at hpz
  have hrz : (rngS u v).size ≤ 11 := by rw [rngS, mkB_size]; exact rng_len u v h1 h2
  have HT : Hid (ReadAs (preP ++ protoS (p : Int) ++ midP ++ rngS u v ++ endP) (ruleOf (portsW u v p)).1 (ruleOf (portsW u v p)).2 w) := Lib.hid (by
    have := read_as (portsW u v p) w he (ports_words u v p h3 h4) (by
      rw [ports_text]
      simp only [ByteArray.size_append]
      have e1 : preP.size = 12 := by decide
      have e2 : midP.size = 15 := by decide
      have e3 : endP.size = 7 := by decide
      omega)
    rw [ports_text] at this
    exact this)
  have HK : Hid (((ruleOf (portsW u v p)).2 = 0 ∧ mayB u v p = true) ∨ ((ruleOf (portsW u v p)).2 = 2 ∧ mayB u v p = false)) := Lib.hid (by
    rw [ports_rule u v p (by omega) (by omega) h3 h4]
    cases mayB u v p
    · exact .inr ⟨rfl, rfl⟩
    · exact .inl ⟨rfl, rfl⟩)
  generalize (ruleOf (portsW u v p)).1 = V at HT HK
  generalize (ruleOf (portsW u v p)).2 = k at HT HK
  have hsame : ∀ w1, Calls Tryz.prog 13 #[.agg V.cells, .agg V.cells] w1 fun e w' => e = .returned (.bool true) ∧ Grows w1 w' := fun w1 => by
    have := rsame_calls V V w1
    rw [sameB_refl] at this
    exact this
  have HSM := Lib.hid hsame
  have HM : Hid (mayB u v p = (decide ((u : Int) ≤ v) && decide ((v : Int) ≤ 65535) && (decide ((p : Int) = 6) || decide ((p : Int) = 17) || (decide ((u : Int) = 0) && decide ((v : Int) = 65535))))) := Lib.hid (by
    have e1 : ((u : Int) ≤ (v : Int)) ↔ u ≤ v := by omega
    have e2 : ((v : Int) ≤ 65535) ↔ v ≤ 65535 := by omega
    have e3 : ((u : Int) = 0) ↔ u = 0 := by omega
    have e4 : ((v : Int) = 65535) ↔ v = 65535 := by omega
    have e5 : ((p : Int) = 6) ↔ p = 6 := by omega
    have e6 : ((p : Int) = 17) ↔ p = 17 := by omega
    simp only [mayB, e1, e2, e3, e4, e5, e6])
  have hu5 : (mkB (Lib.decDigits u)).size ≤ 5 := by rw [mkB_size]; exact dec_len 5 u (by omega) (by omega)
  have hv5 : (mkB (Lib.decDigits v)).size ≤ 5 := by rw [mkB_size]; exact dec_len 5 v (by omega) (by omega)
  clear he hsame
  go_enter Tryz.func7, Tryz.ntmps7
  go_wp2_with fail
  refine (Dec_calls p w (by omega)).mono ?_
  rintro e w1 ⟨rfl, hb⟩
  have HW1 : Hid (Grows w w1) := Lib.hid hb
  clear hb
  have hn0 : mkB (Lib.decDigits p) = nm0 p := rfl
  rw [hn0]
  clear hn0
  go_upto_if 42 with fail
  go_cut [7] (fun s7 wx => s7 = .string (nm1 p) ∧ wx = w1)
  case first =>
    as_aux_lemma =>
    by_cases hp : (p : Int) = 1
    · go_wp2_with fail
      go_meet
      exact ⟨by rw [nm1, if_pos hp]; rfl, rfl⟩
    · go_wp2_with fail
      go_meet
      exact ⟨by rw [nm1, if_neg hp], rfl⟩
  case rest =>
  as_aux_lemma =>
  obtain ⟨rfl, rfl⟩ := hcut
  go_upto_if 44 with fail
  go_cut [7] (fun s7 wx => s7 = .string (nm2 p) ∧ wx = wc)
  case first =>
    as_aux_lemma =>
    by_cases hp : (p : Int) = 6
    · go_wp2_with fail
      go_meet
      exact ⟨by rw [nm2, if_pos hp]; rfl, rfl⟩
    · go_wp2_with fail
      go_meet
      exact ⟨by rw [nm2, if_neg hp], rfl⟩
  case rest =>
  as_aux_lemma =>
  obtain ⟨rfl, rfl⟩ := hcut
  go_upto_if 46 with fail
  go_cut [7] (fun s7 wx => s7 = .string (nm3 p) ∧ wx = wc)
  case first =>
    as_aux_lemma =>
    by_cases hp : (p : Int) = 17
    · go_wp2_with fail
      go_meet
      exact ⟨by rw [nm3, if_pos hp]; rfl, rfl⟩
    · go_wp2_with fail
      go_meet
      exact ⟨by rw [nm3, if_neg hp], rfl⟩
  case rest =>
  as_aux_lemma =>
  obtain ⟨rfl, rfl⟩ := hcut
  rw [nm_eq]
  generalize protoS (p : Int) = N at *
  go_wp2_with fail
  refine (Dec_calls u _ (by omega)).mono ?_
  rintro e w2 ⟨rfl, hb⟩
  have HW2 : Hid (Grows w w2) := Lib.hid (below_then HW1.out HW1.out.size hb)
  clear hb HW1
  go_upto_if 51 with fail
  go_cut [8] (fun s8 wc => s8 = .string (rngS u v) ∧ Grows w wc)
  case first =>
    as_aux_lemma =>
    by_cases huv : u = v
    · obtain rfl : u = v := huv
      go_wp2_with fail
      go_meet
      exact ⟨by rw [rng_same], HW2.out⟩
    · have hne : ¬ (v : Int) = (u : Int) := by omega
      have HR := Lib.hid (rng_two huv)
      clear huv
      go_wp2_with fail
      refine (Dec_calls v w2 (by omega)).mono ?_
      rintro e w3 ⟨rfl, hb⟩
      have HW3 : Hid (Grows w w3) := Lib.hid (below_then HW2.out HW2.out.size hb)
      clear hb HW2
      generalize mkB (Lib.decDigits u) = X at *
      generalize mkB (Lib.decDigits v) = Y at *
      go_wp2_with fail
      go_meet
      exact ⟨by rw [HR.out], HW3.out⟩
  case rest =>
  as_aux_lemma =>
  obtain ⟨rfl, hw⟩ := hcut
  have HW3 := Lib.hid hw
  clear hw HW2
  generalize rngS u v = X at *
  clear hu5 hv5
  go_wp2_with fail
  refine (HT.out.parse _ HW3.out).mono ?_
  rintro e w4 ⟨rfl, hb⟩
  have HW4 := Lib.hid (below_then HW3.out HW3.out.size hb)
  have HZ := Lib.hid (heap_alloc_new w4 (ruleBlk zRule))
  clear hb HW3
  go_upto_region 15 with (refine wpList_store_row rfl 32 (.tmp 10) (.tmp 66) rfl w4.heap.size V.cells rfl rfl 32 zRule.cells HZ.out (by kernel_rfl) rfl (rule_one _) ?_)
  rw [lit32]
  obtain ⟨w5, e5⟩ : ∃ w5, w5 = (w4.alloc (ruleBlk zRule)).setRow w4.heap.size V.cells := ⟨_, rfl⟩
  have h5 := row_laid HW4.out V.cells
  rw [← e5] at h5 ⊢
  have HR5 := Lib.hid h5.1
  have HW5 : Hid (Grows w w5) := Lib.hid (below_then HW4.out HW4.out.size h5.2)
  clear e5 h5 HZ
  obtain ⟨b1, hb1⟩ : ∃ b1, b1 = w4.heap.size := ⟨_, rfl⟩
  rw [← hb1] at HR5 ⊢
  clear hb1 HW4
  go_wp2_with fail
  refine (HT.out.rparse _ HW5.out).mono ?_
  rintro e w6 ⟨rfl, hb⟩
  have HR6 := Lib.hid (blkG HR5.out hb)
  have HW6 : Hid (Grows w w6) := Lib.hid (below_then HW5.out HW5.out.size hb)
  have HZ := Lib.hid (heap_alloc_new w6 (ruleBlk zRule))
  clear hb HR5 HW5 HT
  go_upto_region 16 with (refine wpList_store_row rfl 32 (.tmp 12) (.tmp 71) rfl w6.heap.size V.cells rfl rfl 32 zRule.cells HZ.out (by kernel_rfl) rfl (rule_one _) ?_)
  rw [lit32]
  obtain ⟨w7, e7⟩ : ∃ w7, w7 = (w6.alloc (ruleBlk zRule)).setRow w6.heap.size V.cells := ⟨_, rfl⟩
  have h7 := row_laid HW6.out V.cells
  rw [← e7] at h7 ⊢
  have HS7 := Lib.hid h7.1
  have HR7 := Lib.hid (blkG HR6.out h7.2)
  have HW7 : Hid (Grows w w7) := Lib.hid (below_then HW6.out HW6.out.size h7.2)
  clear e7 h7 HZ HR6
  obtain ⟨b2, hb2⟩ : ∃ b2, b2 = w6.heap.size := ⟨_, rfl⟩
  rw [← hb2] at HS7 ⊢
  clear hb2 HW6
  go_cut [14] (fun s14 wx => s14 = .bool (decide ((u : Int) = 0) && decide ((v : Int) = 65535)) ∧ wx = w7)
  case first =>
    as_aux_lemma =>
    by_cases c1 : (u : Int) = 0
    · by_cases c2 : (v : Int) = 65535
      · go_wp2_with fail
        all_goals (go_meet; exact ⟨by rw [decide_eq_true c1, decide_eq_true c2]; rfl, rfl⟩)
      · have C2 := Lib.hid c2
        go_wp2_with fail
        all_goals (go_meet; exact ⟨by first | (rw [decide_eq_true c1, decide_eq_false C2.out]; rfl) | (rw [decide_eq_true c1, decide_eq_false C2.out, beq_eq_false_iff_ne.2 C2.out]; rfl), rfl⟩)
    · have C1 := Lib.hid c1
      go_wp2_with fail
      all_goals (go_meet; exact ⟨by rw [decide_eq_false C1.out]; rfl, rfl⟩)
  case rest =>
  as_aux_lemma =>
  obtain ⟨rfl, rfl⟩ := hcut
  have HAL : Hid (mayB u v p = (decide ((u : Int) ≤ v) && decide ((v : Int) ≤ 65535) && (decide ((p : Int) = 6) || decide ((p : Int) = 17) || (decide ((u : Int) = 0) && decide ((v : Int) = 65535))))) := HM
  clear HM
  generalize (decide ((u : Int) = 0) && decide ((v : Int) = 65535)) = al at *
  go_upto_region 17 with fail
  go_cut [15] (fun s15 wx => s15 = .bool (mayB u v p) ∧ wx = wc)
  case first =>
    as_aux_lemma =>
    by_cases c1 : (u : Int) ≤ v
    · by_cases c2 : (v : Int) ≤ 65535
      · by_cases c3 : (p : Int) = 6
        · go_wp2_with fail
          all_goals (go_meet; exact ⟨by rw [HAL.out]; simp [c1, c2, c3], rfl⟩)
        · by_cases c4 : (p : Int) = 17
          · go_wp2_with fail
            all_goals (go_meet; exact ⟨by rw [HAL.out]; simp [c1, c2, c3, c4], rfl⟩)
          · cases al
            · go_wp2_with fail
              all_goals (go_meet; exact ⟨by rw [HAL.out]; simp [c1, c2, c3, c4], rfl⟩)
            · go_wp2_with fail
              all_goals (go_meet; exact ⟨by rw [HAL.out]; simp [c1, c2, c3, c4], rfl⟩)
      · have C1 := Lib.hid c1
        have C2 := Lib.hid c2
        go_wp2_with fail
        all_goals (go_meet; exact ⟨by rw [HAL.out, decide_eq_true C1.out, decide_eq_false (show ¬ (v : Int) ≤ 65535 by have := C2.out; omega)]; rfl, rfl⟩)
    · have C1 := Lib.hid c1
      go_wp2_with fail
      all_goals (go_meet; exact ⟨by rw [HAL.out, decide_eq_false (show ¬ (u : Int) ≤ v by have := C1.out; omega)]; rfl, rfl⟩)
  case rest =>
  as_aux_lemma =>
  obtain ⟨rfl, rfl⟩ := hcut
  clear HAL
  obtain ⟨mb, hmb⟩ : ∃ mb, mb = mayB u v p := ⟨_, rfl⟩
  rw [← hmb] at HK ⊢
  clear hmb
  have hk := HK.out
  clear HK
  have hfin : (k = 0 ∧ mb = true) ∨ (k = 2 ∧ mb = false) := hk
  clear hk
  rcases hfin with ⟨rfl, rfl⟩ | ⟨rfl, rfl⟩
  all_goals
    go_wp2_with (first
      | (refine Go.BigFrame.wpList_want (by go_simp) fun K hK => wp_load_row 32 (.tmp 10) rfl b1 rfl 32 V.cells (0, 0) _ HR7.out Tryz.underlying32 rfl (by kernel_rfl) (hK _ _ ?_))
      | (refine Go.BigFrame.wpList_want (by go_simp) fun K hK => wp_load_row 32 (.tmp 12) rfl b2 rfl 32 V.cells (0, 0) _ HS7.out Tryz.underlying32 rfl (by kernel_rfl) (hK _ _ ?_)))
    refine (HSM.out wc).mono ?_
    rintro e w9 ⟨rfl, hb⟩
    have HW9 : Hid (Grows w w9) := Lib.hid (below_then HW7.out HW7.out.size hb)
    clear hb
    go_wp2_with fail
    refine (known_calls w9 (HE.out.below HW9.out)).mono ?_
    rintro e w10 ⟨rfl, hb⟩
    have HW10 : Hid (Grows w w10) := Lib.hid (below_then HW9.out HW9.out.size hb)
    clear hb
    go_wp2_with fail
    go_ret
    exact ⟨rfl, HW10.out⟩
theorem lawPorts_calls (x0 x1 x2 : Int) (w : World) (he : Env w) (h0 : -9223372036854775808 ≤ x0 ∧ x0 ≤ 9223372036854775807) (h1 : -9223372036854775808 ≤ x1 ∧ x1 ≤ 9223372036854775807) (h2 : -9223372036854775808 ≤ x2 ∧ x2 ≤ 9223372036854775807) :
    Calls Tryz.prog 7 #[.int .i64 x0, .int .i64 x1, .int .i64 x2] w fun e w' => e = .returned (.bool true) ∧ Grows w w' := by
  by_cases h : 0 ≤ x0 ∧ x0 ≤ 99999 ∧ 0 ≤ x1 ∧ x1 ≤ 99999 ∧ 1 ≤ x2 ∧ x2 ≤ 255
  · obtain ⟨u, rfl⟩ := Int.eq_ofNat_of_zero_le h.1
    obtain ⟨v, rfl⟩ := Int.eq_ofNat_of_zero_le h.2.2.1
    obtain ⟨p, rfl⟩ := Int.eq_ofNat_of_zero_le (show 0 ≤ x2 by omega)
    exact ports_way u v p w he (by omega) (by omega) (by omega) (by omega)
  · exact ports_out x0 x1 x2 w he (by omega)
end Go.Proofs.YtomkohdlaednhaaGreatDoor
