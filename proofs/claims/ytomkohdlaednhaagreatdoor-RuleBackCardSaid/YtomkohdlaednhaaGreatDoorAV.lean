import Derived.Test.YtomkohdlaednhaaGreatDoorAN
import Derived.Test.YtomkohdlaednhaaGreatDoorAO
set_option linter.unusedSimpArgs false
set_option linter.unusedVariables false
namespace Go.Proofs.YtomkohdlaednhaaGreatDoor
open Go.RowKit Go.Proofs.YtomkohdlaednhaaGreatDoorW.PrintWords PConfParses

/-- A call answers some bool, and lets all that was there be. -/
def SomeBool (w : World) (e : Ending) (w' : World) : Prop := ∃ b, e = .returned (.bool b) ∧ Grows w w'
set_option maxRecDepth 100000 in
set_option maxHeartbeats 4000000 in
theorem heavy_calls (r : RuleV) (w : World) : Calls Tryz.prog 17 #[.agg r.cells] w (SomeBool w) := by
  rw [RuleV.cells]
  obtain ⟨n, hn⟩ : ∃ n, n = w.heap.size := ⟨_, rfl⟩
  have HN := Lib.hid hn
  clear hn
  go_enter Tryz.func17, Tryz.ntmps17
  go_upto_region 0 with fail
  go_cut [2, 1, 0] (fun s2 s1 _ wc => s2 = .bool false ∧ s1 = .pointer (some ⟨n, 0, none⟩) ∧ wc.heap[n]? = some (ruleBlk r) ∧ Grows w wc)
  case first =>
    as_aux_lemma =>
    go_wp2_with fail
    go_meet
    exact ⟨rfl, by rw [HN.out], by rw [HN.out]; exact heap_alloc_new w (ruleBlk r), below_alloc (Below.refl _ _) _⟩
  case rest =>
  as_aux_lemma =>
  obtain ⟨rfl, rfl, hg, hw⟩ := hcut
  have HW := Lib.hid hw
  have c3 : wc.cell? ⟨n, 3, none⟩ = some (.string r.on) := (blk_cell hg 3).trans rfl
  have c6 : wc.cell? ⟨n, 6, none⟩ = some (.string r.src.table) := (blk_cell hg 6).trans rfl
  have c12 : wc.cell? ⟨n, 12, none⟩ = some (.string r.dst.table) := (blk_cell hg 12).trans rfl
  have c22 : wc.cell? ⟨n, 22, none⟩ = some (.string r.route.iface) := (blk_cell hg 22).trans rfl
  have c25 : wc.cell? ⟨n, 25, none⟩ = some (.string r.reply.iface) := (blk_cell hg 25).trans rfl
  clear hg hw
  go_wp2_with fail
  go_ret
  exact ⟨_, rfl, HW.out⟩

/-! ### more blanks -/
def bl (L : List ByteArray) : List UInt8 := (L.map (fun x => 32 :: 32 :: x.data.toList)).flatten
theorem bl_snoc (L : List ByteArray) (x : ByteArray) : mkB (bl (L ++ [x])) = mkB (bl L) ++ ⟨#[32, 32]⟩ ++ x := by
  have e : bl (L ++ [x]) = bl L ++ [32, 32] ++ x.data.toList := by simp [bl]
  rw [e, ← mkB_app, ← mkB_app, mkB_eta]; rfl
theorem bl_all : ∀ L : List ByteArray, bl L ++ [32] = blanksL L
  | [] => rfl
  | x :: L => by
    have := bl_all L
    rw [blanksL, ← this]
    simp [bl]
theorem bl_len : ∀ (L : List ByteArray), (∀ x ∈ L, x.size ≤ 100) → (bl L).length ≤ 102 * L.length
  | [], _ => by simp [bl]
  | x :: L, h => by
    have h1 := h x (by simp)
    have h2 := bl_len L (fun z hz => h z (List.mem_cons_of_mem _ hz))
    rw [Lib.size_eq] at h1
    have e : bl (x :: L) = 32 :: 32 :: (x.data.toList ++ bl L) := by simp [bl]
    rw [e]
    simp only [List.length_cons, List.length_append]
    omega
theorem toks_ne (r : RuleV) : toks r ≠ [] := by simp [toks]
/-- What RuleBack's calls come to at a rule that may be. -/
structure BackOk (r : RuleV) (w : World) (T : List ByteArray) : Prop where
  print : ∀ w1, Grows w w1 → Calls Tryz.prog 19 #[.agg r.cells] w1 fun e w' => e = .returned (.string (printR r)) ∧ Grows w1 w'
  parse : ∀ w1, Grows w w1 → Calls Tryz.prog 11 #[.string (printR r)] w1 fun e w' => e = .returned (.tuple #[.agg r.cells, .int .i64 0]) ∧ Grows w1 w'
  words : ∀ w1, Grows w w1 → Calls Tryz.prog 20 #[.string (printR r)] w1 fun e w' => ∃ A n, e = .returned (.slice A T.length n) ∧ Strs w' A n T ∧ Grows w1 w'
  more : ∀ w1, Grows w w1 → Calls Tryz.prog 11 #[.string (mkB (bl T) ++ ⟨#[32]⟩)] w1 fun e w' => e = .returned (.tuple #[.agg r.cells, .int .i64 0]) ∧ Grows w1 w'
  ne : T ≠ []
  len : T.length ≤ 40
  short : ∀ x ∈ T, x.size ≤ 100
theorem back_ok (r : RuleV) (w : World) (he : Env w) (hI : isB r = true) (hK : Kinds r) (hS : -9223372036854775808 ≤ r.set ∧ r.set ≤ 9223372036854775807) : BackOk r w (toks r) := by
  have hR := isB_R hI hK hS.1 hS.2
  have e0 : (r, (0 : Int)).1.val = .agg r.cells := rfl
  have hpt : printR r = textOf (toks r) := by rw [printR, hI]; rfl
  have hsz : (printR r).size ≤ 4100 := by rw [hpt]; exact text_size r hI hR
  have hw : ∀ x ∈ toks r, IsWd x := fun x hx => (toks_ok r hI hR x hx).1
  have hsh : ∀ x ∈ toks r, x.size ≤ 100 := fun x hx => (toks_ok r hI hR x hx).2
  have hlen := toks_count r
  have hbl := bl_len (toks r) hsh
  have hm : mkB (bl (toks r)) ++ ⟨#[32]⟩ = mkB (blanksL (toks r)) := by rw [show (⟨#[32]⟩ : ByteArray) = mkB [32] from rfl, mkB_app, bl_all]
  have hms : (mkB (blanksL (toks r))).size ≤ 5000 := by rw [← bl_all, mkB_size, List.length_append]; simp only [List.length_cons, List.length_nil]; omega
  refine ⟨fun w1 h1 => ?_, fun w1 h1 => ?_, fun w1 h1 => ?_, fun w1 h1 => ?_, toks_ne r, hlen, hsh⟩
  · exact print_calls r w1 (he.below h1) hK hS
  · have := parse_calls (printR r) w1 (by omega) (he.below h1)
    rw [print_back r hI hK hS, e0] at this
    exact this
  · have := rwords_calls (printR r) w1 (by omega)
    rw [hpt, words_text _ hw] at this
    rw [hpt]
    exact this
  · rw [hm]
    have := parse_calls (mkB (blanksL (toks r))) w1 (by omega) (he.below h1)
    rw [wordsS_eq, mkB_data, wds_blanks _ hw, rule_toks r hI hK hS.1 hS.2, e0] at this
    exact this
set_option maxRecDepth 100000 in
set_option maxHeartbeats 8000000 in
theorem lawBack_calls (r : RuleV) (w : World) (he : Env w) (hsm : Small r) (hK : Kinds r) (hS : -9223372036854775808 ≤ r.set ∧ r.set ≤ 9223372036854775807) :
    Calls Tryz.prog 4 #[.agg r.cells] w fun e w' => e = .returned (.bool true) ∧ Grows w w' := by
  have HE := Lib.hid he
  have hris : ∀ w1, Calls Tryz.prog 18 #[.agg r.cells] w1 fun e w' => e = .returned (.bool (isB r)) ∧ Grows w1 w' := fun w1 => by
    have := rIs_calls r w1 hsm
    rw [isB_eq r hS.1 hS.2] at this
    exact this
  have hback : isB r = true → BackOk r w (toks r) := fun h => back_ok r w he h hK hS
  have hsame : ∀ w1, Calls Tryz.prog 13 #[.agg r.cells, .agg r.cells] w1 fun e w' => e = .returned (.bool true) ∧ Grows w1 w' := fun w1 => by
    have := rsame_calls r r w1
    rw [sameB_refl] at this
    exact this
  have HIS := Lib.hid hris
  have HBK := Lib.hid hback
  have HSM := Lib.hid hsame
  clear he hsm hK hS hris hback hsame
  generalize toks r = T at *
  rw [RuleV.cells]
  obtain ⟨n, hn⟩ : ∃ n, n = w.heap.size := ⟨_, rfl⟩
  have HN := Lib.hid hn
  clear hn
  go_enter Tryz.func4, Tryz.ntmps4
  go_upto_region 0 with fail
  go_cut [2, 1, 0] (fun s2 s1 _ wc => s2 = .bool false ∧ s1 = .pointer (some ⟨n, 0, none⟩) ∧ wc.heap[n]? = some (ruleBlk r) ∧ Grows w wc)
  case first =>
    as_aux_lemma =>
    go_wp2_with fail
    go_meet
    exact ⟨rfl, by rw [HN.out], by rw [HN.out]; exact heap_alloc_new w (ruleBlk r), below_alloc (Below.refl _ _) _⟩
  case rest =>
  as_aux_lemma =>
  obtain ⟨rfl, rfl, hg, hw⟩ := hcut
  have HG0 := Lib.hid hg
  have HW0 := Lib.hid hw
  clear hg hw HN
  go_wp2_with (refine Go.BigFrame.wpList_want (by go_simp) fun K hK => wp_load_row 32 (.tmp 1) rfl n rfl 32 r.cells (0, 0) _ HG0.out Tryz.underlying32 rfl (by kernel_rfl) (hK _ _ ?_))
  refine (heavy_calls r wc).mono ?_
  rintro e w1 ⟨b0, rfl, hb⟩
  have HG1 := Lib.hid (blkG HG0.out hb)
  have HW1 : Hid (Grows w w1) := Lib.hid (below_then HW0.out HW0.out.size hb)
  clear hb HG0 HW0
  cases b0 with
  | true =>
    go_wp2_with fail
    go_ret
    exact ⟨rfl, HW1.out⟩
  | false =>
  go_wp2_with (refine Go.BigFrame.wpList_want (by go_simp) fun K hK => wp_load_row 32 (.tmp 1) rfl n rfl 32 r.cells (0, 0) _ HG1.out Tryz.underlying32 rfl (by kernel_rfl) (hK _ _ ?_))
  refine (HIS.out w1).mono ?_
  rintro e w2 ⟨rfl, hb⟩
  have HG2 := Lib.hid (blkG HG1.out hb)
  have HW2 : Hid (Grows w w2) := Lib.hid (below_then HW1.out HW1.out.size hb)
  clear hb HG1 HW1
  cases hI : isB r with
  | false =>
    go_wp2_with fail
    go_ret
    exact ⟨rfl, HW2.out⟩
  | true =>
  have HB := Lib.hid (HBK.out hI)
  clear hI HBK HIS
  go_wp2_with (refine Go.BigFrame.wpList_want (by go_simp) fun K hK => wp_load_row 32 (.tmp 1) rfl n rfl 32 r.cells (0, 0) _ HG2.out Tryz.underlying32 rfl (by kernel_rfl) (hK _ _ ?_))
  refine (HB.out.print w2 HW2.out).mono ?_
  rintro e w3 ⟨rfl, hb⟩
  have HG3 := Lib.hid (blkG HG2.out hb)
  have HW3 : Hid (Grows w w3) := Lib.hid (below_then HW2.out HW2.out.size hb)
  clear hb HG2 HW2
  go_wp2_with fail
  refine (HB.out.parse w3 HW3.out).mono ?_
  rintro e w4 ⟨rfl, hb⟩
  have HG4 := Lib.hid (blkG HG3.out hb)
  have HW4 : Hid (Grows w w4) := Lib.hid (below_then HW3.out HW3.out.size hb)
  have HZ := Lib.hid (heap_alloc_new w4 (ruleBlk zRule))
  clear hb HG3 HW3
  go_upto_region 5 with (refine wpList_store_row rfl 32 (.tmp 4) (.tmp 23) rfl w4.heap.size r.cells rfl rfl 32 zRule.cells HZ.out (by kernel_rfl) rfl (rule_one _) ?_)
  rw [lit32]
  obtain ⟨w5, e5⟩ : ∃ w5, w5 = (w4.alloc (ruleBlk zRule)).setRow w4.heap.size r.cells := ⟨_, rfl⟩
  have h5 := row_laid HW4.out r.cells
  rw [← e5] at h5 ⊢
  have HR5 := Lib.hid h5.1
  have HG5 := Lib.hid (blkG HG4.out h5.2)
  have HW5 : Hid (Grows w w5) := Lib.hid (below_then HW4.out HW4.out.size h5.2)
  clear e5 h5 HZ HG4
  obtain ⟨b1, hb1⟩ : ∃ b1, b1 = w4.heap.size := ⟨_, rfl⟩
  rw [← hb1] at HR5 ⊢
  clear hb1 HW4
  go_wp2_with fail
  refine (HB.out.words w5 HW5.out).mono ?_
  rintro e w6 ⟨A, cap, rfl, hst, hb⟩
  have HR6 := Lib.hid (blkG HR5.out hb)
  have HG6 := Lib.hid (blkG HG5.out hb)
  have HW6 : Hid (Grows w w6) := Lib.hid (below_then HW5.out HW5.out.size hb)
  clear hb HR5 HG5 HW5
  obtain ⟨bw, ow, rfl, hcells⟩ := hst.2.2 HB.out.ne
  have hcap : T.length ≤ cap := hst.1
  have hcap2 := hst.2.1
  have HC := Lib.hid hcells
  have HLN : Hid (T.length ≤ 40) := Lib.hid HB.out.len
  clear hst hcells
  obtain ⟨m, hm⟩ : ∃ m, m = T.length := ⟨_, rfl⟩
  rw [← hm] at hcap HLN ⊢
  have HM := Lib.hid hm
  have hm40 : m ≤ 40 := HLN.out
  clear hm
  have ht0 : Hid (mkB (bl (T.take 0)) = ⟨#[]⟩) := Lib.hid rfl
  go_wp2_with fail
  go_loop [6, 8] (fun v6 v8 => ∃ k : Nat, k ≤ m ∧ v8 = .int .i64 k ∧ v6 = .string (mkB (bl (T.take k)))) (fun _ v8 => m - (intOf v8).toNat)
  case atStart => exact ⟨0, Nat.zero_le _, rfl, by rw [ht0.out]⟩
  case round =>
    obtain ⟨k, hk, rfl, rfl⟩ := hrel
    by_cases hlt : k < m
    · obtain ⟨x, hx⟩ : ∃ x, T[k]? = some x := ⟨T[k]'(by rw [← HM.out]; exact hlt), List.getElem?_eq_getElem _⟩
      have hc : w6.cell? ⟨bw, ow + k, none⟩ = some (.string x) := HC.out k x hx
      have hxs : x.size ≤ 100 := HB.out.short x (List.mem_of_getElem? hx)
      have hbs : (mkB (bl (T.take k))).size ≤ 102 * 40 := by
        rw [mkB_size]
        have := bl_len (T.take k) (fun z hz => HB.out.short z (List.mem_of_mem_take hz))
        have hl : (T.take k).length ≤ 40 := by rw [List.length_take]; omega
        omega
      have hsn : Hid (mkB (bl (T.take (k + 1))) = mkB (bl (T.take k)) ++ ⟨#[32, 32]⟩ ++ x) := Lib.hid (by
        rw [List.take_add_one, hx]
        exact bl_snoc _ _)
      have z1 : ¬ 9223372036854775807 < (mkB (bl (T.take k))).size + 2 := by omega
      have z2 : ¬ 9223372036854775807 < (mkB (bl (T.take k))).size + 2 + x.size := by omega
      clear hx hxs hbs
      generalize mkB (bl (T.take k)) = X at *
      go_wp2_with fail
      go_round
      case rel => exact ⟨k + 1, by omega, by go_num, by rw [hsn.out]⟩
      case measure => simp [intOf]; omega
    · obtain rfl : k = m := by omega
      have hall : Hid (T.take k = T) := Lib.hid (by rw [HM.out]; exact List.take_length)
      rw [hall.out]
      have hbs : (mkB (bl T)).size ≤ 102 * 40 := by
        rw [mkB_size]
        have := bl_len T HB.out.short
        have := HM.out
        omega
      have z1 : ¬ 9223372036854775807 < (mkB (bl T)).size + 1 := by omega
      clear hbs
      have HMO := Lib.hid HB.out.more
      generalize mkB (bl T) = X at *
      go_wp2_with fail
      refine (HMO.out w6 HW6.out).mono ?_
      rintro e w7 ⟨rfl, hb⟩
      have HR7 := Lib.hid (blkG HR6.out hb)
      have HG7 := Lib.hid (blkG HG6.out hb)
      have HW7 : Hid (Grows w w7) := Lib.hid (below_then HW6.out HW6.out.size hb)
      have HZ := Lib.hid (heap_alloc_new w7 (ruleBlk zRule))
      clear hb HR6 HG6 HW6
      go_upto_region 12 with (refine wpList_store_row rfl 32 (.tmp 9) (.tmp 44) rfl w7.heap.size r.cells rfl rfl 32 zRule.cells HZ.out (by kernel_rfl) rfl (rule_one _) ?_)
      rw [lit32]
      obtain ⟨w8, e8⟩ : ∃ w8, w8 = (w7.alloc (ruleBlk zRule)).setRow w7.heap.size r.cells := ⟨_, rfl⟩
      have h8 := row_laid HW7.out r.cells
      rw [← e8] at h8 ⊢
      have HS8 := Lib.hid h8.1
      have HR8 := Lib.hid (blkG HR7.out h8.2)
      have HG8 := Lib.hid (blkG HG7.out h8.2)
      have HW8 : Hid (Grows w w8) := Lib.hid (below_then HW7.out HW7.out.size h8.2)
      clear e8 h8 HZ HR7 HG7
      obtain ⟨b2, hb2⟩ : ∃ b2, b2 = w7.heap.size := ⟨_, rfl⟩
      rw [← hb2] at HS8 ⊢
      clear hb2 HW7
      go_wp2_with (first
        | (refine Go.BigFrame.wpList_want (by go_simp) fun K hK => wp_load_row 32 (.tmp 1) rfl n rfl 32 r.cells (0, 0) _ HG8.out Tryz.underlying32 rfl (by kernel_rfl) (hK _ _ ?_))
        | (refine Go.BigFrame.wpList_want (by go_simp) fun K hK => wp_load_row 32 (.tmp 4) rfl b1 rfl 32 r.cells (0, 0) _ HR8.out Tryz.underlying32 rfl (by kernel_rfl) (hK _ _ ?_)))
      refine (HSM.out w8).mono ?_
      rintro e w9 ⟨rfl, hb⟩
      have HS9 := Lib.hid (blkG HS8.out hb)
      have HG9 := Lib.hid (blkG HG8.out hb)
      have HW9 : Hid (Grows w w9) := Lib.hid (below_then HW8.out HW8.out.size hb)
      clear hb HS8 HR8 HG8 HW8
      go_wp2_with (first
        | (refine Go.BigFrame.wpList_want (by go_simp) fun K hK => wp_load_row 32 (.tmp 1) rfl n rfl 32 r.cells (0, 0) _ HG9.out Tryz.underlying32 rfl (by kernel_rfl) (hK _ _ ?_))
        | (refine Go.BigFrame.wpList_want (by go_simp) fun K hK => wp_load_row 32 (.tmp 9) rfl b2 rfl 32 r.cells (0, 0) _ HS9.out Tryz.underlying32 rfl (by kernel_rfl) (hK _ _ ?_)))
      refine (HSM.out w9).mono ?_
      rintro e w10 ⟨rfl, hb⟩
      have HW10 : Hid (Grows w w10) := Lib.hid (below_then HW9.out HW9.out.size hb)
      clear hb
      go_wp2_with fail
      refine (known_calls w10 (HE.out.below HW10.out)).mono ?_
      rintro e w11 ⟨rfl, hb⟩
      have HW11 : Hid (Grows w w11) := Lib.hid (below_then HW10.out HW10.out.size hb)
      clear hb
      go_wp2_with fail
      go_ret
      exact ⟨rfl, HW11.out⟩
end Go.Proofs.YtomkohdlaednhaaGreatDoor
