import Derived.Test.YtomkohdlaednhaaGreatDoorAF
import Derived.Test.YtomkohdlaednhaaGreatDoorBD
import Derived.Lib.ItoaLen
set_option linter.unusedSimpArgs false
set_option linter.unusedVariables false
namespace Go.Proofs.YtomkohdlaednhaaGreatDoor
open Go.RowKit Go.Proofs.YtomkohdlaednhaaGreatDoorW.PrintWords PConfParses

def sideP (s : SideV) : ByteArray := textOf (sideT s)
theorem textOf_one (x : ByteArray) : textOf [x] = x := by
  rw [textOf, datas, List.map_singleton, join_one, mkB_eta]
theorem sideP_all (s : SideV) (h : allPorts s = true) : sideP s = headP s := by
  rw [sideP, sideT, portsT, h]; exact textOf_one _
theorem sideP_some (s : SideV) (h : allPorts s = false) : sideP s = mkB ((headP s).data.toList ++ [32, 112, 111, 114, 116, 32] ++ rangeL s) := by
  rw [sideP, sideT, portsT, h]
  simp [opt, textOf, datas, join_two, join_one, portS, rangeP, mkB_data]
theorem headP_len (s : SideV) (h : Sm s.table) : (headP s).size ≤ 4294967290 := by
  unfold headP
  split
  · split
    · decide
    · unfold pfxP
      split
      · decide
      · rw [mkB_size, pfxL]
        rename_i hn
        obtain ⟨u, hu⟩ := Int.eq_ofNat_of_zero_le (show 0 ≤ s.len by omega)
        have := addr_len s.addr
        have := dec_len 2 u (by omega) (by omega)
        rw [hu, Lib.itoa_nonneg, List.length_append, List.length_cons]
        omega
  · rw [mkB_size]
    have h2 : s.table.data.toList.length < 4294967281 := by rw [← Lib.size_eq]; exact h
    simp only [List.length_cons, List.length_append, List.length_nil]
    omega
theorem cat_mk (x : ByteArray) (y : List UInt8) : x ++ mkB y = mkB (x.data.toList ++ y) := by
  rw [← mkB_app, mkB_eta]
theorem itoaI_calls (n : Int) (w : World) (h0 : -9223372036854775808 ≤ n) (h1 : n ≤ 9223372036854775807) (he : Env w) :
    Calls Tryz.prog 56 #[.int .i64 n] w fun e w' => e = .returned (.string (itoaS n)) ∧ Grows w w' := itoa_calls n w h0 h1 he
theorem itoaS_len (n : Int) (h0 : -9223372036854775808 ≤ n) (h1 : n ≤ 9223372036854775807) : (itoaS n).size ≤ 21 := by
  rw [itoaS, mkB_size]; exact Lib.itoa_length_le n h0 h1
structure SideOk (s : SideV) : Prop where
  tab : Sm s.table
  addr : 0 ≤ s.addr ∧ s.addr < 4294967296
  low : -9223372036854775808 ≤ s.low ∧ s.low ≤ 9223372036854775807
  high : -9223372036854775808 ≤ s.high ∧ s.high ≤ 9223372036854775807
set_option maxHeartbeats 2000000 in
theorem pside_calls (s : SideV) (w : World) (he : Env w) (ho : SideOk s) :
    Calls Tryz.prog 54 #[s.val] w fun e w' => e = .returned (.string (sideP s)) ∧ Grows w w' := by
  have HE := Lib.hid he
  have HK := Lib.hid ho
  clear he ho
  obtain ⟨R, hR⟩ : ∃ R, R = sideP s := ⟨_, rfl⟩
  rw [← hR]
  have HR := Lib.hid hR
  clear hR
  have e0 : s.val = .agg s.cells := rfl
  rw [e0, SideV.cells]
  clear e0
  obtain ⟨b, hb⟩ : ∃ b, b = w.heap.size := ⟨_, rfl⟩
  obtain ⟨w1, hw1⟩ : ∃ w1, w1 = w.alloc (.cells #[.bool s.any, .string s.table, .int .u32 s.addr, .int .i64 s.len, .int .i64 s.low, .int .i64 s.high] 28) := ⟨_, rfl⟩
  have HB0 : Hid (w1.heap[b]? = some (sideBlk s) ∧ Grows w w1) := Lib.hid (by rw [hw1, hb]; exact ⟨heap_alloc_new w (sideBlk s), below_alloc (Below.refl _ _) _⟩)
  have HB := Lib.hid hb
  have HW1 := Lib.hid hw1
  clear hb hw1
  go_enter Tryz.func54, Tryz.ntmps54
  go_upto_region 1 with fail
  rw [← HW1.out, ← HB.out]
  clear HW1 HB
  have c0 : w1.cell? ⟨b, 0, none⟩ = some (.bool s.any) := (blk_cell HB0.out.1 0).trans rfl
  have c1 : w1.cell? ⟨b, 1, none⟩ = some (.string s.table) := (blk_cell HB0.out.1 1).trans rfl
  have c2 : w1.cell? ⟨b, 2, none⟩ = some (.int .u32 s.addr) := (blk_cell HB0.out.1 2).trans rfl
  have c3 : w1.cell? ⟨b, 3, none⟩ = some (.int .i64 s.len) := (blk_cell HB0.out.1 3).trans rfl
  go_upto_block 0 with fail
  go_cut [3, 1, 0] (fun s3 s1 _ wc => s1 = .pointer (some ⟨b, 0, none⟩) ∧ s3 = .string (headP s) ∧ wc.heap[b]? = some (sideBlk s) ∧ Grows w wc)
  case first =>
    have hH : Hid (headP s = if emptyB s.table then (if s.any then anyS else pfxP s.addr s.len) else mkB (60 :: (s.table.data.toList ++ [62]))) := Lib.hid rfl
    cases ht : emptyB s.table with
    | false =>
      have HT := Lib.hid ht
      have htl : s.table.toList.isEmpty = false := ht
      have z1 : ¬ 9223372036854775807 < 1 + s.table.size := by have := HK.out.tab; unfold Sm at this; omega
      have z2 : ¬ 9223372036854775807 < 1 + s.table.size + 1 := by have := HK.out.tab; unfold Sm at this; omega
      clear ht
      go_wp2_with fail
      go_meet
      refine ⟨rfl, congrArg Value.string ?_, HB0.out.1, HB0.out.2⟩
      rw [hH.out, HT.out]
      show (⟨#[60]⟩ : ByteArray) ++ s.table ++ ⟨#[62]⟩ = _
      rw [show (⟨#[60]⟩ : ByteArray) = mkB [60] from rfl, show (⟨#[62]⟩ : ByteArray) = mkB [62] from rfl, ← mkB_eta s.table, mkB_app, mkB_app]
      simp [mkB_data]
    | true =>
      have HT := Lib.hid ht
      have htl : s.table.toList.isEmpty = true := ht
      clear ht
      cases ha : s.any with
      | true =>
        have HA := Lib.hid ha
        go_wp2_with fail
        go_meet
        refine ⟨rfl, congrArg Value.string ?_, HB0.out.1, HB0.out.2⟩
        rw [hH.out, HT.out, HA.out]; rfl
      | false =>
        have HA := Lib.hid ha
        go_wp2_with fail
        refine (pprint_calls s.addr s.len _ (HE.out.below HB0.out.2) HK.out.addr.1 HK.out.addr.2).mono ?_
        rintro e w2 ⟨rfl, hb2⟩
        have HG2 := Lib.hid (blkG HB0.out.1 hb2)
        have HW2 : Hid (Grows w w2) := Lib.hid (below_then HB0.out.2 HB0.out.2.size hb2)
        clear hb2
        go_wp2_with fail
        go_meet
        refine ⟨rfl, congrArg Value.string ?_, HG2.out, HW2.out⟩
        rw [hH.out, HT.out, HA.out]; rfl
  case rest =>
  obtain ⟨rfl, rfl, hg, hw⟩ := hcut
  have HG := Lib.hid hg
  have HW := Lib.hid hw
  have hl := headP_len s HK.out.tab
  have c4 : wc.cell? ⟨b, 4, none⟩ = some (.int .i64 s.low) := (blk_cell hg 4).trans rfl
  have c5 : wc.cell? ⟨b, 5, none⟩ = some (.int .i64 s.high) := (blk_cell hg 5).trans rfl
  clear hg hw
  have hA : Hid (allPorts s = (s.low == 0 && (s.high == 65535))) := Lib.hid rfl
  have E0 : Hid (allPorts s = false → sideP s = headP s ++ ((⟨#[32, 112, 111, 114, 116, 32]⟩ : ByteArray) ++ itoaS s.low) ++ (if s.low < s.high then ⟨#[58]⟩ ++ itoaS s.high else ⟨#[]⟩)) := Lib.hid (fun h => by
    rw [sideP_some s h, rangeL, show (⟨#[32, 112, 111, 114, 116, 32]⟩ : ByteArray) = mkB [32, 112, 111, 114, 116, 32] from rfl, itoaS, mkB_app, cat_mk]
    by_cases hlt : s.low < s.high
    · rw [if_pos hlt, if_pos hlt, show (⟨#[58]⟩ : ByteArray) = mkB [58] from rfl, itoaS, mkB_app, mkB_app]
      simp
    · rw [if_neg hlt, if_neg hlt, show (⟨#[]⟩ : ByteArray) = mkB [] from rfl, mkB_app]
      simp)
  have E1 := Lib.hid (sideP_all s)
  have l1 := itoaS_len s.low HK.out.low.1 HK.out.low.2
  have l2 := itoaS_len s.high HK.out.high.1 HK.out.high.2
  generalize headP s = H at *
  have z1 : ¬ 9223372036854775807 < 6 + (itoaS s.low).size := by omega
  have z2 : ¬ 9223372036854775807 < H.size + (6 + (itoaS s.low).size) := by omega
  have z3 : ¬ 9223372036854775807 < 1 + (itoaS s.high).size := by omega
  have z4 : ¬ 9223372036854775807 < H.size + (6 + (itoaS s.low).size) + (1 + (itoaS s.high).size) := by omega
  clear hl l1 l2
  by_cases ha : allPorts s = true
  · have h1 : (s.low == 0) = true := by have := ha; rw [hA.out, Bool.and_eq_true] at this; exact this.1
    have h2 : (s.high == 65535) = true := by have := ha; rw [hA.out, Bool.and_eq_true] at this; exact this.2
    have E := Lib.hid (E1.out ha)
    clear ha z1 z2 z3 z4
    go_wp2_with fail
    go_ret
    exact ⟨ret_str (by rw [HR.out, E.out]), HW.out⟩
  · have ha' : allPorts s = false := by simpa using ha
    have E := Lib.hid (E0.out ha')
    clear ha
    have hx : (s.low == 0) = false ∨ ((s.low == 0) = true ∧ (s.high == 65535) = false) := by
      have := ha'
      rw [hA.out] at this
      cases h1 : (s.low == 0) with
      | false => exact .inl rfl
      | true => rw [h1] at this; exact .inr ⟨rfl, by simpa using this⟩
    clear ha'
    rcases hx with h1 | ⟨h1, h2⟩
    all_goals
      by_cases hlt : s.low < s.high
      · have hlt2 : Hid (s.low < s.high) := Lib.hid hlt
        go_wp2_with fail
        refine (itoaI_calls s.low _ HK.out.low.1 HK.out.low.2 (HE.out.below HW.out)).mono ?_
        rintro e w2 ⟨rfl, hb2⟩
        have hg2 := blkG HG.out hb2
        have HW2 : Hid (Grows w w2) := Lib.hid (below_then HW.out HW.out.size hb2)
        have c24 : w2.cell? ⟨b, 4, none⟩ = some (.int .i64 s.low) := (blk_cell hg2 4).trans rfl
        have c25 : w2.cell? ⟨b, 5, none⟩ = some (.int .i64 s.high) := (blk_cell hg2 5).trans rfl
        clear hb2 hg2
        go_wp2_with fail
        refine (itoaI_calls s.high _ HK.out.high.1 HK.out.high.2 (HE.out.below HW2.out)).mono ?_
        rintro e w3 ⟨rfl, hb3⟩
        have HW3 : Hid (Grows w w3) := Lib.hid (below_then HW2.out HW2.out.size hb3)
        clear hb3
        go_wp2_with fail
        go_ret
        exact ⟨ret_str (by rw [HR.out, E.out, if_pos hlt2.out]), HW3.out⟩
      · have hlt2 : Hid (¬ s.low < s.high) := Lib.hid hlt
        go_wp2_with fail
        refine (itoaI_calls s.low _ HK.out.low.1 HK.out.low.2 (HE.out.below HW.out)).mono ?_
        rintro e w2 ⟨rfl, hb2⟩
        have hg2 := blkG HG.out hb2
        have HW2 : Hid (Grows w w2) := Lib.hid (below_then HW.out HW.out.size hb2)
        have c24 : w2.cell? ⟨b, 4, none⟩ = some (.int .i64 s.low) := (blk_cell hg2 4).trans rfl
        have c25 : w2.cell? ⟨b, 5, none⟩ = some (.int .i64 s.high) := (blk_cell hg2 5).trans rfl
        clear hb2 hg2
        go_wp2_with fail
        go_ret
        refine ⟨ret_str ?_, HW2.out⟩
        rw [HR.out, E.out, if_neg (show ¬ s.low < s.high by have := hlt2.out; omega), show (⟨#[]⟩ : ByteArray) = ByteArray.empty from rfl, ByteArray.append_empty]
end Go.Proofs.YtomkohdlaednhaaGreatDoor
