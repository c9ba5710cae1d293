import Derived.Test.YtomkohdlaednhaaGreatDoorAE
import Derived.Deep.RegionHeld3
import Derived.Deep.DeepCutAuto
set_option linter.unusedSimpArgs false
set_option linter.unusedVariables false
namespace Go.Proofs.YtomkohdlaednhaaGreatDoor
open Go.RowKit Go.Proofs.YtomkohdlaednhaaGreatDoorW.PrintWords PConfParses

theorem addr_len (a : Int) : (addrL a).length ≤ 15 := by
  have := oct_len a 0; have := oct_len a 1; have := oct_len a 2; have := oct_len a 3
  simp only [addrL, List.length_append, List.length_cons]; omega
theorem mkB_app (x y : List UInt8) : mkB x ++ mkB y = mkB (x ++ y) := ByteArray.mk_append_mk x y
theorem app3 (x y : List UInt8) (c : UInt8) : mkB x ++ ⟨#[c]⟩ ++ mkB y = mkB (x ++ c :: y) := by
  rw [show (⟨#[c]⟩ : ByteArray) = mkB [c] from rfl, mkB_app, mkB_app]; simp
set_option maxHeartbeats 2000000 in
theorem pprint_calls (a n : Int) (w : World) (he : Env w) (h0 : 0 ≤ a) (h1 : a < 4294967296) :
    Calls Tryz.prog 97 #[.agg #[.int .u32 a, .int .i64 n]] w fun e w' => e = .returned (.string (pfxP a n)) ∧ Grows w w' := by
  have HE := Lib.hid he
  clear he
  have hR : Hid (pfxP a n = if n < 0 ∨ 32 < n then ⟨#[]⟩ else mkB (pfxL a n)) := Lib.hid rfl
  by_cases hn : n < 0
  · go_enter Tryz.func97, Tryz.ntmps97
    go_wp2_with fail
    go_ret
    exact ⟨ret_str (by rw [hR.out, if_pos (.inl hn)]), below_alloc (Below.refl _ _) _⟩
  · by_cases hm : 32 < n
    · go_enter Tryz.func97, Tryz.ntmps97
      go_wp2_with fail
      go_ret
      exact ⟨ret_str (by rw [hR.out, if_pos (.inr hm)]), below_alloc (Below.refl _ _) _⟩
    · obtain ⟨u, rfl⟩ := Int.eq_ofNat_of_zero_le (show 0 ≤ n by omega)
      have hR2 : Hid (pfxP a (u : Int) = mkB (addrL a ++ 47 :: Lib.decDigits u)) := Lib.hid (by rw [pfxP, if_neg (by omega), pfxL, Lib.itoa_nonneg])
      obtain ⟨b, hb⟩ : ∃ b, b = w.heap.size := ⟨_, rfl⟩
      have hg := heap_alloc_new w (.cells #[.int .u32 a, .int .i64 (u : Int)] 24)
      rw [← hb] at hg
      have HG := Lib.hid hg
      have HB := Lib.hid hb
      have HW : Hid (Grows w (w.alloc (.cells #[.int .u32 a, .int .i64 (u : Int)] 24))) := Lib.hid (below_alloc (Below.refl _ _) _)
      clear hg hb hR
      go_enter Tryz.func97, Tryz.ntmps97
      go_upto_region 3 with fail
      rw [← HB.out]
      generalize w.alloc (.cells #[.int .u32 a, .int .i64 (u : Int)] 24) = w1 at *
      have c0 : w1.cell? ⟨b, 0, none⟩ = some (.int .u32 a) := (blk_cell HG.out 0).trans rfl
      have c1 : w1.cell? ⟨b, 1, none⟩ = some (.int .i64 (u : Int)) := (blk_cell HG.out 1).trans rfl
      have z1 : ¬ 9223372036854775807 < (addrP a).size + 1 := by have := addr_len a; rw [addrP, mkB_size]; omega
      have z2 : ¬ 9223372036854775807 < (addrP a).size + 1 + (mkB (Lib.decDigits u)).size := by have := addr_len a; have := dec_len 2 u (by omega) (by omega); rw [addrP, mkB_size, mkB_size]; omega
      go_region_held3 (fun W => W.cell? ⟨b, 0, none⟩ = some (.int .u32 a) ∧ W.cell? ⟨b, 1, none⟩ = some (.int .i64 (u : Int))) (go_keep) (first
        | (go_at_call 57; (with_reducible refine (aprint_calls a _ (HE.out.below (below_drew HW.out)) h0 h1).mono ?_); rintro e w2 ⟨rfl, hb2⟩; have HG2 := Lib.hid (blkG (show w1.drew.heap[b]? = _ from HG.out) hb2); have HW2 : Hid (Grows w w2) := Lib.hid (below_then (below_drew HW.out) (below_drew HW.out).size hb2); have c20 : w2.cell? ⟨b, 0, none⟩ = some (.int .u32 a) := (blk_cell HG2.out 0).trans rfl; have c21 : w2.cell? ⟨b, 1, none⟩ = some (.int .i64 (u : Int)) := (blk_cell HG2.out 1).trans rfl; clear hb2)
        | (go_at_call 56; (with_reducible refine (itoaN_calls u w2 (by omega) (HE.out.below HW2.out)).mono ?_); rintro e w3 ⟨rfl, hb3⟩; have HG3 := Lib.hid (blkG HG2.out hb3); have HW3 : Hid (Grows w w3) := Lib.hid (below_then HW2.out HW2.out.size hb3); have c30 : w3.cell? ⟨b, 0, none⟩ = some (.int .u32 a) := (blk_cell HG3.out 0).trans rfl; have c31 : w3.cell? ⟨b, 1, none⟩ = some (.int .i64 (u : Int)) := (blk_cell HG3.out 1).trans rfl; clear hb3))
      go_wp2_with fail
      all_goals go_ret
      all_goals exact ⟨ret_str (by rw [hR2.out]; exact app3 _ _ _), HW3.out⟩
end Go.Proofs.YtomkohdlaednhaaGreatDoor
