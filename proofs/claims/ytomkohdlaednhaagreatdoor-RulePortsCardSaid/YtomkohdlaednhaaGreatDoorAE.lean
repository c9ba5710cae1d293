import Derived.Test.YtomkohdlaednhaaGreatDoorBC
import Derived.LoopTactic
import Derived.OwnWalk
import Derived.Laws.AppendOwn
set_option linter.unusedSimpArgs false
set_option linter.unusedVariables false
namespace Go.Proofs.YtomkohdlaednhaaGreatDoor
open Go.RowKit Go.Proofs.YtomkohdlaednhaaGreatDoorW.PrintWords PConfParses

theorem info9 : (Tryz.prog.info? 9).map (fun i => (i.zero, i.size, i.bytes)) = some (some (.string ⟨#[]⟩), 1, 16) := by kernel_rfl
/-- A slice of strings of the call's own. -/
def OwnS (w : World) (base : Nat) (v : Value) (L : List ByteArray) : Prop := w.ownsRow base 9 1 v L.length (L.map Value.string)
theorem OwnS.grow {w w1 : World} {base v L} (h : OwnS w base v L) (hb : Grows w w1) : OwnS w1 base v L := by
  refine ⟨h.1, ?_⟩
  rcases h.2 with h | ⟨g, cap, cur, e1, e2, e3, e4⟩
  · exact .inl h
  · exact .inr ⟨g, cap, cur, e1, e2, blkG e3 hb, e4⟩
theorem join_own (w : World) (base : Nat) (v : Value) (L : List ByteArray) (sep : ByteArray) (h : OwnS w base v L) (hN : L.length ≤ 1000) (hlen : (Lib.join (datas L) sep.data.toList).length ≤ 140737488355328) :
    Calls Tryz.prog 58 #[v, .string sep] w fun e w' => e = .returned (.string (mkB (Lib.join (datas L) sep.data.toList))) ∧ Grows w w' := by
  rcases h.2 with ⟨rfl, h0⟩ | ⟨g, cap, cur, rfl, hb, hg, hc, hm, hs, ht⟩
  · obtain rfl : L = [] := List.eq_nil_of_length_eq_zero h0
    exact (Tryz.strings_Join_none none 0 sep w).mono fun e w' ⟨h1, h2⟩ => ⟨h1, by rw [h2]; exact Below.refl _ _⟩
  · exact Tryz.strings_Join g 0 cap L sep w (fun j x hx => by
      have hu : (L.map Value.string)[j]? = some (.string x) := by simp [hx]
      rw [← ht, List.getElem?_take] at hu
      split at hu
      · rw [Nat.zero_add]
        exact (blk_cell hg j).trans (by simpa using hu)
      · cases hu) (blk_lt hg) (by omega) hc hlen
theorem and255 (x : Int) (h0 : 0 ≤ x) (h1 : x < 4294967296) : Go.bits .and .u32 x 255 = x % 256 := by
  rw [u32_and _ _ h0 h1 (by omega) (by omega)]
  obtain ⟨u, rfl⟩ := Int.eq_ofNat_of_zero_le h0
  have : (u : Int).toNat &&& (255 : Int).toNat = u % 256 := by
    show u &&& 255 = u % 256
    exact Nat.and_two_pow_sub_one_eq_mod u 8
  rw [this]; omega
def octT (a : Int) (k : Nat) : List ByteArray := (List.range k).map fun j => mkB (Lib.decDigits (oct a (3 - j)))
theorem octT_len (a : Int) (k : Nat) : (octT a k).length = k := by simp [octT]
theorem octT_succ (a : Int) (k : Nat) : octT a (k + 1) = octT a k ++ [mkB (Lib.decDigits (oct a (3 - k)))] := by simp [octT, List.range_succ]
theorem addr_join (a : Int) : mkB (Lib.join (datas (octT a 4)) [46]) = addrP a := by
  simp only [octT, datas, addrP, addrL]
  simp [List.range_succ, Lib.join, List.intercalate, List.intersperse, mkB]
theorem oct_eq (a : Int) (k : Nat) : ((oct a k : Nat) : Int) = a / 2 ^ (8 * k) % 256 := by
  unfold oct
  have := Int.emod_nonneg (a / 2 ^ (8 * k)) (by decide : (256 : Int) ≠ 0)
  omega
theorem itoaN_calls (n : Nat) (w : World) (h1 : n ≤ 4294967296) (he : Env w) :
    Calls Tryz.prog 56 #[.int .i64 (n : Int)] w fun e w' => e = .returned (.string (mkB (Lib.decDigits n))) ∧ Grows w w' := by
  have := itoa_calls (n : Int) w (by omega) (by omega) he
  rw [Lib.itoa_nonneg] at this
  exact this
/-- One more string behind a slice of the call's own. -/
theorem OwnS.more {w1 : World} {base v L x} (h : w1.ownsRow base 9 1 v (L.length + 1) (L.map Value.string ++ [.string x])) : OwnS w1 base v (L ++ [x]) := by
  unfold OwnS
  rw [List.length_append, List.map_append]
  exact h
theorem below_grown {w0 w w1 : World} {v : Value} {L} (hg : Grows w0 w) (hb : w.grownBy w1 v.ownBlock) (h : OwnS w w0.heap.size v L) : Grows w0 w1 :=
  Below.grown hg hb hg.size (fun k hk => (h.lt k hk).1)
theorem news_one (w1 : World) (x : ByteArray) : ∀ (j : Nat) (u : Value), [Value.string x][j]? = some u → (w1.alloc (.cells #[.string x] 9)).cell? ((⟨w1.heap.size, 0, none⟩ : Addr).add j) = some u := by
  intro j u h
  match j, h with
  | 0, h =>
    simp only [List.getElem?_cons_zero, Option.some.injEq] at h
    subst h
    exact (blk_cell (heap_alloc_new w1 _) 0).trans rfl
theorem one_one (x : ByteArray) : ∀ u : Value, u ∈ [Value.string x] → u.oneCell' = true := by
  intro u h
  simp only [List.mem_singleton] at h
  subst h; rfl
theorem oct_len (a : Int) (k : Nat) : (Lib.decDigits (oct a k)).length ≤ 3 := dec_len 3 _ (by omega) (by have := oct_lt a k; omega)
theorem join4 (a : Int) : (Lib.join (datas (octT a 4)) [46]).length ≤ 140737488355328 := by
  have h := congrArg ByteArray.size (addr_join a)
  rw [mkB_size, addrP, mkB_size] at h
  have e : (addrL a).length ≤ 15 := by
    have := oct_len a 0; have := oct_len a 1; have := oct_len a 2; have := oct_len a 3
    simp only [addrL, List.length_append, List.length_cons]; omega
  rw [h]; omega
def i4 : List (Nat × Int) := [(0, 24), (1, 16), (2, 8), (3, 0), (4, -8)]
set_option maxHeartbeats 2000000 in
theorem aprint_calls (a : Int) (w : World) (he : Env w) (h0 : 0 ≤ a) (h1 : a < 4294967296) :
    Calls Tryz.prog 57 #[.int .u32 a] w fun e w' => e = .returned (.string (addrP a)) ∧ Grows w w' := by
  have HE := Lib.hid he
  clear he
  obtain ⟨i0, hi, hz0, hz1, hz2⟩ := info_parts info9
  have HI := Lib.hid (And.intro hi (And.intro hz0 (And.intro hz1 hz2)))
  clear hi hz0 hz1 hz2
  have q : ∀ k, ((oct a k : Nat) : Int) ≤ 255 := fun k => by have := oct_lt a k; omega
  go_enter Tryz.func57, Tryz.ntmps57
  go_wp2_with fail
  go_loopw [3, 4] (fun v3 v4 wr => ∃ (k : Nat) (i : Int), (k, i) ∈ i4 ∧ v4 = .int .i64 i ∧ Hid (OwnS wr w.heap.size v3 (octT a k)) ∧ Hid (Grows w wr)) (fun _ v4 _ => (intOf v4 + 8).toNat)
  case atStart => exact ⟨0, 24, by simp [i4], rfl, Lib.hid ⟨rfl, .inl ⟨rfl, rfl⟩⟩, Lib.hid (Below.refl _ _)⟩
  case round =>
    obtain ⟨k, i, hk, rfl, HO, HG⟩ := hrel
    simp only [i4, List.mem_cons, Prod.mk.injEq, List.not_mem_nil, or_false] at hk
    rcases hk with ⟨rfl, rfl⟩ | ⟨rfl, rfl⟩ | ⟨rfl, rfl⟩ | ⟨rfl, rfl⟩ | ⟨rfl, rfl⟩
    · have e := and255 (a / 16777216) (by omega) (by omega)
      rw [show a / 16777216 % 256 = ((oct a 3 : Nat) : Int) from by rw [oct_eq]; rfl] at e
      have q3 := q 3
      have HE3 : Hid (octT a 1 = octT a 0 ++ [mkB (Lib.decDigits (oct a 3))]) := Lib.hid (octT_succ a 0)
      clear q
      go_wp2_with fail
      refine (itoaN_calls (oct a 3) wr (by omega) (HE.out.below HG.out)).mono ?_
      rintro e w1 ⟨rfl, hb⟩
      have HO1 := Lib.hid (HO.out.grow hb)
      have HG1 : Hid (Grows w w1) := Lib.hid (below_then HG.out HG.out.size hb)
      clear hb
      generalize mkB (Lib.decDigits (oct a 3)) = x at *
      go_wp2_with (at_builtin; refine wpList_append_own _ rfl _ _ 43 rfl w.heap.size 9 i0 (.string ⟨#[]⟩) 1 16 Tryz.underlying43 HI.out.1 HI.out.2.1 HI.out.2.2.1 HI.out.2.2.2 rfl (by decide) _ _ _ rfl (HO1.out.alloc _) ⟨w1.heap.size, 0, none⟩ 1 1 [.string x] rfl rfl (news_one w1 x) (one_one x) ?c3 ?c4 ?c5 ?_)
      case c3 => rw [octT_len]; decide
      case c4 => rw [octT_len]; decide
      case c5 => have := HG1.out.size; simp; omega
      intro v' w2 hown' hgrow' _
      have HO2 : Hid (OwnS w2 w.heap.size v' (octT a 1)) := Lib.hid (by rw [HE3.out]; exact OwnS.more hown')
      have HG2 : Hid (Grows w w2) := Lib.hid (below_grown (below_alloc HG1.out _) hgrow' (HO1.out.alloc _))
      clear hown' hgrow'
      go_wp2
      go_roundw
      case rel => exact ⟨1, _, by simp [i4], rfl, HO2, HG2⟩
      case measure => simp [intOf]
    · have e := and255 (a / 65536) (by omega) (by omega)
      rw [show a / 65536 % 256 = ((oct a 2 : Nat) : Int) from by rw [oct_eq]; rfl] at e
      have q3 := q 2
      have HE3 : Hid (octT a 2 = octT a 1 ++ [mkB (Lib.decDigits (oct a 2))]) := Lib.hid (octT_succ a 1)
      clear q
      go_wp2_with fail
      refine (itoaN_calls (oct a 2) wr (by omega) (HE.out.below HG.out)).mono ?_
      rintro e w1 ⟨rfl, hb⟩
      have HO1 := Lib.hid (HO.out.grow hb)
      have HG1 : Hid (Grows w w1) := Lib.hid (below_then HG.out HG.out.size hb)
      clear hb
      generalize mkB (Lib.decDigits (oct a 2)) = x at *
      go_wp2_with (at_builtin; refine wpList_append_own _ rfl _ _ 43 rfl w.heap.size 9 i0 (.string ⟨#[]⟩) 1 16 Tryz.underlying43 HI.out.1 HI.out.2.1 HI.out.2.2.1 HI.out.2.2.2 rfl (by decide) _ _ _ rfl (HO1.out.alloc _) ⟨w1.heap.size, 0, none⟩ 1 1 [.string x] rfl rfl (news_one w1 x) (one_one x) ?c3 ?c4 ?c5 ?_)
      case c3 => rw [octT_len]; decide
      case c4 => rw [octT_len]; decide
      case c5 => have := HG1.out.size; simp; omega
      intro v' w2 hown' hgrow' _
      have HO2 : Hid (OwnS w2 w.heap.size v' (octT a 2)) := Lib.hid (by rw [HE3.out]; exact OwnS.more hown')
      have HG2 : Hid (Grows w w2) := Lib.hid (below_grown (below_alloc HG1.out _) hgrow' (HO1.out.alloc _))
      clear hown' hgrow'
      go_wp2
      go_roundw
      case rel => exact ⟨2, _, by simp [i4], rfl, HO2, HG2⟩
      case measure => simp [intOf]
    · have e := and255 (a / 256) (by omega) (by omega)
      rw [show a / 256 % 256 = ((oct a 1 : Nat) : Int) from by rw [oct_eq]; rfl] at e
      have q3 := q 1
      have HE3 : Hid (octT a 3 = octT a 2 ++ [mkB (Lib.decDigits (oct a 1))]) := Lib.hid (octT_succ a 2)
      clear q
      go_wp2_with fail
      refine (itoaN_calls (oct a 1) wr (by omega) (HE.out.below HG.out)).mono ?_
      rintro e w1 ⟨rfl, hb⟩
      have HO1 := Lib.hid (HO.out.grow hb)
      have HG1 : Hid (Grows w w1) := Lib.hid (below_then HG.out HG.out.size hb)
      clear hb
      generalize mkB (Lib.decDigits (oct a 1)) = x at *
      go_wp2_with (at_builtin; refine wpList_append_own _ rfl _ _ 43 rfl w.heap.size 9 i0 (.string ⟨#[]⟩) 1 16 Tryz.underlying43 HI.out.1 HI.out.2.1 HI.out.2.2.1 HI.out.2.2.2 rfl (by decide) _ _ _ rfl (HO1.out.alloc _) ⟨w1.heap.size, 0, none⟩ 1 1 [.string x] rfl rfl (news_one w1 x) (one_one x) ?c3 ?c4 ?c5 ?_)
      case c3 => rw [octT_len]; decide
      case c4 => rw [octT_len]; decide
      case c5 => have := HG1.out.size; simp; omega
      intro v' w2 hown' hgrow' _
      have HO2 : Hid (OwnS w2 w.heap.size v' (octT a 3)) := Lib.hid (by rw [HE3.out]; exact OwnS.more hown')
      have HG2 : Hid (Grows w w2) := Lib.hid (below_grown (below_alloc HG1.out _) hgrow' (HO1.out.alloc _))
      clear hown' hgrow'
      go_wp2
      go_roundw
      case rel => exact ⟨3, _, by simp [i4], rfl, HO2, HG2⟩
      case measure => simp [intOf]
    · have e := and255 (a) (by omega) (by omega)
      rw [show a % 256 = ((oct a 0 : Nat) : Int) from by rw [oct_eq]; omega] at e
      have q3 := q 0
      have HE3 : Hid (octT a 4 = octT a 3 ++ [mkB (Lib.decDigits (oct a 0))]) := Lib.hid (octT_succ a 3)
      clear q
      go_wp2_with fail
      refine (itoaN_calls (oct a 0) wr (by omega) (HE.out.below HG.out)).mono ?_
      rintro e w1 ⟨rfl, hb⟩
      have HO1 := Lib.hid (HO.out.grow hb)
      have HG1 : Hid (Grows w w1) := Lib.hid (below_then HG.out HG.out.size hb)
      clear hb
      generalize mkB (Lib.decDigits (oct a 0)) = x at *
      go_wp2_with (at_builtin; refine wpList_append_own _ rfl _ _ 43 rfl w.heap.size 9 i0 (.string ⟨#[]⟩) 1 16 Tryz.underlying43 HI.out.1 HI.out.2.1 HI.out.2.2.1 HI.out.2.2.2 rfl (by decide) _ _ _ rfl (HO1.out.alloc _) ⟨w1.heap.size, 0, none⟩ 1 1 [.string x] rfl rfl (news_one w1 x) (one_one x) ?c3 ?c4 ?c5 ?_)
      case c3 => rw [octT_len]; decide
      case c4 => rw [octT_len]; decide
      case c5 => have := HG1.out.size; simp; omega
      intro v' w2 hown' hgrow' _
      have HO2 : Hid (OwnS w2 w.heap.size v' (octT a 4)) := Lib.hid (by rw [HE3.out]; exact OwnS.more hown')
      have HG2 : Hid (Grows w w2) := Lib.hid (below_grown (below_alloc HG1.out _) hgrow' (HO1.out.alloc _))
      clear hown' hgrow'
      go_wp2
      go_roundw
      case rel => exact ⟨4, _, by simp [i4], rfl, HO2, HG2⟩
      case measure => simp [intOf]
    · go_wp2_with fail
      refine (join_own wr w.heap.size _ (octT a 4) ⟨#[46]⟩ HO.out (by rw [octT_len]; decide) (join4 a)).mono ?_
      rintro e w1 ⟨rfl, hb⟩
      have HG1 : Hid (Grows w w1) := Lib.hid (below_then HG.out HG.out.size hb)
      have HJ := Lib.hid (addr_join a)
      clear hb
      go_wp2_with fail
      go_ret
      exact ⟨ret_str HJ.out, HG1.out⟩
end Go.Proofs.YtomkohdlaednhaaGreatDoor
