import Derived.Test.YtomkohdlaednhaaGreatDoorD
set_option linter.unusedSimpArgs false
set_option linter.unusedVariables false
namespace Go.Proofs.YtomkohdlaednhaaGreatDoor
open Go.RowKit Go.Proofs.YtomkohdlaednhaaGreatDoorW.PrintWords

/-- A block of the call's own stays as it is. -/
theorem blkG {w w1 : World} {g : Nat} {o : Obj} (h : w.heap[g]? = some o) (hb : Grows w w1) : w1.heap[g]? = some o := (hb.block g (blk_lt h)).trans h
def cutS (s c : ByteArray) : ByteArray × ByteArray × Bool := (⟨(Lib.cut s.data.toList c.data.toList).1.toArray⟩, ⟨(Lib.cut s.data.toList c.data.toList).2.1.toArray⟩, (Lib.cut s.data.toList c.data.toList).2.2)
theorem cut_calls (s c : ByteArray) (w : World) (he : Env w) (hs : s.size < 4294967281) :
    Calls Tryz.prog 81 #[.string s, .string c] w fun e w' => e = .returned (.tuple #[.string (cutS s c).1, .string (cutS s c).2.1, .bool (cutS s c).2.2]) ∧ Grows w w' :=
  (Tryz.strings_Cut_shaped s c w he.1 hs).mono fun e w' ⟨h1, n, h2⟩ => ⟨h1, by rw [h2]; exact pw_below_drewN (Below.refl _ _) n⟩
theorem cutS_size1 (s c : ByteArray) : (cutS s c).1.size ≤ s.size := by
  have e1 : (cutS s c).1.size = (Lib.cut s.data.toList c.data.toList).1.length := by rw [Lib.size_eq]; rfl
  rw [e1, Lib.size_eq s]
  unfold Lib.cut
  split
  · show (List.take _ _).length ≤ _
    rw [List.length_take]; omega
  · exact Nat.le_refl _
def slashS : ByteArray := ⟨#[47]⟩
/-- A text as a prefix: the address, the length, the error. -/
def pfxR (s : ByteArray) : Int × Int × Int :=
  if (cutS s slashS).2.2 = true ∧ (numR 3 32 (cutS s slashS).2.1).2 = false then (0, 0, 2)
  else if (addrR (cutS s slashS).1).2 ≠ 0 then (0, 0, (addrR (cutS s slashS).1).2)
  else ((addrR (cutS s slashS).1).1, if (cutS s slashS).2.2 then (numR 3 32 (cutS s slashS).2.1).1 else 32, 0)
set_option maxHeartbeats 1000000 in
theorem pfx_calls (s : ByteArray) (w : World) (he : Env w) (hs : s.size < 4294967281) :
    Calls Tryz.prog 80 #[.string s] w fun e w' => e = .returned (.tuple #[.agg #[.int .u32 (pfxR s).1, .int .i64 (pfxR s).2.1], .int .i64 (pfxR s).2.2]) ∧ Grows w w' := by
  have hE := Lib.hid he
  clear he
  obtain ⟨f, hf⟩ : ∃ f, f = pfxR s := ⟨_, rfl⟩
  rw [← hf]
  have HF := Lib.hid hf
  clear hf
  go_enter Tryz.func80, Tryz.ntmps80
  go_wp2_with fail
  refine (cut_calls s slashS _ (hE.out.below (below_alloc (Below.refl _ _) _)) hs).mono ?_
  rintro e w1 ⟨rfl, hb1⟩
  have hg1 := blkG (heap_alloc_new w _) hb1
  have hb01 : Grows w w1 := below_then (below_alloc (Below.refl w.heap.size w) _) (by simp) hb1
  obtain ⟨g, hgs⟩ : ∃ g, g = w.heap.size := ⟨_, rfl⟩
  have HGS : Hid (w.heap.size ≤ g) := Lib.hid (by omega)
  rw [← hgs] at hg1
  rw [← hgs]
  clear hgs
  cases hq : (cutS s slashS).2.2 with
  | true =>
    have HQ := Lib.hid hq
    go_wp2_with fail
    refine (anum_calls _ 32 w1).mono ?_
    rintro e w2 ⟨rfl, hb2⟩
    have hg2 := blkG hg1 hb2
    have c0 : w2.cell? ⟨g, 0, none⟩ = some (.int .u32 0) := (blk_cell hg2 0).trans rfl
    have c1 : w2.cell? ⟨g, 1, none⟩ = some (.int .i64 0) := (blk_cell hg2 1).trans rfl
    have f0 := blk_frozen hg2 0
    have f1 := blk_frozen hg2 1
    have hb02 : Grows w w2 := below_then hb01 hb01.size hb2
    have HG2 := Lib.hid hg2
    clear hg1 hg2
    cases hr : (numR 3 32 (cutS s slashS).2.1).2 with
    | false =>
      have HR := Lib.hid hr
      go_wp2_with fail
      refine bodyPost_ret (v := .tuple #[.agg #[.int .u32 0, .int .i64 0], .int .i64 2]) (by simp [results, Tryz.results80, go_sem, c0, c1]) rfl ⟨?_, below_set (below_set hb02 HGS.out) HGS.out⟩
      have e1 : f = (0, 0, 2) := by rw [HF.out, pfxR, if_pos ⟨HQ.out, HR.out⟩]
      rw [e1]
    | true =>
      have HR := Lib.hid hr
      clear c0 c1 f0 f1
      go_wp2_with fail
      refine (addr_calls _ w2 (hE.out.below hb02) (by have := cutS_size1 s slashS; omega)).mono ?_
      rintro e w3 ⟨rfl, hb3⟩
      have hg3 := blkG HG2.out hb3
      have c0 : w3.cell? ⟨g, 0, none⟩ = some (.int .u32 0) := (blk_cell hg3 0).trans rfl
      have c1 : w3.cell? ⟨g, 1, none⟩ = some (.int .i64 0) := (blk_cell hg3 1).trans rfl
      have f0 := blk_frozen hg3 0
      have f1 := blk_frozen hg3 1
      have hb03 := below_then hb02 hb02.size hb3
      clear hg3
      cases hz : ((addrR (cutS s slashS).1).2 != 0) with
      | true =>
        have HZ := Lib.hid hz
        go_wp2_with fail
        refine bodyPost_ret (v := .tuple #[.agg #[.int .u32 0, .int .i64 0], .int .i64 (addrR (cutS s slashS).1).2]) (by simp [results, Tryz.results80, go_sem, c0, c1]) rfl ⟨?_, below_set (below_set hb03 HGS.out) HGS.out⟩
        have e1 : f = (0, 0, (addrR (cutS s slashS).1).2) := by rw [HF.out, pfxR, if_neg (by rintro ⟨h1, h2⟩; rw [HR.out] at h2; exact absurd h2 (by decide)), if_pos (by simpa using HZ.out)]
        rw [e1]
      | false =>
        have HZ := Lib.hid hz
        go_wp2_with fail
        refine bodyPost_ret (v := .tuple #[.agg #[.int .u32 (addrR (cutS s slashS).1).1, .int .i64 (numR 3 32 (cutS s slashS).2.1).1], .int .i64 0]) (by simp [results, Tryz.results80, go_sem, c0, c1]) rfl ⟨?_, below_set (below_set hb03 HGS.out) HGS.out⟩
        have e1 : f = ((addrR (cutS s slashS).1).1, (numR 3 32 (cutS s slashS).2.1).1, 0) := by rw [HF.out, pfxR, if_neg (by rintro ⟨h1, h2⟩; rw [HR.out] at h2; exact absurd h2 (by decide)), if_neg (by simpa using HZ.out), if_pos HQ.out]
        rw [e1]
  | false =>
    have HQ := Lib.hid hq
    have HG2 := Lib.hid hg1
    clear hg1
    go_wp2_with fail
    refine (addr_calls _ w1 (hE.out.below hb01) (by have := cutS_size1 s slashS; omega)).mono ?_
    rintro e w3 ⟨rfl, hb3⟩
    have hg3 := blkG HG2.out hb3
    have c0 : w3.cell? ⟨g, 0, none⟩ = some (.int .u32 0) := (blk_cell hg3 0).trans rfl
    have c1 : w3.cell? ⟨g, 1, none⟩ = some (.int .i64 0) := (blk_cell hg3 1).trans rfl
    have f0 := blk_frozen hg3 0
    have f1 := blk_frozen hg3 1
    have hb03 := below_then hb01 hb01.size hb3
    clear hg3
    cases hz : ((addrR (cutS s slashS).1).2 != 0) with
    | true =>
      have HZ := Lib.hid hz
      go_wp2_with fail
      refine bodyPost_ret (v := .tuple #[.agg #[.int .u32 0, .int .i64 0], .int .i64 (addrR (cutS s slashS).1).2]) (by simp [results, Tryz.results80, go_sem, c0, c1]) rfl ⟨?_, below_set (below_set hb03 HGS.out) HGS.out⟩
      have e1 : f = (0, 0, (addrR (cutS s slashS).1).2) := by rw [HF.out, pfxR, if_neg (by rintro ⟨h1, h2⟩; rw [HQ.out] at h1; exact absurd h1 (by decide)), if_pos (by simpa using HZ.out)]
      rw [e1]
    | false =>
      have HZ := Lib.hid hz
      go_wp2_with fail
      refine bodyPost_ret (v := .tuple #[.agg #[.int .u32 (addrR (cutS s slashS).1).1, .int .i64 32], .int .i64 0]) (by simp [results, Tryz.results80, go_sem, c0, c1]) rfl ⟨?_, below_set (below_set hb03 HGS.out) HGS.out⟩
      have e1 : f = ((addrR (cutS s slashS).1).1, 32, 0) := by rw [HF.out, pfxR, if_neg (by rintro ⟨h1, h2⟩; rw [HQ.out] at h1; exact absurd h1 (by decide)), if_neg (by simpa using HZ.out), HQ.out, if_neg (by decide)]
      rw [e1]
end Go.Proofs.YtomkohdlaednhaaGreatDoor
