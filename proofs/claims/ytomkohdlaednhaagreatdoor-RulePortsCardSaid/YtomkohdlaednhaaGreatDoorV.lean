import Derived.Test.YtomkohdlaednhaaGreatDoorU
import Derived.Test.YtomkohdlaednhaaGreatDoorH
set_option linter.unusedSimpArgs false
set_option linter.unusedVariables false
namespace Go.Proofs.YtomkohdlaednhaaGreatDoor
open Go.RowKit Go.Proofs.YtomkohdlaednhaaGreatDoorW.PrintWords

theorem rnum_calls (w0 w : World) (g : Nat) (l : List ByteArray) (bad : Bool) (s : ByteArray) (m : Int) (h : WS 78 w0 w g l bad) :
    Calls Tryz.prog 47 #[.pointer (some ⟨g, 0, none⟩), .string s, .int .i64 m] w fun e w' => e = .returned (.int .i64 (numR 9 m s).1) ∧ WPost 78 w0 w w' g l (bad || !(numR 9 m s).2) := by
  have H0 := Lib.hid h.post
  clear h
  obtain ⟨r, hr⟩ : ∃ r, r = numR 9 m s := ⟨_, rfl⟩
  rw [← hr]
  go_enter Tryz.func47, Tryz.ntmps47
  go_wp2_with fail
  refine (Num_calls s m w).mono ?_
  rw [← hr]
  clear hr
  rintro e w1 ⟨rfl, hb⟩
  have H1 := Lib.hid (H0.out.grow hb)
  obtain ⟨d1, d2⟩ := H1.out.cell1
  obtain ⟨n, q⟩ := r
  clear hb
  cases q with
  | true =>
    go_wp2_with fail
    go_ret
    exact ⟨rfl, by simpa using H1.out⟩
  | false =>
    go_wp2_with fail
    go_ret
    exact ⟨rfl, by simpa using H1.out.set true⟩
theorem raddress_calls (w0 w : World) (g : Nat) (l : List ByteArray) (bad : Bool) (h : WS 78 w0 w g l bad) :
    Calls Tryz.prog 87 #[.pointer (some ⟨g, 0, none⟩)] w fun e w' => e = .returned (.int .u32 (addrR (nextS l)).1) ∧ WPost 78 w0 w w' g l.tail (bad || l.isEmpty || decide ((addrR (nextS l)).2 ≠ 0)) := by
  have hsz := h.next_sz
  have H0 := Lib.hid h
  clear h
  obtain ⟨r, hr⟩ : ∃ r, r = addrR (nextS l) := ⟨_, rfl⟩
  rw [← hr]
  go_enter Tryz.func87, Tryz.ntmps87
  go_wp2_with fail
  refine (rnext_calls w0 w g l bad H0.out).mono ?_
  rintro e w1 ⟨rfl, hw1⟩
  have H1 := Lib.hid hw1
  clear hw1
  go_wp2_with fail
  refine (raddr_calls _ w1 (by omega)).mono ?_
  rw [← hr]
  clear hr hsz
  rintro e w2 ⟨rfl, hb⟩
  have H2 := Lib.hid (H1.out.grow hb)
  obtain ⟨d1, d2⟩ := H2.out.cell1
  obtain ⟨n, q⟩ := r
  clear hb
  cases hz : (q != 0) with
  | true =>
    have hz' : q ≠ 0 := by simpa using hz
    have HZ := Lib.hid hz'
    clear hz'
    go_wp2_with fail
    go_ret
    exact ⟨rfl, by simpa [HZ.out] using H2.out.set true⟩
  | false =>
    have hz' : q = 0 := by simpa using hz
    have HZ := Lib.hid hz'
    clear hz'
    go_wp2_with fail
    go_ret
    exact ⟨rfl, by simpa [HZ.out] using H2.out⟩
def rpinR (l : List ByteArray) (bad : Bool) : PinV × List ByteArray × Bool :=
  (⟨true, nextS l, (addrR (nextS l.tail)).1⟩, l.tail.tail, bad || l.isEmpty || l.tail.isEmpty || decide ((addrR (nextS l.tail)).2 ≠ 0))
theorem rpin_calls (w0 w : World) (g : Nat) (l : List ByteArray) (bad : Bool) (h : WS 78 w0 w g l bad) :
    Calls Tryz.prog 48 #[.pointer (some ⟨g, 0, none⟩)] w fun e w' => e = .returned (rpinR l bad).1.val ∧ WPost 78 w0 w w' g (rpinR l bad).2.1 (rpinR l bad).2.2 := by
  have hlt := h.lt
  have H0 := Lib.hid (h.post.alloc (.cells #[.bool false, .string ⟨#[]⟩, .int .u32 0] 30))
  have HW := Lib.hid h.below.size
  clear h
  obtain ⟨R, hr⟩ : ∃ R, R = rpinR l bad := ⟨_, rfl⟩
  rw [← hr]
  have HR := Lib.hid hr
  clear hr
  go_enter Tryz.func48, Tryz.ntmps48
  go_wp2_with fail
  refine (rnext_calls w0 _ g l bad H0.out.1).mono ?_
  rintro e w1 ⟨rfl, hw1⟩
  have hg1 := hw1.blk (heap_alloc_new w _) (by omega)
  have H1 := Lib.hid (H0.out.step hw1)
  obtain ⟨b, hbs⟩ : ∃ b, b = w.heap.size := ⟨_, rfl⟩
  have HB : Hid (g ≠ b ∧ w.heap.size ≤ b) := Lib.hid (by omega)
  rw [← hbs] at hg1
  rw [← hbs]
  clear hbs hlt hw1
  have HG1 := Lib.hid hg1
  clear hg1
  go_wp2_with fail
  refine (raddress_calls w0 _ g _ _ (H1.out.alloc _).1).mono ?_
  rintro e w2 ⟨rfl, hw2⟩
  have H2 := Lib.hid ((H1.out.alloc (.cells #[.bool true, .string (nextS l), .int .u32 0] 30)).step hw2)
  have hsz1 := H1.out.2.1
  have hg1 : (w1.alloc (.cells #[.bool true, .string (nextS l), .int .u32 0] 30)).heap[b]? = _ := blkG HG1.out (below_alloc (Below.refl _ _) _)
  have hn1 := heap_alloc_new w1 (.cells #[.bool true, .string (nextS l), .int .u32 0] 30)
  have hn2 := hw2.blk hn1 (by have := H1.out.1.lt; omega)
  have hg2 := hw2.blk hg1 HB.out.1.symm
  have hcg : w1.heap.size ≠ g := by have := H1.out.1.lt; omega
  have hcb : w1.heap.size ≠ b := by have := blk_lt HG1.out; omega
  have hcw : w.heap.size ≤ w1.heap.size := hsz1
  generalize w1.heap.size = c at *
  clear hw2 hg1 hn1
  have c0 : w2.cell? ⟨b, 0, none⟩ = some (.bool false) := (blk_cell hg2 0).trans rfl
  have c1 : w2.cell? ⟨b, 1, none⟩ = some (.string ⟨#[]⟩) := (blk_cell hg2 1).trans rfl
  have c2 : w2.cell? ⟨b, 2, none⟩ = some (.int .u32 0) := (blk_cell hg2 2).trans rfl
  have f0 := blk_frozen hg2 0
  have f1 := blk_frozen hg2 1
  have f2 := blk_frozen hg2 2
  have b0 : w2.cell? ⟨c, 0, none⟩ = some (.bool true) := (blk_cell hn2 0).trans rfl
  have b1 : w2.cell? ⟨c, 1, none⟩ = some (.string (nextS l)) := (blk_cell hn2 1).trans rfl
  have b2 : w2.cell? ⟨c, 2, none⟩ = some (.int .u32 0) := (blk_cell hn2 2).trans rfl
  have e2 := blk_frozen hn2 2
  clear hg2 hn2
  have HC := Lib.hid (And.intro hcg hcw)
  clear hcg hcw hsz1
  generalize hA : addrR (nextS l.tail) = r at *
  have hAA := Lib.hid hA
  clear hA
  have hne : b ≠ c := hcb.symm
  go_wp2_with fail
  refine bodyPost_ret (v := .agg #[.bool true, .string (nextS l), .int .u32 r.1]) (by simp [results, Tryz.results48, go_sem, c0, c1, c2, hne, hcb]) rfl ⟨by rw [HR.out, rpinR, hAA.out]; rfl, ?_⟩
  rw [HR.out, rpinR, hAA.out]
  have h3 := H2.out.far (b := c) (j := 2) (.int .u32 r.1) HC.out.1.symm HC.out.2 HW.out
  exact (((h3.far _ HB.out.1 HB.out.2 HW.out).far _ HB.out.1 HB.out.2 HW.out).far _ HB.out.1 HB.out.2 HW.out)
end Go.Proofs.YtomkohdlaednhaaGreatDoor
