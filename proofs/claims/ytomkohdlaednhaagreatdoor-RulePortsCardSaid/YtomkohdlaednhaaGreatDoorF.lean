import Derived.Test.YtomkohdlaednhaaGreatDoorE
set_option linter.unusedSimpArgs false
set_option linter.unusedVariables false
namespace Go.Proofs.YtomkohdlaednhaaGreatDoor
open Go.RowKit Go.Proofs.YtomkohdlaednhaaGreatDoorW.PrintWords

theorem keep_own {w W : World} {g b j : Nat} {v : Value} (h : KeepBut w W g none) (hb : w.heap.size ≤ b) : KeepBut w (W.setCell ⟨b, j, none⟩ v) g none :=
  ⟨by have := h.1; simpa [World.setCell] using this, fun i hi hg hr => by
    rw [← h.2 i hi hg hr]
    simp only [World.setCell]
    rw [Array.getElem?_modify]
    rw [if_neg (by show ¬ b = i; omega)]⟩
theorem keep_alloc0 (w : World) (o : Obj) (g : Nat) : KeepBut w (w.alloc o) g none := KeepBut.of_below (below_alloc (Below.refl _ _) _) g none
theorem WS.far {T w0 w g l bad} (h : WS T w0 w g l bad) {b j : Nat} (v : Value) (hne : g ≠ b) (hb : w0.heap.size ≤ b) : WS T w0 (w.setCell ⟨b, j, none⟩ v) g l bad := by
  obtain ⟨A, c, hg, hs⟩ := h.blk
  exact ⟨⟨A, c, blk_far (p := ⟨b, j, none⟩) hg hne v, hs⟩, h.ge, below_set h.below hb, h.env, h.sz⟩
theorem WS.alloc {T w0 w g l bad} (h : WS T w0 w g l bad) (o : Obj) : WS T w0 (w.alloc o) g l bad := h.grow (below_alloc (Below.refl _ _) _)
theorem WPost.step {T w0 w w1 w2 g l bad l2 b2} (h : WPost T w0 w w1 g l bad) (h2 : WPost T w0 w1 w2 g l2 b2) : WPost T w0 w w2 g l2 b2 := ⟨h2.1, h.2.trans h2.2 (.inl rfl)⟩
theorem WPost.grow {T w0 w w1 w2 g l bad} (h : WPost T w0 w w1 g l bad) (hb : Grows w1 w2) : WPost T w0 w w2 g l bad := ⟨h.1.grow hb, h.2.trans (KeepBut.of_below hb g none) (.inl rfl)⟩
theorem WPost.set {T w0 w w1 g l bad} (h : WPost T w0 w w1 g l bad) (b : Bool) : WPost T w0 w (w1.setCell ⟨g, 1, none⟩ (.bool b)) g l b := ⟨h.1.setBad b, h.2.set_ _ _⟩
theorem WPost.far {T w0 w w1 g l bad} (h : WPost T w0 w w1 g l bad) {b j : Nat} (v : Value) (hne : g ≠ b) (hb : w.heap.size ≤ b) (hw : w0.heap.size ≤ w.heap.size) : WPost T w0 w (w1.setCell ⟨b, j, none⟩ v) g l bad := ⟨h.1.far v hne (by omega), keep_own h.2 hb⟩
theorem WS.post {T w0 w g l bad} (h : WS T w0 w g l bad) : WPost T w0 w w g l bad := ⟨h, KeepBut.refl _ _ _⟩
theorem WPost.alloc {T w0 w w1 g l bad} (h : WPost T w0 w w1 g l bad) (o : Obj) : WPost T w0 w (w1.alloc o) g l bad := h.grow (below_alloc (Below.refl _ _) _)
theorem WPost.drew {T w0 w w1 g l bad} (h : WPost T w0 w w1 g l bad) : WPost T w0 w w1.drew g l bad := h.grow (below_drew (Below.refl _ _))
/-- Another block of the call's own behind a call. -/
theorem WPost.blk {T w0 w w1 g l bad b} {o : Obj} (h : WPost T w0 w w1 g l bad) (hb : w.heap[b]? = some o) (hne : b ≠ g) : w1.heap[b]? = some o := h.2.blk hb hne (by simp)
theorem WPost.cell1 {T w0 w w1 g l bad} (h : WPost T w0 w w1 g l bad) : w1.cell? ⟨g, 1, none⟩ = some (.bool bad) ∧ w1.frozen? ⟨g, 1, none⟩ = false := by
  obtain ⟨A, c, hg, -⟩ := h.1.blk
  exact ⟨(blk_cell hg 1).trans rfl, blk_frozen hg 1⟩

structure PinV where
  on : Bool
  iface : ByteArray
  gate : Int
def PinV.val (p : PinV) : Value := .agg #[.bool p.on, .string p.iface, .int .u32 p.gate]
def noPin : PinV := ⟨false, ⟨#[]⟩, 0⟩
def pinR (l : List ByteArray) (bad : Bool) (word : ByteArray) : PinV × List ByteArray × Bool :=
  if takesB l bad word then (⟨true, nextS l.tail, (addrR (nextS l.tail.tail)).1⟩, l.tail.tail.tail, bad || l.tail.isEmpty || l.tail.tail.isEmpty || decide ((addrR (nextS l.tail.tail)).2 ≠ 0))
  else (noPin, l, bad)
set_option maxHeartbeats 1000000 in
theorem pin_calls (w0 w : World) (g : Nat) (l : List ByteArray) (bad : Bool) (s : ByteArray) (h : WS 68 w0 w g l bad) :
    Calls Tryz.prog 39 #[.pointer (some ⟨g, 0, none⟩), .string s] w fun e w' => e = .returned (pinR l bad s).1.val ∧ WPost 68 w0 w w' g (pinR l bad s).2.1 (pinR l bad s).2.2 := by
  have hlt := h.lt
  have H0 := Lib.hid (h.post.alloc (.cells #[.bool false, .string ⟨#[]⟩, .int .u32 0] 30))
  have HW := Lib.hid h.below.size
  clear h
  obtain ⟨R, hr⟩ : ∃ R, R = pinR l bad s := ⟨_, rfl⟩
  rw [← hr]
  have HR := Lib.hid hr
  clear hr
  go_enter Tryz.func39, Tryz.ntmps39
  go_wp2_with fail
  refine (takes_calls w0 _ g l bad s H0.out.1).mono ?_
  rintro e w1 ⟨rfl, hw1⟩
  have hg1 := hw1.blk (heap_alloc_new w _) (by omega)
  have H1 := Lib.hid (H0.out.step hw1)
  obtain ⟨b, hbs⟩ : ∃ b, b = w.heap.size := ⟨_, rfl⟩
  have HB : Hid (g ≠ b ∧ w.heap.size ≤ b) := Lib.hid (by omega)
  rw [← hbs] at hg1
  rw [← hbs]
  clear hbs hlt hw1
  cases hq : takesB l bad s with
  | false =>
    have HQ := Lib.hid hq
    have c0 : w1.cell? ⟨b, 0, none⟩ = some (.bool false) := (blk_cell hg1 0).trans rfl
    have c1 : w1.cell? ⟨b, 1, none⟩ = some (.string ⟨#[]⟩) := (blk_cell hg1 1).trans rfl
    have c2 : w1.cell? ⟨b, 2, none⟩ = some (.int .u32 0) := (blk_cell hg1 2).trans rfl
    have f0 := blk_frozen hg1 0
    have f1 := blk_frozen hg1 1
    have f2 := blk_frozen hg1 2
    clear hg1
    go_wp2_with fail
    have e1 : R = (noPin, l, bad) := by rw [HR.out, pinR, HQ.out]; rfl
    refine bodyPost_ret (v := .agg #[.bool false, .string ⟨#[]⟩, .int .u32 0]) (by simp [results, Tryz.results39, go_sem, c0, c1, c2]) rfl ⟨by rw [e1]; rfl, ?_⟩
    rw [e1]
    have := H1.out
    simp only [takesL, HQ.out] at this
    exact ((this.far _ HB.out.1 HB.out.2 HW.out).far _ HB.out.1 HB.out.2 HW.out).far _ HB.out.1 HB.out.2 HW.out
  | true =>
    have HQ := Lib.hid hq
    have hl1 : takesL l bad s = l.tail := by rw [takesL, if_pos HQ.out]
    rw [hl1] at H1
    clear hl1
    have HG1 := Lib.hid hg1
    clear hg1
    go_wp2_with fail
    refine (next_calls w0 _ g l.tail bad H1.out.1).mono ?_
    rintro e w2 ⟨rfl, hw2⟩
    have HG2 := Lib.hid (hw2.blk HG1.out HB.out.1.symm)
    have H2 := Lib.hid (H1.out.step hw2)
    clear hw2
    go_wp2_with fail
    refine (next_calls w0 _ g _ _ H2.out.1).mono ?_
    rintro e w3 ⟨rfl, hw3⟩
    have HG3 := Lib.hid (hw3.blk HG2.out HB.out.1.symm)
    have H3 := Lib.hid (H2.out.step hw3)
    have hsz := H2.out.1.next_sz
    clear hw3
    go_wp2_with fail
    refine (addr_calls _ w3 H3.out.1.envNow hsz).mono ?_
    rintro e w4 ⟨rfl, hb4⟩
    have hg4 := blkG HG3.out hb4
    have H4 := Lib.hid (H3.out.grow hb4)
    have c0 : w4.cell? ⟨b, 0, none⟩ = some (.bool false) := (blk_cell hg4 0).trans rfl
    have c1 : w4.cell? ⟨b, 1, none⟩ = some (.string ⟨#[]⟩) := (blk_cell hg4 1).trans rfl
    have c2 : w4.cell? ⟨b, 2, none⟩ = some (.int .u32 0) := (blk_cell hg4 2).trans rfl
    have f0 := blk_frozen hg4 0
    have f1 := blk_frozen hg4 1
    have f2 := blk_frozen hg4 2
    obtain ⟨d1, d2⟩ := H4.out.cell1
    have hne : g ≠ b := HB.out.1
    have hne2 : b ≠ g := HB.out.1.symm
    clear hg4 hsz hb4
    generalize hB : (bad || l.tail.isEmpty || l.tail.tail.isEmpty) = B at *
    have HBB := Lib.hid hB
    clear hB
    have HR2 : Hid (R = (⟨true, nextS l.tail, (addrR (nextS l.tail.tail)).1⟩, l.tail.tail.tail, B || decide ((addrR (nextS l.tail.tail)).2 ≠ 0))) := Lib.hid (by rw [HR.out, pinR, if_pos HQ.out, HBB.out])
    generalize addrR (nextS l.tail.tail) = r at *
    cases B with
    | true =>
      go_wp2_with fail
      refine bodyPost_ret (v := .agg #[.bool true, .string (nextS l.tail), .int .u32 r.1]) (by simp [results, Tryz.results39, go_sem, c0, c1, c2, hne, hne2]) rfl ⟨by rw [HR2.out]; rfl, ?_⟩
      rw [HR2.out]
      have e2 : WPost 68 w0 w _ g l.tail.tail.tail true := (((H4.out.set true).far (j := 0) (.bool true) hne HB.out.2 HW.out).far (j := 1) (.string (nextS l.tail)) hne HB.out.2 HW.out).far (j := 2) (.int .u32 r.1) hne HB.out.2 HW.out
      simpa using e2
    | false =>
      cases hz : (r.2 != 0) with
      | true =>
        go_wp2_with fail
        refine bodyPost_ret (v := .agg #[.bool true, .string (nextS l.tail), .int .u32 r.1]) (by simp [results, Tryz.results39, go_sem, c0, c1, c2, hne, hne2]) rfl ⟨by rw [HR2.out]; rfl, ?_⟩
        rw [HR2.out]
        have e2 : WPost 68 w0 w _ g l.tail.tail.tail true := (((H4.out.set true).far (j := 0) (.bool true) hne HB.out.2 HW.out).far (j := 1) (.string (nextS l.tail)) hne HB.out.2 HW.out).far (j := 2) (.int .u32 r.1) hne HB.out.2 HW.out
        simpa [show r.2 ≠ 0 from by simpa using hz] using e2
      | false =>
        go_wp2_with fail
        refine bodyPost_ret (v := .agg #[.bool true, .string (nextS l.tail), .int .u32 r.1]) (by simp [results, Tryz.results39, go_sem, c0, c1, c2, hne, hne2]) rfl ⟨by rw [HR2.out]; rfl, ?_⟩
        rw [HR2.out]
        have e2 : WPost 68 w0 w _ g l.tail.tail.tail false := (((H4.out.set false).far (j := 0) (.bool true) hne HB.out.2 HW.out).far (j := 1) (.string (nextS l.tail)) hne HB.out.2 HW.out).far (j := 2) (.int .u32 r.1) hne HB.out.2 HW.out
        simpa [show r.2 = 0 from by simpa using hz] using e2
end Go.Proofs.YtomkohdlaednhaaGreatDoor
