import Derived.Test.YtomkohdlaednhaaGreatDoorF
import Derived.Outline
import Derived.BigRegion
set_option linter.unusedSimpArgs false
set_option linter.unusedVariables false
namespace Go.Proofs.YtomkohdlaednhaaGreatDoor
open Go.RowKit Go.Proofs.YtomkohdlaednhaaGreatDoorW.PrintWords

structure SideV where
  any : Bool
  table : ByteArray
  addr : Int
  len : Int
  low : Int
  high : Int
def SideV.cells (s : SideV) : Array Value := #[.bool s.any, .string s.table, .int .u32 s.addr, .int .i64 s.len, .int .i64 s.low, .int .i64 s.high]
def SideV.val (s : SideV) : Value := .agg s.cells
def anyS : ByteArray := ⟨#[97, 110, 121]⟩
def ltS : ByteArray := ⟨#[60]⟩
def gtS : ByteArray := ⟨#[62]⟩
def portS : ByteArray := ⟨#[112, 111, 114, 116]⟩
def colonS : ByteArray := ⟨#[58]⟩
def isTab (s : ByteArray) : Bool := Lib.hasPrefix s.data.toList ltS.data.toList && Lib.hasSuffix s.data.toList gtS.data.toList
/-- What is told ahead of a side's ports, and whether a word was none. -/
def headR (s : ByteArray) (bad : Bool) : SideV × Bool :=
  if s = anyS then (⟨true, ⟨#[]⟩, 0, 0, 0, 65535⟩, bad)
  else if isTab s then (⟨false, s.extract 1 (s.size - 1), 0, 0, 0, 65535⟩, bad || decide (s.extract 1 (s.size - 1) = ⟨#[]⟩))
  else (⟨false, ⟨#[]⟩, (pfxR s).1, (pfxR s).2.1, 0, 65535⟩, bad || decide ((pfxR s).2.2 ≠ 0))
theorem isTab_size {s : ByteArray} (h : isTab s = true) : 2 ≤ s.size := by
  simp only [isTab, Bool.and_eq_true, Lib.hasPrefix, Lib.hasSuffix, List.isPrefixOf_iff_prefix, List.isSuffixOf_iff_suffix] at h
  obtain ⟨⟨a, ha⟩, ⟨b, hb⟩⟩ := h
  rw [Lib.size_eq]
  rw [← ha]
  cases a with
  | nil =>
    rw [← ha] at hb
    have : b = [] := by
      have := congrArg List.length hb
      have e1 : ltS.data.toList.length = 1 := rfl
      have e2 : gtS.data.toList.length = 1 := rfl
      simp only [List.length_append, List.append_nil, e1, e2] at this
      exact List.eq_nil_of_length_eq_zero (by omega)
    subst this
    simp [ltS, gtS] at hb
  | cons x a => simp [ltS]
/-- What is told of a side's ports. -/
def portsR (l : List ByteArray) (bad : Bool) : Int × Int × List ByteArray × Bool :=
  if takesB l bad portS then
    if (cutS (nextS l.tail) colonS).2.2 then
      (numV 9 (cutS (nextS l.tail) colonS).1, numV 9 (cutS (nextS l.tail) colonS).2.1, l.tail.tail, bad || l.tail.isEmpty || !numOk 9 (cutS (nextS l.tail) colonS).1 || !numOk 9 (cutS (nextS l.tail) colonS).2.1 || decide (numV 9 (cutS (nextS l.tail) colonS).2.1 = numV 9 (cutS (nextS l.tail) colonS).1))
    else (numV 9 (cutS (nextS l.tail) colonS).1, numV 9 (cutS (nextS l.tail) colonS).1, l.tail.tail, bad || l.tail.isEmpty || !numOk 9 (cutS (nextS l.tail) colonS).1)
  else (0, 65535, l, bad)
theorem headR_ports (s : ByteArray) (b : Bool) : (headR s b).1.low = 0 ∧ (headR s b).1.high = 65535 := by
  unfold headR
  split
  · exact ⟨rfl, rfl⟩
  · split
    · exact ⟨rfl, rfl⟩
    · exact ⟨rfl, rfl⟩
def zSide : SideV := ⟨false, ⟨#[]⟩, 0, 0, 0, 0⟩
def sideBlk (v : SideV) : Obj := .cells v.cells 28

theorem side_cells {w : World} {b : Nat} {V : SideV} (h : w.heap[b]? = some (sideBlk V)) :
    w.cell? ⟨b, 0, none⟩ = some (.bool V.any) ∧ w.cell? ⟨b, 1, none⟩ = some (.string V.table) ∧ w.cell? ⟨b, 2, none⟩ = some (.int .u32 V.addr) ∧ w.cell? ⟨b, 3, none⟩ = some (.int .i64 V.len) ∧ w.cell? ⟨b, 4, none⟩ = some (.int .i64 V.low) ∧ w.cell? ⟨b, 5, none⟩ = some (.int .i64 V.high) :=
  ⟨(blk_cell h 0).trans rfl, (blk_cell h 1).trans rfl, (blk_cell h 2).trans rfl, (blk_cell h 3).trans rfl, (blk_cell h 4).trans rfl, (blk_cell h 5).trans rfl⟩
theorem side_frozen {w : World} {b : Nat} {V : SideV} (h : w.heap[b]? = some (sideBlk V)) (j : Nat) : w.frozen? ⟨b, j, none⟩ = false := blk_frozen h j
theorem side_low {w : World} {b : Nat} {V : SideV} (h : w.heap[b]? = some (sideBlk V)) (n : Int) : (w.setCell ⟨b, 4, none⟩ (.int .i64 n)).heap[b]? = some (sideBlk { V with low := n }) := blk_set (cs := SideV.cells V) h 4 (.int .i64 n)
theorem side_high {w : World} {b : Nat} {V : SideV} (h : w.heap[b]? = some (sideBlk V)) (n : Int) : (w.setCell ⟨b, 5, none⟩ (.int .i64 n)).heap[b]? = some (sideBlk { V with high := n }) := blk_set (cs := SideV.cells V) h 5 (.int .i64 n)
def sideR (l : List ByteArray) (bad : Bool) : SideV × List ByteArray × Bool :=
  ({ (headR (nextS l) (bad || l.isEmpty)).1 with low := (portsR l.tail (headR (nextS l) (bad || l.isEmpty)).2).1, high := (portsR l.tail (headR (nextS l) (bad || l.isEmpty)).2).2.1 },
    (portsR l.tail (headR (nextS l) (bad || l.isEmpty)).2).2.2.1, (portsR l.tail (headR (nextS l) (bad || l.isEmpty)).2).2.2.2)
set_option maxRecDepth 100000 in
set_option maxHeartbeats 4000000 in
theorem side_calls (w0 w : World) (g : Nat) (l : List ByteArray) (bad : Bool) (h : WS 68 w0 w g l bad) :
    Calls Tryz.prog 37 #[.pointer (some ⟨g, 0, none⟩)] w fun e w' => e = .returned (sideR l bad).1.val ∧ WPost 68 w0 w w' g (sideR l bad).2.1 (sideR l bad).2.2 := by
  obtain ⟨R, hR⟩ : ∃ R, R = sideR l bad := ⟨_, rfl⟩
  rw [← hR]
  have HR := Lib.hid hR
  clear hR
  have hlt := h.lt
  have H0 := Lib.hid ((h.post.alloc (sideBlk zSide)).alloc (sideBlk ⟨false, ⟨#[]⟩, 0, 0, 0, 65535⟩))
  have HW := Lib.hid h.below.size
  clear h
  go_enter Tryz.func37, Tryz.ntmps37
  go_wp2_with fail
  refine (next_calls w0 _ g l bad H0.out.1).mono ?_
  rintro e w1 ⟨rfl, hw1⟩
  have hr1 := hw1.blk (b := w.heap.size) (blkG (heap_alloc_new w (sideBlk zSide)) (below_alloc (Below.refl _ _) _)) (by omega)
  have hs1 := hw1.blk (b := w.heap.size + 1) (o := sideBlk ⟨false, ⟨#[]⟩, 0, 0, 0, 65535⟩) (by simpa using heap_alloc_new (w.alloc (sideBlk zSide)) (sideBlk ⟨false, ⟨#[]⟩, 0, 0, 0, 65535⟩)) (by omega)
  have H1 := Lib.hid (H0.out.step hw1)
  clear hw1
  obtain ⟨r, hrs⟩ : ∃ r, r = w.heap.size := ⟨_, rfl⟩
  rw [← hrs] at hr1 hs1
  have hss : w.heap.size + 1 = r + 1 := by omega
  rw [hss]
  rw [← hrs]
  clear hss
  have HB : Hid (g ≠ r ∧ g ≠ r + 1 ∧ w.heap.size ≤ r) := Lib.hid (by omega)
  clear hrs hlt
  have nsz := H0.out.1.next_sz
  have HR' := HR.out
  unfold sideR at HR'
  clear HR
  have HR := Lib.hid HR'
  clear HR'
  generalize nextS l = s at *
  generalize l.tail = l1 at *
  generalize (bad || l.isEmpty) = b1 at *
  go_upto_block 0 with fail
  go_cut [] (fun wc => WPost 68 w0 w wc g l1 (headR s b1).2 ∧ wc.heap[r]? = some (sideBlk zSide) ∧ wc.heap[r + 1]? = some (sideBlk (headR s b1).1))
  case first =>
    have t0 : w1.cell? ⟨r + 1, 0, none⟩ = some (.bool false) := (blk_cell hs1 0).trans rfl
    have t1 : w1.cell? ⟨r + 1, 1, none⟩ = some (.string ⟨#[]⟩) := (blk_cell hs1 1).trans rfl
    have f0 := blk_frozen hs1 0
    have f1 := blk_frozen hs1 1
    obtain ⟨d1, d2⟩ := H1.out.cell1
    have HS1 := Lib.hid hs1
    have HR1 := Lib.hid hr1
    clear hs1 hr1
    have hne1 := HB.out.1
    have hne2 := HB.out.2.1
    cases q1 : (s.toList == [97, 110, 121]) with
    | true =>
      have Q1 : Hid (s = anyS) := Lib.hid (lit_yes q1)
      go_wp2_with fail
      go_meet
      have e1 : headR s b1 = (⟨true, ⟨#[]⟩, 0, 0, 0, 65535⟩, b1) := by rw [headR, if_pos Q1.out]
      rw [e1]
      refine ⟨?_, ?_, ?_⟩
      · exact H1.out.far _ HB.out.2.1 (by have := HB.out.2.2; omega) HW.out
      · exact blk_far (p := ⟨r + 1, 0, none⟩) HR1.out (by show r ≠ r + 1; omega) _
      · exact blk_set (cs := SideV.cells _) HS1.out 0 (.bool true)
    | false =>
      have HN1 : Hid (s ≠ anyS) := Lib.hid (lit_no (l := [97, 110, 121]) q1)
      have hsz := nsz
      go_wp2_with fail
      refine (Tryz.strings_HasPrefix s ltS w1).mono ?_
      rintro e w' ⟨rfl, hw'⟩
      obtain rfl : w1 = w' := hw'.symm
      clear hw'
      cases q2 : Lib.hasPrefix s.data.toList ltS.data.toList with
      | true =>
        have HQ2 := Lib.hid q2
        go_wp2_with fail
        refine (Tryz.strings_HasSuffix s gtS w1 (by omega)).mono ?_
        rintro e w' ⟨rfl, hw'⟩
        obtain rfl : w1 = w' := hw'.symm
        clear hw'
        cases q3 : Lib.hasSuffix s.data.toList gtS.data.toList with
        | true =>
          have HQ3 := Lib.hid q3
          have HT : Hid (isTab s = true) := Lib.hid (by rw [isTab, HQ2.out, HQ3.out]; rfl)
          have hs2 := isTab_size HT.out
          cases b1 with
          | true =>
            go_wp2_with fail
            go_meet
            have e1 : headR s true = (⟨false, s.extract 1 (s.size - 1), 0, 0, 0, 65535⟩, true) := by rw [headR, if_neg HN1.out, if_pos HT.out]; rfl
            rw [e1]
            refine ⟨?_, ?_, ?_⟩
            · exact (H1.out.far _ HB.out.2.1 (by have := HB.out.2.2; omega) HW.out).set _
            · exact blk_far (p := ⟨g, 1, none⟩) (blk_far (p := ⟨r + 1, 1, none⟩) HR1.out (by show r ≠ r + 1; omega) _) (by show r ≠ g; exact HB.out.1.symm) _
            · exact blk_far (p := ⟨g, 1, none⟩) (blk_set (cs := SideV.cells _) HS1.out 1 (.string (s.extract 1 (s.size - 1)))) (by show r + 1 ≠ g; exact HB.out.2.1.symm) _
          | false =>
            cases q4 : (s.extract 1 (s.size - 1)).toList.isEmpty with
            | true =>
              have HQ4 : Hid (s.extract 1 (s.size - 1) = ⟨#[]⟩) := Lib.hid (by rw [← Lib.mk_data (s.extract 1 (s.size - 1)), ← Lib.toList_data, List.isEmpty_iff.1 q4])
              go_wp2_with fail
              go_meet
              have e1 : headR s false = (⟨false, s.extract 1 (s.size - 1), 0, 0, 0, 65535⟩, true) := by rw [headR, if_neg HN1.out, if_pos HT.out]; simp [HQ4.out]
              rw [e1]
              refine ⟨?_, ?_, ?_⟩
              · exact (H1.out.far _ HB.out.2.1 (by have := HB.out.2.2; omega) HW.out).set _
              · exact blk_far (p := ⟨g, 1, none⟩) (blk_far (p := ⟨r + 1, 1, none⟩) HR1.out (by show r ≠ r + 1; omega) _) (by show r ≠ g; exact HB.out.1.symm) _
              · exact blk_far (p := ⟨g, 1, none⟩) (blk_set (cs := SideV.cells _) HS1.out 1 (.string (s.extract 1 (s.size - 1)))) (by show r + 1 ≠ g; exact HB.out.2.1.symm) _
            | false =>
              have HQ4 : Hid (s.extract 1 (s.size - 1) ≠ ⟨#[]⟩) := Lib.hid (by intro e0; rw [e0] at q4; simp [Lib.toList_data] at q4)
              go_wp2_with fail
              go_meet
              have e1 : headR s false = (⟨false, s.extract 1 (s.size - 1), 0, 0, 0, 65535⟩, false) := by rw [headR, if_neg HN1.out, if_pos HT.out]; simp [HQ4.out]
              rw [e1]
              refine ⟨?_, ?_, ?_⟩
              · exact (H1.out.far _ HB.out.2.1 (by have := HB.out.2.2; omega) HW.out).set _
              · exact blk_far (p := ⟨g, 1, none⟩) (blk_far (p := ⟨r + 1, 1, none⟩) HR1.out (by show r ≠ r + 1; omega) _) (by show r ≠ g; exact HB.out.1.symm) _
              · exact blk_far (p := ⟨g, 1, none⟩) (blk_set (cs := SideV.cells _) HS1.out 1 (.string (s.extract 1 (s.size - 1)))) (by show r + 1 ≠ g; exact HB.out.2.1.symm) _
        | false =>
          have HQ3 := Lib.hid q3
          have HT : Hid (isTab s = false) := Lib.hid (by rw [isTab, HQ3.out, Bool.and_false])
          go_wp2_with fail
          refine (pfx_calls s w1 H1.out.1.envNow (by omega)).mono ?_
          rintro e w2 ⟨rfl, hb2⟩
          generalize hp : pfxR s = p at *
          have HP := Lib.hid hp
          clear hp
          go_wp2_with fail
          have hal : Grows w1 (w2.alloc (.cells #[.int .u32 p.1, .int .i64 p.2.1] 24)) := below_then hb2 hb2.size (below_alloc (Below.refl _ _) _)
          have hn := heap_alloc_new w2 (.cells #[.int .u32 p.1, .int .i64 p.2.1] 24)
          have hnr : Hid (r + 1 < w2.heap.size) := Lib.hid (blk_lt (blkG HS1.out hb2))
          generalize w2.alloc (.cells #[.int .u32 p.1, .int .i64 p.2.1] 24) = w3 at *
          generalize w2.heap.size = n at *
          clear hb2
          have hs2 := blkG HS1.out hal
          have H2 := Lib.hid (H1.out.grow hal)
          have HR2 := Lib.hid (blkG HR1.out hal)
          clear t0 t1 f0 f1 d1 d2
          have t0 : w3.cell? ⟨r + 1, 2, none⟩ = some (.int .u32 0) := (blk_cell hs2 2).trans rfl
          have t1 : w3.cell? ⟨r + 1, 3, none⟩ = some (.int .i64 0) := (blk_cell hs2 3).trans rfl
          have f0 := blk_frozen hs2 2
          have f1 := blk_frozen hs2 3
          have p0 : w3.cell? ⟨n, 0, none⟩ = some (.int .u32 p.1) := (blk_cell hn 0).trans rfl
          have p1 : w3.cell? ⟨n, 1, none⟩ = some (.int .i64 p.2.1) := (blk_cell hn 1).trans rfl
          obtain ⟨d1, d2⟩ := H2.out.cell1
          have hne3 : r + 1 ≠ g := HB.out.2.1.symm
          have HS2 := Lib.hid hs2
          clear hs2 hal hn
          cases b1 with
          | true =>
            go_region
            go_wp2_with fail
            go_meet
            have e1 : headR s true = (⟨false, ⟨#[]⟩, p.1, p.2.1, 0, 65535⟩, true) := by
              rw [headR, if_neg HN1.out, if_neg (by rw [HT.out]; decide), HP.out]; rfl
            rw [e1]
            refine ⟨?_, ?_, ?_⟩
            · exact (((H2.out.far _ HB.out.2.1 (by have := HB.out.2.2; omega) HW.out).far _ HB.out.2.1 (by have := HB.out.2.2; omega) HW.out).set _).drew
            · exact blk_far (p := ⟨g, 1, none⟩) (blk_far (p := ⟨r + 1, 3, none⟩) (blk_far (p := ⟨r + 1, 2, none⟩) HR2.out (by show r ≠ r + 1; omega) _) (by show r ≠ r + 1; omega) _) (by show r ≠ g; exact HB.out.1.symm) _
            · exact blk_far (p := ⟨g, 1, none⟩) (blk_set (blk_set (cs := SideV.cells _) HS2.out 2 (.int .u32 p.1)) 3 (.int .i64 p.2.1)) (by show r + 1 ≠ g; exact HB.out.2.1.symm) _
          | false =>
            cases hz : (p.2.2 != 0) with
            | true =>
              have HZ : Hid (p.2.2 ≠ 0) := Lib.hid (by simpa using hz)
              go_region
              go_wp2_with fail
              go_meet
              have e1 : headR s false = (⟨false, ⟨#[]⟩, p.1, p.2.1, 0, 65535⟩, true) := by
                rw [headR, if_neg HN1.out, if_neg (by rw [HT.out]; decide), HP.out]; simp [HZ.out]
              rw [e1]
              refine ⟨?_, ?_, ?_⟩
              · exact (((H2.out.far _ HB.out.2.1 (by have := HB.out.2.2; omega) HW.out).far _ HB.out.2.1 (by have := HB.out.2.2; omega) HW.out).set _).drew
              · exact blk_far (p := ⟨g, 1, none⟩) (blk_far (p := ⟨r + 1, 3, none⟩) (blk_far (p := ⟨r + 1, 2, none⟩) HR2.out (by show r ≠ r + 1; omega) _) (by show r ≠ r + 1; omega) _) (by show r ≠ g; exact HB.out.1.symm) _
              · exact blk_far (p := ⟨g, 1, none⟩) (blk_set (blk_set (cs := SideV.cells _) HS2.out 2 (.int .u32 p.1)) 3 (.int .i64 p.2.1)) (by show r + 1 ≠ g; exact HB.out.2.1.symm) _
            | false =>
              have HZ : Hid (p.2.2 = 0) := Lib.hid (by simpa using hz)
              go_region
              go_wp2_with fail
              go_meet
              have e1 : headR s false = (⟨false, ⟨#[]⟩, p.1, p.2.1, 0, 65535⟩, false) := by
                rw [headR, if_neg HN1.out, if_neg (by rw [HT.out]; decide), HP.out]; simp [HZ.out]
              rw [e1]
              refine ⟨?_, ?_, ?_⟩
              · exact (((H2.out.far _ HB.out.2.1 (by have := HB.out.2.2; omega) HW.out).far _ HB.out.2.1 (by have := HB.out.2.2; omega) HW.out).set _).drew
              · exact blk_far (p := ⟨g, 1, none⟩) (blk_far (p := ⟨r + 1, 3, none⟩) (blk_far (p := ⟨r + 1, 2, none⟩) HR2.out (by show r ≠ r + 1; omega) _) (by show r ≠ r + 1; omega) _) (by show r ≠ g; exact HB.out.1.symm) _
              · exact blk_far (p := ⟨g, 1, none⟩) (blk_set (blk_set (cs := SideV.cells _) HS2.out 2 (.int .u32 p.1)) 3 (.int .i64 p.2.1)) (by show r + 1 ≠ g; exact HB.out.2.1.symm) _
      | false =>
        have HQ2 := Lib.hid q2
        have HT : Hid (isTab s = false) := Lib.hid (by rw [isTab, HQ2.out, Bool.false_and])
        go_wp2_with fail
        refine (pfx_calls s w1 H1.out.1.envNow (by omega)).mono ?_
        rintro e w2 ⟨rfl, hb2⟩
        generalize hp : pfxR s = p at *
        have HP := Lib.hid hp
        clear hp
        go_wp2_with fail
        have hal : Grows w1 (w2.alloc (.cells #[.int .u32 p.1, .int .i64 p.2.1] 24)) := below_then hb2 hb2.size (below_alloc (Below.refl _ _) _)
        have hn := heap_alloc_new w2 (.cells #[.int .u32 p.1, .int .i64 p.2.1] 24)
        have hnr : Hid (r + 1 < w2.heap.size) := Lib.hid (blk_lt (blkG HS1.out hb2))
        generalize w2.alloc (.cells #[.int .u32 p.1, .int .i64 p.2.1] 24) = w3 at *
        generalize w2.heap.size = n at *
        clear hb2
        have hs2 := blkG HS1.out hal
        have H2 := Lib.hid (H1.out.grow hal)
        have HR2 := Lib.hid (blkG HR1.out hal)
        clear t0 t1 f0 f1 d1 d2
        have t0 : w3.cell? ⟨r + 1, 2, none⟩ = some (.int .u32 0) := (blk_cell hs2 2).trans rfl
        have t1 : w3.cell? ⟨r + 1, 3, none⟩ = some (.int .i64 0) := (blk_cell hs2 3).trans rfl
        have f0 := blk_frozen hs2 2
        have f1 := blk_frozen hs2 3
        have p0 : w3.cell? ⟨n, 0, none⟩ = some (.int .u32 p.1) := (blk_cell hn 0).trans rfl
        have p1 : w3.cell? ⟨n, 1, none⟩ = some (.int .i64 p.2.1) := (blk_cell hn 1).trans rfl
        obtain ⟨d1, d2⟩ := H2.out.cell1
        have hne3 : r + 1 ≠ g := HB.out.2.1.symm
        have HS2 := Lib.hid hs2
        clear hs2 hal hn
        cases b1 with
        | true =>
          go_region
          go_wp2_with fail
          go_meet
          have e1 : headR s true = (⟨false, ⟨#[]⟩, p.1, p.2.1, 0, 65535⟩, true) := by
            rw [headR, if_neg HN1.out, if_neg (by rw [HT.out]; decide), HP.out]; rfl
          rw [e1]
          refine ⟨?_, ?_, ?_⟩
          · exact (((H2.out.far _ HB.out.2.1 (by have := HB.out.2.2; omega) HW.out).far _ HB.out.2.1 (by have := HB.out.2.2; omega) HW.out).set _).drew
          · exact blk_far (p := ⟨g, 1, none⟩) (blk_far (p := ⟨r + 1, 3, none⟩) (blk_far (p := ⟨r + 1, 2, none⟩) HR2.out (by show r ≠ r + 1; omega) _) (by show r ≠ r + 1; omega) _) (by show r ≠ g; exact HB.out.1.symm) _
          · exact blk_far (p := ⟨g, 1, none⟩) (blk_set (blk_set (cs := SideV.cells _) HS2.out 2 (.int .u32 p.1)) 3 (.int .i64 p.2.1)) (by show r + 1 ≠ g; exact HB.out.2.1.symm) _
        | false =>
          cases hz : (p.2.2 != 0) with
          | true =>
            have HZ : Hid (p.2.2 ≠ 0) := Lib.hid (by simpa using hz)
            go_region
            go_wp2_with fail
            go_meet
            have e1 : headR s false = (⟨false, ⟨#[]⟩, p.1, p.2.1, 0, 65535⟩, true) := by
              rw [headR, if_neg HN1.out, if_neg (by rw [HT.out]; decide), HP.out]; simp [HZ.out]
            rw [e1]
            refine ⟨?_, ?_, ?_⟩
            · exact (((H2.out.far _ HB.out.2.1 (by have := HB.out.2.2; omega) HW.out).far _ HB.out.2.1 (by have := HB.out.2.2; omega) HW.out).set _).drew
            · exact blk_far (p := ⟨g, 1, none⟩) (blk_far (p := ⟨r + 1, 3, none⟩) (blk_far (p := ⟨r + 1, 2, none⟩) HR2.out (by show r ≠ r + 1; omega) _) (by show r ≠ r + 1; omega) _) (by show r ≠ g; exact HB.out.1.symm) _
            · exact blk_far (p := ⟨g, 1, none⟩) (blk_set (blk_set (cs := SideV.cells _) HS2.out 2 (.int .u32 p.1)) 3 (.int .i64 p.2.1)) (by show r + 1 ≠ g; exact HB.out.2.1.symm) _
          | false =>
            have HZ : Hid (p.2.2 = 0) := Lib.hid (by simpa using hz)
            go_region
            go_wp2_with fail
            go_meet
            have e1 : headR s false = (⟨false, ⟨#[]⟩, p.1, p.2.1, 0, 65535⟩, false) := by
              rw [headR, if_neg HN1.out, if_neg (by rw [HT.out]; decide), HP.out]; simp [HZ.out]
            rw [e1]
            refine ⟨?_, ?_, ?_⟩
            · exact (((H2.out.far _ HB.out.2.1 (by have := HB.out.2.2; omega) HW.out).far _ HB.out.2.1 (by have := HB.out.2.2; omega) HW.out).set _).drew
            · exact blk_far (p := ⟨g, 1, none⟩) (blk_far (p := ⟨r + 1, 3, none⟩) (blk_far (p := ⟨r + 1, 2, none⟩) HR2.out (by show r ≠ r + 1; omega) _) (by show r ≠ r + 1; omega) _) (by show r ≠ g; exact HB.out.1.symm) _
            · exact blk_far (p := ⟨g, 1, none⟩) (blk_set (blk_set (cs := SideV.cells _) HS2.out 2 (.int .u32 p.1)) 3 (.int .i64 p.2.1)) (by show r + 1 ≠ g; exact HB.out.2.1.symm) _
  case rest =>
    obtain ⟨h2, hr2, hs2⟩ := hcut
    clear hr1 hs1 nsz H1
    have HVP := Lib.hid (headR_ports s b1)
    generalize hV : headR s b1 = V at *
    obtain ⟨V, b2⟩ := V
    have H2 := Lib.hid h2
    have HR2 := Lib.hid hr2
    have HS2 := Lib.hid hs2
    clear h2 hr2 hs2 hV
    go_wp2_with fail
    refine (takes_calls w0 _ g l1 b2 portS H2.out.1).mono ?_
    rintro e w4 ⟨rfl, hw4⟩
    have HR4 := Lib.hid (hw4.blk HR2.out HB.out.1.symm)
    have hs4 := hw4.blk HS2.out HB.out.2.1.symm
    have HS4 := Lib.hid hs4
    have H4 := Lib.hid (H2.out.step hw4)
    have t0 : w4.cell? ⟨r + 1, 4, none⟩ = some (.int .i64 V.low) := (blk_cell hs4 4).trans rfl
    clear hw4 hs4
    generalize htk : takesB l1 b2 portS = tk at *
    have HTK := Lib.hid htk
    clear htk
    go_upto_if 62 with fail
    go_cut [] (fun wc => WPost 68 w0 w wc g (portsR l1 b2).2.2.1 (portsR l1 b2).2.2.2 ∧ wc.heap[r]? = some (sideBlk zSide) ∧ wc.heap[r + 1]? = some (sideBlk { V with low := (portsR l1 b2).1, high := (portsR l1 b2).2.1 }))
    case first =>
      cases tk with
      | false =>
        go_wp2_with fail
        go_meet
        have e1 : portsR l1 b2 = (0, 65535, l1, b2) := by rw [portsR, if_neg (by rw [HTK.out]; decide)]
        have e2 : takesL l1 b2 portS = l1 := by rw [takesL, if_neg (by rw [HTK.out]; decide)]
        rw [e1]
        rw [e2] at H4
        refine ⟨H4.out, HR4.out, ?_⟩
        have e3 : ({ V with low := 0, high := 65535 } : SideV) = V := by
          obtain ⟨v1, v2⟩ := HVP.out
          cases V
          simp only at v1 v2
          rw [v1, v2]
        exact HS4.out.trans (by rw [e3])
      | true =>
        have e2 : takesL l1 b2 portS = l1.tail := by rw [takesL, if_pos HTK.out]
        rw [e2] at H4
        clear e2
        go_wp2_with fail
        refine (next_calls w0 _ g l1.tail b2 H4.out.1).mono ?_
        rintro e w5 ⟨rfl, hw5⟩
        have HR5 := Lib.hid (hw5.blk HR4.out HB.out.1.symm)
        have HS5 := Lib.hid (hw5.blk HS4.out HB.out.2.1.symm)
        have H5 := Lib.hid (H4.out.step hw5)
        have hsz := H4.out.1.next_sz
        clear hw5
        go_wp2_with fail
        refine (cut_calls _ colonS w5 H5.out.1.envNow hsz).mono ?_
        rintro e w6 ⟨rfl, hb6⟩
        have HR6 := Lib.hid (blkG HR5.out hb6)
        have HS6 := Lib.hid (blkG HS5.out hb6)
        have H6 := Lib.hid (H5.out.grow hb6)
        clear hb6
        generalize hc : cutS (nextS l1.tail) colonS = c at *
        have HC := Lib.hid hc
        clear hc
        go_wp2_with fail
        refine (number_calls w0 w6 g _ _ c.1 H6.out.1).mono ?_
        rintro e w7 ⟨rfl, hw7⟩
        have HR7 := Lib.hid (hw7.blk HR6.out HB.out.1.symm)
        have hs7 := hw7.blk HS6.out HB.out.2.1.symm
        have H7 := Lib.hid (H6.out.step hw7)
        obtain ⟨-, -, -, -, k4, k5⟩ := side_cells hs7
        have k4f := side_frozen hs7 4
        have k5f := side_frozen hs7 5
        have HS7 := Lib.hid hs7
        have hrg : r + 1 ≠ g := HB.out.2.1.symm
        clear hw7 hs7 t0
        cases hq : c.2.2 with
        | false =>
          have HQ := Lib.hid hq
          go_wp2_with fail
          go_meet
          have e1 : portsR l1 b2 = (numV 9 c.1, numV 9 c.1, l1.tail.tail, b2 || l1.tail.isEmpty || !numOk 9 c.1) := by rw [portsR, if_pos HTK.out, HC.out, if_neg (by rw [HQ.out]; decide)]
          rw [e1]
          refine ⟨(H7.out.far _ HB.out.2.1 (by have := HB.out.2.2; omega) HW.out).far _ HB.out.2.1 (by have := HB.out.2.2; omega) HW.out, ?_, side_high (side_low HS7.out _) _⟩
          exact blk_far (p := ⟨r + 1, 5, none⟩) (blk_far (p := ⟨r + 1, 4, none⟩) HR7.out (by show r ≠ r + 1; omega) _) (by show r ≠ r + 1; omega) _
        | true =>
          have HQ := Lib.hid hq
          go_wp2_with fail
          have h8 := (H7.out.far (j := 4) (.int .i64 (numV 9 c.1)) HB.out.2.1 (by have := HB.out.2.2; omega) HW.out).far (j := 5) (.int .i64 (numV 9 c.1)) HB.out.2.1 (by have := HB.out.2.2; omega) HW.out
          have hr8 := blk_far (p := ⟨r + 1, 5, none⟩) (blk_far (p := ⟨r + 1, 4, none⟩) HR7.out (by show r ≠ r + 1; omega) (.int .i64 (numV 9 c.1))) (by show r ≠ r + 1; omega) (.int .i64 (numV 9 c.1))
          have hs8 := side_high (side_low HS7.out (numV 9 c.1)) (numV 9 c.1)
          refine (number_calls w0 _ g _ _ c.2.1 h8.1).mono ?_
          rintro e w9 ⟨rfl, hw9⟩
          have HR9 := Lib.hid (hw9.blk hr8 HB.out.1.symm)
          have hs9 := hw9.blk hs8 HB.out.2.1.symm
          have H9 := Lib.hid (h8.step hw9)
          clear hw9 h8 hr8 hs8 k4 k5 k4f k5f
          have e1 : Hid (portsR l1 b2 = (numV 9 c.1, numV 9 c.2.1, l1.tail.tail, b2 || l1.tail.isEmpty || !numOk 9 c.1 || !numOk 9 c.2.1 || decide (numV 9 c.2.1 = numV 9 c.1))) := Lib.hid (by rw [portsR, if_pos HTK.out, HC.out, if_pos HQ.out])
          generalize (b2 || l1.tail.isEmpty || !numOk 9 c.1 || !numOk 9 c.2.1) = b3 at *
          obtain ⟨-, -, -, -, k4, k5⟩ := side_cells hs9
          have k4f := side_frozen hs9 4
          have k5f := side_frozen hs9 5
          obtain ⟨d1, d2⟩ := H9.out.cell1
          have HS9 := Lib.hid hs9
          clear hs9
          generalize numV 9 c.1 = lo at *
          generalize numV 9 c.2.1 = hi at *
          cases b3 with
          | true =>
            go_wp2_with fail
            go_meet
            rw [e1.out]
            refine ⟨?_, ?_, ?_⟩
            · have e2 : WPost 68 w0 w _ g l1.tail.tail true := (H9.out.far (j := 5) (.int .i64 hi) HB.out.2.1 (by have := HB.out.2.2; omega) HW.out).set true
              simpa using e2
            · exact blk_far (p := ⟨g, 1, none⟩) (blk_far (p := ⟨r + 1, 5, none⟩) HR9.out (by show r ≠ r + 1; omega) _) (by show r ≠ g; exact HB.out.1.symm) _
            · exact blk_far (p := ⟨g, 1, none⟩) (side_high HS9.out hi) (by show r + 1 ≠ g; exact HB.out.2.1.symm) _
          | false =>
            cases hz : (hi == lo) with
            | true =>
              go_wp2_with fail
              go_meet
              rw [e1.out]
              refine ⟨?_, ?_, ?_⟩
              · have e2 : WPost 68 w0 w _ g l1.tail.tail true := (H9.out.far (j := 5) (.int .i64 hi) HB.out.2.1 (by have := HB.out.2.2; omega) HW.out).set true
                simpa [show hi = lo from by simpa using hz] using e2
              · exact blk_far (p := ⟨g, 1, none⟩) (blk_far (p := ⟨r + 1, 5, none⟩) HR9.out (by show r ≠ r + 1; omega) _) (by show r ≠ g; exact HB.out.1.symm) _
              · exact blk_far (p := ⟨g, 1, none⟩) (side_high HS9.out hi) (by show r + 1 ≠ g; exact HB.out.2.1.symm) _
            | false =>
              go_wp2_with fail
              go_meet
              rw [e1.out]
              refine ⟨?_, ?_, ?_⟩
              · have e2 : WPost 68 w0 w _ g l1.tail.tail false := (H9.out.far (j := 5) (.int .i64 hi) HB.out.2.1 (by have := HB.out.2.2; omega) HW.out).set false
                simpa [show ¬ hi = lo from by simpa using hz] using e2
              · exact blk_far (p := ⟨g, 1, none⟩) (blk_far (p := ⟨r + 1, 5, none⟩) HR9.out (by show r ≠ r + 1; omega) _) (by show r ≠ g; exact HB.out.1.symm) _
              · exact blk_far (p := ⟨g, 1, none⟩) (side_high HS9.out hi) (by show r + 1 ≠ g; exact HB.out.2.1.symm) _
    case rest =>
      obtain ⟨h5, hr5, hs5⟩ := hcut
      obtain ⟨x0, x1, x2, x3, x4, x5⟩ := side_cells hr5
      obtain ⟨y0, y1, y2, y3, y4, y5⟩ := side_cells hs5
      have z0 := side_frozen hr5 0
      have z1 := side_frozen hr5 1
      have z2 := side_frozen hr5 2
      have z3 := side_frozen hr5 3
      have z4 := side_frozen hr5 4
      have z5 := side_frozen hr5 5
      have H5 := Lib.hid h5
      clear h5 hr5 hs5
      go_wp2_with fail
      refine bodyPost_ret (v := SideV.val { V with low := (portsR l1 b2).1, high := (portsR l1 b2).2.1 }) (by simp [results, Tryz.results37, go_sem, SideV.val, SideV.cells, x0, x1, x2, x3, x4, x5]) rfl ⟨by rw [HR.out], ?_⟩
      rw [HR.out]
      have hne := HB.out.1
      have hle := HB.out.2.2
      have hw := HW.out
      exact (((((H5.out.far _ hne hle hw).far _ hne hle hw).far _ hne hle hw).far _ hne hle hw).far _ hne hle hw).far _ hne hle hw
end Go.Proofs.YtomkohdlaednhaaGreatDoor
