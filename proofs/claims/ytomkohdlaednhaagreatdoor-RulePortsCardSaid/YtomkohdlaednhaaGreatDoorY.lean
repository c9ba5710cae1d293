import Derived.Test.YtomkohdlaednhaaGreatDoorX
set_option linter.unusedSimpArgs false
set_option linter.unusedVariables false
namespace Go.Proofs.YtomkohdlaednhaaGreatDoor
open Go.RowKit Go.Proofs.YtomkohdlaednhaaGreatDoorW.PrintWords PConfParses

theorem rsplit_calls (s : ByteArray) (c : UInt8) (w : World) (hs : s.size ≤ 4294967296) :
    Calls Tryz.prog 45 #[.string s, .int .u8 (c.toNat : Int)] w fun e w' => ∃ b n o, e = .returned (.slice (some ⟨b, 0, none⟩) (splitS c s).length n) ∧ (splitS c s).length ≤ n ∧ w.heap.size ≤ b ∧ w'.heap[b]? = some o ∧ (∀ (W : World), W.heap[b]? = some o → ∀ (j : Nat) (x : ByteArray), (splitS c s)[j]? = some x → W.cell? ⟨b, j, none⟩ = some (.string x)) ∧ Grows w w' := by
  refine (castellanref3_Split.calls (s.size + 2) s c.toNat _ w (Split_eq _ s c hs (by omega))).mono ?_
  rintro e w' ⟨v, rfl, hR, hb⟩
  have hne : 0 < (splitS c s).length := by
    rcases Nat.eq_zero_or_pos (splitS c s).length with h | h
    · exfalso
      have := spl_ne c s.data.toList
      simp [splitS] at h
      exact this h
    · exact h
  obtain ⟨inner, ho⟩ := Kd.R_own hR
  rcases ho.2 with ⟨_, h2⟩ | ⟨g, cap, cur, rfl, hg, hh, r⟩
  · exact absurd h2 (by omega)
  · obtain ⟨_, h3, h4⟩ := Kd.R_reads' hR
    refine ⟨g, _, _, rfl, h3, hg, hh, fun W hW j x hx => ?_, hb⟩
    obtain ⟨ad, he, hc⟩ := h4.2.2 hne
    obtain ⟨cs, h5, h6, h7⟩ := hc j x hx
    simp only [Option.some.injEq] at he
    subst he
    obtain rfl : cs = [.string x] := h6
    have := h7 0 _ rfl
    have e1 : ({ block := g, off := 0 } : Addr).add (j * Kd.string.sz + 0) = ⟨g, j, none⟩ := by
      have e0 : Kd.string.sz = 1 := rfl
      rw [e0, Nat.mul_one, Nat.add_zero]
      simp [Addr.add]
      exact fun h => h.symm
    rw [e1] at this
    exact (blk_cell hW j).trans ((blk_cell hh j).symm.trans this)

def isTab3 (s : ByteArray) : Bool := decide (2 < s.size) && (bt s 0 == 60) && (bt s ((s.size - 1 : Nat) : Int) == 62)
def rheadR (s : ByteArray) (bad : Bool) : SideV × Bool :=
  if s = anyS then (⟨true, ⟨#[]⟩, 0, 0, 0, 65535⟩, bad)
  else if isTab3 s then (⟨false, s.extract 1 (s.size - 1), 0, 0, 0, 65535⟩, bad)
  else (⟨false, ⟨#[]⟩, (pfxR s).1, (pfxR s).2.1, 0, 65535⟩, bad || decide ((pfxR s).2.2 ≠ 0))
def rportsR (l : List ByteArray) (bad : Bool) : Int × Int × List ByteArray × Bool :=
  if takesB l false portS then
    match splitS 58 (nextS l.tail) with
    | [] => (0, 0, [], true)
    | [a] => ((numR 9 65535 a).1, (numR 9 65535 a).1, l.tail.tail, bad || l.tail.isEmpty || !(numR 9 65535 a).2)
    | a :: b :: t => ((numR 9 65535 a).1, (numR 9 65535 b).1, l.tail.tail, bad || l.tail.isEmpty || !(numR 9 65535 a).2 || !(numR 9 65535 b).2 || decide ((numR 9 65535 b).1 = (numR 9 65535 a).1) || !t.isEmpty)
  else (0, 65535, l, bad)
theorem rheadR_ports (s : ByteArray) (b : Bool) : (rheadR s b).1.low = 0 ∧ (rheadR s b).1.high = 65535 := by
  unfold rheadR
  split
  · exact ⟨rfl, rfl⟩
  · split
    · exact ⟨rfl, rfl⟩
    · exact ⟨rfl, rfl⟩
def endR (l : List ByteArray) (bad : Bool) : SideV × List ByteArray × Bool :=
  ({ (rheadR (nextS l) (bad || l.isEmpty)).1 with low := (rportsR l.tail (rheadR (nextS l) (bad || l.isEmpty)).2).1, high := (rportsR l.tail (rheadR (nextS l) (bad || l.isEmpty)).2).2.1 },
    (rportsR l.tail (rheadR (nextS l) (bad || l.isEmpty)).2).2.2.1, (rportsR l.tail (rheadR (nextS l) (bad || l.isEmpty)).2).2.2.2)
set_option maxRecDepth 100000 in
set_option maxHeartbeats 4000000 in
theorem end_calls (w0 w : World) (g : Nat) (l : List ByteArray) (bad : Bool) (h : WS 78 w0 w g l bad) :
    Calls Tryz.prog 44 #[.pointer (some ⟨g, 0, none⟩)] w fun e w' => e = .returned (endR l bad).1.val ∧ WPost 78 w0 w w' g (endR l bad).2.1 (endR l bad).2.2 := by
  obtain ⟨R, hR⟩ : ∃ R, R = endR l bad := ⟨_, rfl⟩
  rw [← hR]
  have HR := Lib.hid hR
  clear hR
  have hlt := h.lt
  have H0 := Lib.hid ((h.post.alloc (sideBlk zSide)).alloc (sideBlk ⟨false, ⟨#[]⟩, 0, 0, 0, 65535⟩))
  have HW := Lib.hid h.below.size
  clear h
  go_enter Tryz.func44, Tryz.ntmps44
  go_wp2_with fail
  refine (rnext_calls w0 _ g l bad H0.out.1).mono ?_
  rintro e w1 ⟨rfl, hw1⟩
  have hr1 := hw1.blk (b := w.heap.size) (blkG (heap_alloc_new w (sideBlk zSide)) (below_alloc (Below.refl _ _) _)) (by omega)
  have hs1 := hw1.blk (b := w.heap.size + 1) (o := sideBlk ⟨false, ⟨#[]⟩, 0, 0, 0, 65535⟩) (by simpa using heap_alloc_new (w.alloc (sideBlk zSide)) (sideBlk ⟨false, ⟨#[]⟩, 0, 0, 0, 65535⟩)) (by omega)
  have H1 := Lib.hid (H0.out.step hw1)
  clear hw1
  obtain ⟨r, hrs⟩ : ∃ r, r = w.heap.size := ⟨_, rfl⟩
  rw [← hrs] at hr1 hs1
  have hss : w.heap.size + 1 = r + 1 := by omega
  rw [hss]
  rw [← hrs]
  clear hss
  have HB : Hid (g ≠ r ∧ g ≠ r + 1 ∧ w.heap.size ≤ r) := Lib.hid (by omega)
  clear hrs hlt
  have nsz := H0.out.1.next_sz
  have HR' := HR.out
  unfold endR at HR'
  clear HR
  have HR := Lib.hid HR'
  clear HR'
  generalize nextS l = s at *
  generalize l.tail = l1 at *
  generalize (bad || l.isEmpty) = b1 at *
  go_upto_block 0 with fail
  go_cut [] (fun wc => WPost 78 w0 w wc g l1 (rheadR s b1).2 ∧ wc.heap[r]? = some (sideBlk zSide) ∧ wc.heap[r + 1]? = some (sideBlk (rheadR s b1).1))
  case first =>
    have t0 : w1.cell? ⟨r + 1, 0, none⟩ = some (.bool false) := (blk_cell hs1 0).trans rfl
    have t1 : w1.cell? ⟨r + 1, 1, none⟩ = some (.string ⟨#[]⟩) := (blk_cell hs1 1).trans rfl
    have f0 := blk_frozen hs1 0
    have f1 := blk_frozen hs1 1
    obtain ⟨d1, d2⟩ := H1.out.cell1
    have HS1 := Lib.hid hs1
    have HR1 := Lib.hid hr1
    clear hs1 hr1
    have hne1 := HB.out.1
    have hne2 := HB.out.2.1
    cases q1 : (s.toList == [97, 110, 121]) with
    | true =>
      have Q1 : Hid (s = anyS) := Lib.hid (lit_yes q1)
      go_wp2_with fail
      go_meet
      have e1 : rheadR s b1 = (⟨true, ⟨#[]⟩, 0, 0, 0, 65535⟩, b1) := by rw [rheadR, if_pos Q1.out]
      rw [e1]
      refine ⟨?_, ?_, ?_⟩
      · exact H1.out.far _ HB.out.2.1 (by have := HB.out.2.2; omega) HW.out
      · exact blk_far (p := ⟨r + 1, 0, none⟩) HR1.out (by show r ≠ r + 1; omega) _
      · exact blk_set (cs := SideV.cells _) HS1.out 0 (.bool true)
    | false =>
      have HN1 : Hid (s ≠ anyS) := Lib.hid (lit_no (l := [97, 110, 121]) q1)
      have hsz := nsz
      have hx0 : ∀ h : 0 < s.size, ((s[0]'h).toNat : Int) = bt s 0 := bt_at s 0
      have hx1 : ∀ h : s.size - 1 < s.size, ((s[s.size - 1]'h).toNat : Int) = bt s ((s.size - 1 : Nat) : Int) := bt_at s ((s.size - 1 : Nat) : Int)
      have HTT : isTab3 s = (decide (2 < s.size) && (bt s 0 == 60) && (bt s ((s.size - 1 : Nat) : Int) == 62)) := rfl
      generalize bt s ((s.size - 1 : Nat) : Int) = z at *
      have hcs : ((2 < s.size ∧ (bt s 0 == 60) = true ∧ (z == 62) = true) ∧ Hid (isTab3 s = true)) ∨ (((¬ 2 < s.size) ∨ (2 < s.size ∧ (bt s 0 == 60) = false) ∨ (2 < s.size ∧ (bt s 0 == 60) = true ∧ (z == 62) = false)) ∧ Hid (isTab3 s = false)) := by
        by_cases h3 : 2 < s.size
        · cases q2 : (bt s 0 == 60) with
          | true =>
            cases q3 : (z == 62) with
            | true => exact .inl ⟨⟨h3, rfl, rfl⟩, Lib.hid (by rw [HTT, q2, q3]; simp [h3])⟩
            | false => exact .inr ⟨.inr (.inr ⟨h3, rfl, rfl⟩), Lib.hid (by rw [HTT, q2, q3]; simp [h3])⟩
          | false => exact .inr ⟨.inr (.inl ⟨h3, rfl⟩), Lib.hid (by rw [HTT, q2]; simp [h3])⟩
        · exact .inr ⟨.inl h3, Lib.hid (by rw [HTT]; simp [h3])⟩
      clear HTT
      rcases hcs with ⟨⟨h3, q2, q3⟩, HT⟩ | ⟨hcs, HT⟩
      · have hs2 : 2 ≤ s.size := by omega
        go_wp2_with fail
        go_meet
        have e1 : rheadR s b1 = (⟨false, s.extract 1 (s.size - 1), 0, 0, 0, 65535⟩, b1) := by rw [rheadR, if_neg HN1.out, if_pos HT.out]
        rw [e1]
        refine ⟨?_, ?_, ?_⟩
        · exact H1.out.far _ HB.out.2.1 (by have := HB.out.2.2; omega) HW.out
        · exact blk_far (p := ⟨r + 1, 1, none⟩) HR1.out (by show r ≠ r + 1; omega) _
        · exact blk_set (cs := SideV.cells _) HS1.out 1 (.string (s.extract 1 (s.size - 1)))
      · obtain ⟨p, hp⟩ : ∃ p, p = pfxR s := ⟨_, rfl⟩
        have HP := Lib.hid hp
        have e1 : Hid (rheadR s b1 = (⟨false, ⟨#[]⟩, p.1, p.2.1, 0, 65535⟩, b1 || decide (p.2.2 ≠ 0))) := Lib.hid (by rw [rheadR, if_neg HN1.out, if_neg (by rw [HT.out]; decide), hp])
        rcases hcs with h3 | ⟨h3, q2⟩ | ⟨h3, q2, q3⟩
        all_goals
          go_wp2_with fail
          refine (rpfx_calls s w1 (by omega)).mono ?_
          rw [← hp]
          clear hp
          rintro e w2 ⟨rfl, hb2⟩
          go_upto_region 4 with fail
          have hal : Grows w1 (w2.alloc (.cells #[.int .u32 p.1, .int .i64 p.2.1] 24)) := below_then hb2 hb2.size (below_alloc (Below.refl _ _) _)
          have hn := heap_alloc_new w2 (.cells #[.int .u32 p.1, .int .i64 p.2.1] 24)
          have hnr : Hid (r + 1 < w2.heap.size) := Lib.hid (blk_lt (blkG HS1.out hb2))
          generalize w2.alloc (.cells #[.int .u32 p.1, .int .i64 p.2.1] 24) = w3 at *
          generalize w2.heap.size = n at *
          clear hb2
          have hs2 := blkG HS1.out hal
          have H2 := Lib.hid (H1.out.grow hal)
          have HR2 := Lib.hid (blkG HR1.out hal)
          clear t0 t1 f0 f1 d1 d2
          have t0 : w3.cell? ⟨r + 1, 2, none⟩ = some (.int .u32 0) := (blk_cell hs2 2).trans rfl
          have t1 : w3.cell? ⟨r + 1, 3, none⟩ = some (.int .i64 0) := (blk_cell hs2 3).trans rfl
          have f0 := blk_frozen hs2 2
          have f1 := blk_frozen hs2 3
          have p0 : w3.cell? ⟨n, 0, none⟩ = some (.int .u32 p.1) := (blk_cell hn 0).trans rfl
          have p1 : w3.cell? ⟨n, 1, none⟩ = some (.int .i64 p.2.1) := (blk_cell hn 1).trans rfl
          obtain ⟨d1, d2⟩ := H2.out.cell1
          have hne3 : r + 1 ≠ g := HB.out.2.1.symm
          have HS2 := Lib.hid hs2
          clear hs2 hal hn
          obtain ⟨B, hB⟩ : ∃ B, B = (b1 || decide (p.2.2 ≠ 0)) := ⟨_, rfl⟩
          rw [← hB] at e1
          have HBB := Lib.hid hB
          clear hB
          cases b1 with
          | true =>
            go_wp2_with fail
            go_meet
            rw [e1.out, show B = true from by rw [HBB.out]; rfl]
            refine ⟨?_, ?_, ?_⟩
            · exact ((H2.out.far _ HB.out.2.1 (by have := HB.out.2.2; omega) HW.out).far _ HB.out.2.1 (by have := HB.out.2.2; omega) HW.out).set _
            · exact blk_far (p := ⟨g, 1, none⟩) (blk_far (p := ⟨r + 1, 3, none⟩) (blk_far (p := ⟨r + 1, 2, none⟩) HR2.out (by show r ≠ r + 1; omega) _) (by show r ≠ r + 1; omega) _) (by show r ≠ g; exact HB.out.1.symm) _
            · exact blk_far (p := ⟨g, 1, none⟩) (blk_set (blk_set (cs := SideV.cells _) HS2.out 2 (.int .u32 p.1)) 3 (.int .i64 p.2.1)) (by show r + 1 ≠ g; exact HB.out.2.1.symm) _
          | false =>
            cases hz : (p.2.2 != 0) with
            | true =>
              have HZ : Hid (p.2.2 ≠ 0) := Lib.hid (by simpa using hz)
              go_wp2_with fail
              go_meet
              rw [e1.out, show B = true from by rw [HBB.out]; simp [HZ.out]]
              refine ⟨?_, ?_, ?_⟩
              · exact ((H2.out.far _ HB.out.2.1 (by have := HB.out.2.2; omega) HW.out).far _ HB.out.2.1 (by have := HB.out.2.2; omega) HW.out).set _
              · exact blk_far (p := ⟨g, 1, none⟩) (blk_far (p := ⟨r + 1, 3, none⟩) (blk_far (p := ⟨r + 1, 2, none⟩) HR2.out (by show r ≠ r + 1; omega) _) (by show r ≠ r + 1; omega) _) (by show r ≠ g; exact HB.out.1.symm) _
              · exact blk_far (p := ⟨g, 1, none⟩) (blk_set (blk_set (cs := SideV.cells _) HS2.out 2 (.int .u32 p.1)) 3 (.int .i64 p.2.1)) (by show r + 1 ≠ g; exact HB.out.2.1.symm) _
            | false =>
              have HZ : Hid (p.2.2 = 0) := Lib.hid (by simpa using hz)
              go_wp2_with fail
              go_meet
              rw [e1.out, show B = false from by rw [HBB.out]; simp [HZ.out]]
              refine ⟨?_, ?_, ?_⟩
              · exact ((H2.out.far _ HB.out.2.1 (by have := HB.out.2.2; omega) HW.out).far _ HB.out.2.1 (by have := HB.out.2.2; omega) HW.out).set _
              · exact blk_far (p := ⟨g, 1, none⟩) (blk_far (p := ⟨r + 1, 3, none⟩) (blk_far (p := ⟨r + 1, 2, none⟩) HR2.out (by show r ≠ r + 1; omega) _) (by show r ≠ r + 1; omega) _) (by show r ≠ g; exact HB.out.1.symm) _
              · exact blk_far (p := ⟨g, 1, none⟩) (blk_set (blk_set (cs := SideV.cells _) HS2.out 2 (.int .u32 p.1)) 3 (.int .i64 p.2.1)) (by show r + 1 ≠ g; exact HB.out.2.1.symm) _
  case rest =>
    obtain ⟨h2, hr2, hs2⟩ := hcut
    clear hr1 hs1 nsz H1
    have HVP := Lib.hid (rheadR_ports s b1)
    generalize hV : rheadR s b1 = V at *
    obtain ⟨V, b2⟩ := V
    have H2 := Lib.hid h2
    have HR2 := Lib.hid hr2
    have HS2 := Lib.hid hs2
    clear h2 hr2 hs2 hV
    go_wp2_with fail
    refine (is_calls w0 _ g l1 b2 portS H2.out.1).mono ?_
    rintro e w4 ⟨rfl, hw4⟩
    have HR4 := Lib.hid (hw4.blk HR2.out HB.out.1.symm)
    have hs4 := hw4.blk HS2.out HB.out.2.1.symm
    have HS4 := Lib.hid hs4
    have H4 := Lib.hid (H2.out.step hw4)
    have t0 : w4.cell? ⟨r + 1, 4, none⟩ = some (.int .i64 V.low) := (blk_cell hs4 4).trans rfl
    clear hw4 hs4
    generalize htk : takesB l1 false portS = tk at *
    have HTK := Lib.hid htk
    clear htk
    go_upto_if 58 with fail
    go_cut [] (fun wc => WPost 78 w0 w wc g (rportsR l1 b2).2.2.1 (rportsR l1 b2).2.2.2 ∧ wc.heap[r]? = some (sideBlk zSide) ∧ wc.heap[r + 1]? = some (sideBlk { V with low := (rportsR l1 b2).1, high := (rportsR l1 b2).2.1 }))
    case first =>
      cases tk with
      | false =>
        go_wp2_with fail
        go_meet
        have e1 : rportsR l1 b2 = (0, 65535, l1, b2) := by rw [rportsR, if_neg (by rw [HTK.out]; decide)]
        have e2 : takesL l1 false portS = l1 := by rw [takesL, if_neg (by rw [HTK.out]; decide)]
        rw [e1]
        rw [e2] at H4
        refine ⟨H4.out, HR4.out, ?_⟩
        have e3 : ({ V with low := 0, high := 65535 } : SideV) = V := by
          obtain ⟨v1, v2⟩ := HVP.out
          cases V
          simp only at v1 v2
          rw [v1, v2]
        exact HS4.out.trans (by rw [e3])
      | true =>
        have e2 : takesL l1 false portS = l1.tail := by rw [takesL, if_pos HTK.out]
        rw [e2] at H4
        clear e2
        go_wp2_with fail
        refine (rnext_calls w0 _ g l1.tail b2 H4.out.1).mono ?_
        rintro e w5 ⟨rfl, hw5⟩
        have HR5 := Lib.hid (hw5.blk HR4.out HB.out.1.symm)
        have HS5 := Lib.hid (hw5.blk HS4.out HB.out.2.1.symm)
        have H5 := Lib.hid (H4.out.step hw5)
        have hsz := H4.out.1.next_sz
        clear hw5
        go_wp2_with fail
        refine (rsplit_calls _ 58 w5 (by omega)).mono ?_
        rintro e w6 ⟨b, n, o, rfl, hln, hbb, hob, hcells, hb6⟩
        have HR6 := Lib.hid (blkG HR5.out hb6)
        have HS6 := Lib.hid (blkG HS5.out hb6)
        have H6 := Lib.hid (H5.out.grow hb6)
        have HBG : Hid (b ≠ g ∧ b ≠ r + 1) := Lib.hid ⟨by have := H5.out.1.lt; omega, by have := blk_lt HS5.out; omega⟩
        have HOB := Lib.hid hob
        have HCE := Lib.hid hcells
        have e1 : Hid (rportsR l1 b2 = match splitS 58 (nextS l1.tail) with
            | [] => (0, 0, [], true)
            | [a] => ((numR 9 65535 a).1, (numR 9 65535 a).1, l1.tail.tail, b2 || l1.tail.isEmpty || !(numR 9 65535 a).2)
            | a :: b :: t => ((numR 9 65535 a).1, (numR 9 65535 b).1, l1.tail.tail, b2 || l1.tail.isEmpty || !(numR 9 65535 a).2 || !(numR 9 65535 b).2 || decide ((numR 9 65535 b).1 = (numR 9 65535 a).1) || !t.isEmpty)) := Lib.hid (by rw [rportsR, if_pos HTK.out])
        have hne : splitS 58 (nextS l1.tail) ≠ [] := by
          intro h0
          have := spl_ne 58 (nextS l1.tail).data.toList
          simp [splitS] at h0
          exact this h0
        clear hb6 hbb hob hcells hsz
        generalize splitS 58 (nextS l1.tail) = L at *
        generalize (b2 || l1.tail.isEmpty) = b3 at *
        cases L with
        | nil => exact absurd rfl hne
        | cons a t =>
          clear hne
          have q0 : w6.cell? ⟨b, 0, none⟩ = some (.string a) := HCE.out w6 HOB.out 0 a rfl
          simp only [List.length_cons] at hln
          simp only [List.length_cons]
          generalize htl : t.length = tl at *
          go_wp2_with fail
          refine (rnum_calls w0 w6 g _ _ a 65535 H6.out.1).mono ?_
          rintro e w7 ⟨rfl, hw7⟩
          have HR7 := Lib.hid (hw7.blk HR6.out HB.out.1.symm)
          have hs7 := hw7.blk HS6.out HB.out.2.1.symm
          have H7 := Lib.hid (H6.out.step hw7)
          have HOB7 := Lib.hid (hw7.blk HOB.out HBG.out.1)
          obtain ⟨-, -, -, -, k4, k5⟩ := side_cells hs7
          have k4f := side_frozen hs7 4
          have k5f := side_frozen hs7 5
          obtain ⟨d1, d2⟩ := H7.out.cell1
          have HS7 := Lib.hid hs7
          have hrg : r + 1 ≠ g := HB.out.2.1.symm
          clear hw7 hs7 t0 q0
          obtain ⟨lo, q0⟩ : ∃ x, x = numR 9 65535 a := ⟨_, rfl⟩
          rw [← q0] at H7
          cases t with
          | nil =>
            simp only [List.length_nil] at htl
            subst htl
            have E1 : Hid (rportsR l1 b2 = (lo.1, lo.1, l1.tail.tail, b3 || !lo.2)) := Lib.hid (by rw [e1.out, q0])
            rw [← q0] at d1 ⊢
            clear q0 e1 HCE
            generalize (b3 || !lo.2) = b4 at *
            cases b4 with
            | true =>
              go_wp2_with fail
              go_meet
              rw [E1.out]
              refine ⟨?_, ?_, ?_⟩
              · exact ((H7.out.far _ HB.out.2.1 (by have := HB.out.2.2; omega) HW.out).far _ HB.out.2.1 (by have := HB.out.2.2; omega) HW.out).set _
              · exact blk_far (p := ⟨g, 1, none⟩) (blk_far (p := ⟨r + 1, 5, none⟩) (blk_far (p := ⟨r + 1, 4, none⟩) HR7.out (by show r ≠ r + 1; omega) _) (by show r ≠ r + 1; omega) _) (by show r ≠ g; exact HB.out.1.symm) _
              · exact blk_far (p := ⟨g, 1, none⟩) (side_high (side_low HS7.out _) _) (by show r + 1 ≠ g; exact HB.out.2.1.symm) _
            | false =>
              go_wp2_with fail
              go_meet
              rw [E1.out]
              refine ⟨?_, ?_, ?_⟩
              · exact ((H7.out.far _ HB.out.2.1 (by have := HB.out.2.2; omega) HW.out).far _ HB.out.2.1 (by have := HB.out.2.2; omega) HW.out).set _
              · exact blk_far (p := ⟨g, 1, none⟩) (blk_far (p := ⟨r + 1, 5, none⟩) (blk_far (p := ⟨r + 1, 4, none⟩) HR7.out (by show r ≠ r + 1; omega) _) (by show r ≠ r + 1; omega) _) (by show r ≠ g; exact HB.out.1.symm) _
              · exact blk_far (p := ⟨g, 1, none⟩) (side_high (side_low HS7.out _) _) (by show r + 1 ≠ g; exact HB.out.2.1.symm) _
          | cons a2 t =>
            have q1 : w7.cell? ⟨b, 1, none⟩ = some (.string a2) := HCE.out w7 HOB7.out 1 a2 rfl
            simp only [List.length_cons] at htl
            obtain ⟨t2, ht2⟩ : ∃ t2, t2 = t.length := ⟨_, rfl⟩
            rw [← ht2] at htl
            subst htl
            have hbr : b ≠ r + 1 := HBG.out.2
            have hrb : r + 1 ≠ b := HBG.out.2.symm
            have E1 : Hid (rportsR l1 b2 = (lo.1, (numR 9 65535 a2).1, l1.tail.tail, b3 || !lo.2 || !(numR 9 65535 a2).2 || decide ((numR 9 65535 a2).1 = lo.1) || !t.isEmpty)) := Lib.hid (by rw [e1.out, q0])
            rw [← q0] at d1 ⊢
            clear q0 e1
            have h8 := (H7.out.far (j := 4) (.int .i64 lo.1) HB.out.2.1 (by have := HB.out.2.2; omega) HW.out).far (j := 5) (.int .i64 lo.1) HB.out.2.1 (by have := HB.out.2.2; omega) HW.out
            have hr8 := blk_far (p := ⟨r + 1, 5, none⟩) (blk_far (p := ⟨r + 1, 4, none⟩) HR7.out (by show r ≠ r + 1; omega) (.int .i64 lo.1)) (by show r ≠ r + 1; omega) (.int .i64 lo.1)
            have hs8 := side_high (side_low HS7.out lo.1) lo.1
            have H8 := Lib.hid h8
            have HR8 := Lib.hid hr8
            have HS8 := Lib.hid hs8
            clear h8 hr8 hs8
            obtain ⟨hi, qh⟩ : ∃ x, x = numR 9 65535 a2 := ⟨_, rfl⟩
            rw [← qh] at E1
            generalize (b3 || !lo.2) = b4 at *
            have hte : Hid ((!t.isEmpty) = decide (0 < t2)) := Lib.hid (by rw [ht2]; cases t <;> simp)
            clear ht2
            go_wp2_with fail
            refine (rnum_calls w0 _ g _ _ a2 65535 H8.out.1).mono ?_
            rw [← qh]
            clear qh
            rintro e w9 ⟨rfl, hw9⟩
            have HR9 := Lib.hid (hw9.blk HR8.out HB.out.1.symm)
            have hs9 := hw9.blk HS8.out HB.out.2.1.symm
            have H9 := Lib.hid (H8.out.step hw9)
            clear hw9 k4 k5 k4f k5f d1 d2
            obtain ⟨-, -, -, -, k4, k5⟩ := side_cells hs9
            have k4f := side_frozen hs9 4
            have k5f := side_frozen hs9 5
            obtain ⟨d1, d2⟩ := H9.out.cell1
            have HS9 := Lib.hid hs9
            clear hs9
            generalize (b4 || !hi.2) = b5 at *
            rw [hte.out] at E1
            generalize hi.1 = hi at *
            generalize lo.1 = lo at *
            have hc : ∃ b6 : Bool, Hid (b6 = (b5 || decide (hi = lo))) ∧ ((b5 = true ∧ b6 = true) ∨ (b5 = false ∧ (hi == lo) = true ∧ b6 = true) ∨ (b5 = false ∧ (hi == lo) = false ∧ b6 = false)) := by
              refine ⟨_, Lib.hid rfl, ?_⟩
              cases b5 with
              | true => exact .inl ⟨rfl, rfl⟩
              | false =>
                cases hz : (hi == lo) with
                | true => exact .inr (.inl ⟨rfl, rfl, by simpa using hz⟩)
                | false => exact .inr (.inr ⟨rfl, rfl, by simpa using hz⟩)
            obtain ⟨b6, H6e, hc⟩ := hc
            rw [← H6e.out] at E1
            rcases hc with ⟨rfl, rfl⟩ | ⟨rfl, hz, rfl⟩ | ⟨rfl, hz, rfl⟩
            · go_wp2_with fail
              go_meet
              rw [E1.out]
              refine ⟨?_, ?_, ?_⟩
              · exact ((H9.out.far (j := 5) (.int .i64 hi) HB.out.2.1 (by have := HB.out.2.2; omega) HW.out).set true).set true
              · exact blk_far (p := ⟨g, 1, none⟩) (blk_far (p := ⟨g, 1, none⟩) (blk_far (p := ⟨r + 1, 5, none⟩) HR9.out (by show r ≠ r + 1; omega) _) (by show r ≠ g; exact HB.out.1.symm) _) (by show r ≠ g; exact HB.out.1.symm) _
              · exact blk_far (p := ⟨g, 1, none⟩) (blk_far (p := ⟨g, 1, none⟩) (side_high HS9.out hi) (by show r + 1 ≠ g; exact HB.out.2.1.symm) _) (by show r + 1 ≠ g; exact HB.out.2.1.symm) _
            · go_wp2_with fail
              go_meet
              rw [E1.out]
              refine ⟨?_, ?_, ?_⟩
              · exact ((H9.out.far (j := 5) (.int .i64 hi) HB.out.2.1 (by have := HB.out.2.2; omega) HW.out).set true).set true
              · exact blk_far (p := ⟨g, 1, none⟩) (blk_far (p := ⟨g, 1, none⟩) (blk_far (p := ⟨r + 1, 5, none⟩) HR9.out (by show r ≠ r + 1; omega) _) (by show r ≠ g; exact HB.out.1.symm) _) (by show r ≠ g; exact HB.out.1.symm) _
              · exact blk_far (p := ⟨g, 1, none⟩) (blk_far (p := ⟨g, 1, none⟩) (side_high HS9.out hi) (by show r + 1 ≠ g; exact HB.out.2.1.symm) _) (by show r + 1 ≠ g; exact HB.out.2.1.symm) _
            · by_cases h2 : 0 < t2
              · have HH2 : Hid (decide (0 < t2) = true) := Lib.hid (by simpa using h2)
                go_wp2_with fail
                go_meet
                rw [E1.out, HH2.out]
                refine ⟨?_, ?_, ?_⟩
                · have e9 : decide ((2 : Int) < (t2 : Int) + 1 + 1) = true := by simp; omega
                  rw [e9]
                  exact ((H9.out.far (j := 5) (.int .i64 hi) HB.out.2.1 (by have := HB.out.2.2; omega) HW.out).set false).set true
                · exact blk_far (p := ⟨g, 1, none⟩) (blk_far (p := ⟨g, 1, none⟩) (blk_far (p := ⟨r + 1, 5, none⟩) HR9.out (by show r ≠ r + 1; omega) _) (by show r ≠ g; exact HB.out.1.symm) _) (by show r ≠ g; exact HB.out.1.symm) _
                · exact blk_far (p := ⟨g, 1, none⟩) (blk_far (p := ⟨g, 1, none⟩) (side_high HS9.out hi) (by show r + 1 ≠ g; exact HB.out.2.1.symm) _) (by show r + 1 ≠ g; exact HB.out.2.1.symm) _
              · have HH2 : Hid (decide (0 < t2) = false) := Lib.hid (by simpa using h2)
                go_wp2_with fail
                go_meet
                rw [E1.out, HH2.out]
                refine ⟨?_, ?_, ?_⟩
                · have e9 : decide ((2 : Int) < (t2 : Int) + 1 + 1) = false := by simp; omega
                  rw [e9]
                  exact ((H9.out.far (j := 5) (.int .i64 hi) HB.out.2.1 (by have := HB.out.2.2; omega) HW.out).set false).set false
                · exact blk_far (p := ⟨g, 1, none⟩) (blk_far (p := ⟨g, 1, none⟩) (blk_far (p := ⟨r + 1, 5, none⟩) HR9.out (by show r ≠ r + 1; omega) _) (by show r ≠ g; exact HB.out.1.symm) _) (by show r ≠ g; exact HB.out.1.symm) _
                · exact blk_far (p := ⟨g, 1, none⟩) (blk_far (p := ⟨g, 1, none⟩) (side_high HS9.out hi) (by show r + 1 ≠ g; exact HB.out.2.1.symm) _) (by show r + 1 ≠ g; exact HB.out.2.1.symm) _
    case rest =>
      obtain ⟨h5, hr5, hs5⟩ := hcut
      obtain ⟨x0, x1, x2, x3, x4, x5⟩ := side_cells hr5
      obtain ⟨y0, y1, y2, y3, y4, y5⟩ := side_cells hs5
      have z0 := side_frozen hr5 0
      have z1 := side_frozen hr5 1
      have z2 := side_frozen hr5 2
      have z3 := side_frozen hr5 3
      have z4 := side_frozen hr5 4
      have z5 := side_frozen hr5 5
      have H5 := Lib.hid h5
      clear h5 hr5 hs5
      go_wp2_with fail
      refine bodyPost_ret (v := SideV.val { V with low := (rportsR l1 b2).1, high := (rportsR l1 b2).2.1 }) (by simp [results, Tryz.results44, go_sem, SideV.val, SideV.cells, x0, x1, x2, x3, x4, x5]) rfl ⟨by rw [HR.out], ?_⟩
      rw [HR.out]
      have hne := HB.out.1
      have hle := HB.out.2.2
      have hw := HW.out
      exact (((((H5.out.far _ hne hle hw).far _ hne hle hw).far _ hne hle hw).far _ hne hle hw).far _ hne hle hw).far _ hne hle hw
end Go.Proofs.YtomkohdlaednhaaGreatDoor
