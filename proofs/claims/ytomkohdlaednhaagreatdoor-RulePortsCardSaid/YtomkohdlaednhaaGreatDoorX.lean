import Derived.Test.YtomkohdlaednhaaGreatDoorV
set_option linter.unusedSimpArgs false
set_option linter.unusedVariables false
namespace Go.Proofs.YtomkohdlaednhaaGreatDoor
open Go.RowKit Go.Proofs.YtomkohdlaednhaaGreatDoorW.PrintWords PConfParses

theorem rflags_calls (w0 w : World) (g : Nat) (l : List ByteArray) (bad : Bool) (s : ByteArray) (h : WS 78 w0 w g l bad) :
    Calls Tryz.prog 46 #[.pointer (some ⟨g, 0, none⟩), .string s] w fun e w' => e = .returned (.int .i64 (bitsV s)) ∧ WPost 78 w0 w w' g l (bad || (bitsF s).isNone) := by
  have H0 := Lib.hid h.post
  clear h
  go_enter Tryz.func46, Tryz.ntmps46
  go_wp2_with fail
  go_loopw [5, 6] (fun v5 v6 wr => ∃ k x : Nat, k ≤ 64 ∧ x < 64 ∧ v5 = .int .i64 x ∧ v6 = .int .i64 k ∧ Hid ((flagsS (x : Int) = s) ∨ ((∀ n : Nat, n < k → flagsS (n : Int) ≠ s) ∧ x = 0)) ∧ Hid (WPost 78 w0 w wr g l bad)) (fun _ v6 _ => 64 - (intOf v6).toNat)
  case atStart => exact ⟨0, 0, by omega, by omega, rfl, rfl, Lib.hid (.inr ⟨fun n h => by omega, rfl⟩), H0⟩
  case round =>
    obtain ⟨k, x, hk, hx, rfl, rfl, hN, hP⟩ := hrel
    by_cases hlt : k < 64
    · go_wp2_with fail
      refine (letters_calls k hlt wr).mono ?_
      rintro e w2 ⟨rfl, hb⟩
      have HP2 := Lib.hid (hP.out.grow hb)
      cases hq : ((flagsS k).toList == s.toList) with
      | true =>
        have HQ := Lib.hid (beq_yes hq)
        go_wp2_with fail
        go_roundw
        case rel => exact ⟨k + 1, k, by omega, by omega, rfl, by go_num, Lib.hid (.inl HQ.out), HP2⟩
        case measure => simp [intOf]; omega
      | false =>
        have HQ := Lib.hid (beq_no (x := flagsS k) (s := s) (by rw [hq]; decide))
        go_wp2_with fail
        go_roundw
        case rel =>
          refine ⟨k + 1, x, by omega, by omega, rfl, by go_num, Lib.hid ?_, HP2⟩
          rcases hN.out with h | ⟨h, h0⟩
          · exact .inl h
          · refine .inr ⟨fun n hn => ?_, h0⟩
            rcases Nat.lt_or_ge n k with h2 | h2
            · exact h n h2
            · obtain rfl : n = k := by omega
              exact HQ.out
        case measure => simp [intOf]; omega
    · obtain rfl : k = 64 := by omega
      go_wp2_with fail
      refine (letters_calls x hx wr).mono ?_
      rintro e w2 ⟨rfl, hb⟩
      have HP2 := Lib.hid (hP.out.grow hb)
      obtain ⟨d1, d2⟩ := HP2.out.cell1
      clear hb
      cases hq : ((flagsS x).toList == s.toList) with
      | true =>
        have HQ := Lib.hid (beq_yes hq)
        go_wp2_with fail
        go_ret
        have e1 := bitsF_some hx HQ.out
        exact ⟨ret_int (by rw [bitsV, e1]; rfl), by simpa [e1] using HP2.out⟩
      | false =>
        have HQ := Lib.hid (beq_no (x := flagsS x) (s := s) (by rw [hq]; decide))
        go_wp2_with fail
        go_ret
        have h3 : (∀ n : Nat, n < 64 → flagsS (n : Int) ≠ s) ∧ x = 0 := by
          rcases hN.out with h | h
          · exact absurd h HQ.out
          · exact h
        have e1 := bitsF_none h3.1
        exact ⟨ret_int (by rw [bitsV, e1, h3.2]; rfl), by simpa [e1] using HP2.out.set true⟩

theorem rproto_all : ∀ n : Fin 256, castellanref14_proto.f 10 (n.val : Int) = some (protoS (n.val : Int)) := by decide +kernel
theorem rprotoS_calls (n : Int) (w : World) (h0 : 0 ≤ n) (h1 : n < 256) :
    Calls Tryz.prog 63 #[.int .i64 n] w fun e w' => e = .returned (.string (protoS n)) ∧ Grows w w' := by
  obtain ⟨m, rfl⟩ := Int.eq_ofNat_of_zero_le h0
  exact castellanref14_proto.calls 10 m _ w (rproto_all ⟨m, by omega⟩)
theorem numR_low (k : Nat) (m : Int) (s : ByteArray) : 0 ≤ (numR k m s).1 ∧ ((numR k m s).2 = true → (numR k m s).1 ≤ m) := by
  unfold numR
  split
  · exact ⟨Int.natCast_nonneg _, by simp⟩
  · exact ⟨by simp, by simp⟩
def rprotoB (s : ByteArray) : Bool := !(numR 9 255 s).2 || decide ((numR 9 255 s).1 = 0) || !decide (protoS (numR 9 255 s).1 = s)
def rprotoR (s : ByteArray) : Int × Bool :=
  if s = icmpS then (1, false) else if s = tcpS then (6, false) else if s = udpS then (17, false) else ((numR 9 255 s).1, rprotoB s)
def prs (k : Nat) : Int := if k = 0 then 1 else if k = 1 then 6 else 17
def prsS (k : Nat) : ByteArray := if k = 0 then icmpS else if k = 1 then tcpS else udpS
theorem prs_cell (k : Nat) (h : k < 3) : (#[Value.int .i64 1, .int .i64 6, .int .i64 17])[k]? = some (.int .i64 (prs k)) := by
  obtain rfl | rfl | rfl : k = 0 ∨ k = 1 ∨ k = 2 := by omega
  all_goals rfl
theorem prs_low (k : Nat) : 0 ≤ prs k ∧ prs k < 256 := by
  unfold prs
  split
  · omega
  · split <;> omega
theorem prsS_eq (k : Nat) : protoS (prs k) = prsS k := by
  unfold prs prsS
  by_cases h : k = 0
  · simp [h, protoS]
  · by_cases h1 : k = 1
    · simp [h1, protoS]
    · simp [h, h1, protoS]
theorem rprotoR_prs (k : Nat) (s : ByteArray) (hk : k < 3) (h : prsS k = s) : rprotoR s = (prs k, false) := by
  subst h
  obtain rfl | rfl | rfl : k = 0 ∨ k = 1 ∨ k = 2 := by omega
  all_goals decide +kernel
theorem rprotoR_num (s : ByteArray) (h : ∀ n, n < 3 → prsS n ≠ s) : rprotoR s = ((numR 9 255 s).1, rprotoB s) := by
  unfold rprotoR
  rw [if_neg (fun e => h 0 (by omega) e.symm), if_neg (fun e => h 1 (by omega) e.symm), if_neg (fun e => h 2 (by omega) e.symm)]
theorem rproto_calls (w0 w : World) (g : Nat) (l : List ByteArray) (bad : Bool) (h : WS 78 w0 w g l bad) :
    Calls Tryz.prog 43 #[.pointer (some ⟨g, 0, none⟩)] w fun e w' => e = .returned (.int .i64 (rprotoR (nextS l)).1) ∧ WPost 78 w0 w w' g l.tail (bad || l.isEmpty || (rprotoR (nextS l)).2) := by
  have H0 := Lib.hid h
  clear h
  obtain ⟨s, hs⟩ : ∃ s, s = nextS l := ⟨_, rfl⟩
  rw [← hs]
  obtain ⟨B, hB⟩ : ∃ B, B = (bad || l.isEmpty) := ⟨_, rfl⟩
  rw [← hB]
  go_enter Tryz.func43, Tryz.ntmps43
  go_wp2_with fail
  refine (rnext_calls w0 w g l bad H0.out).mono ?_
  rw [← hs, ← hB]
  clear hs hB
  rintro e w1 ⟨rfl, hw1⟩
  have H1 := Lib.hid hw1
  clear hw1
  have HG1 := heap_alloc_new w1 (.cells #[.int .i64 1, .int .i64 6, .int .i64 17] 3)
  have HN := Lib.hid H1.out.1.lt
  have H2 := Lib.hid (H1.out.alloc (.cells #[.int .i64 1, .int .i64 6, .int .i64 17] 3))
  go_wp2_with fail
  generalize w1.alloc (.cells #[.int .i64 1, .int .i64 6, .int .i64 17] 3) = w2 at *
  generalize w1.heap.size = c at *
  have HGG := Lib.hid HG1
  clear HG1
  go_loopw [5] (fun v5 wr => ∃ k : Nat, k ≤ 3 ∧ v5 = .int .i64 k ∧ Hid (∀ n : Nat, n < k → prsS n ≠ s) ∧ Hid (WPost 78 w0 w wr g l.tail B) ∧ Hid (wr.heap[c]? = some (.cells #[.int .i64 1, .int .i64 6, .int .i64 17] 3))) (fun v5 _ => 3 - (intOf v5).toNat)
  case atStart => exact ⟨0, by omega, rfl, Lib.hid (fun n h => by omega), H2, HGG⟩
  case round =>
    obtain ⟨k, hk, rfl, hN, hP, hG⟩ := hrel
    by_cases hlt : k < 3
    · have hck : wr.cell? ⟨c, k, none⟩ = some (.int .i64 (prs k)) := (blk_cell hG.out k).trans (prs_cell k hlt)
      have hpb : 0 ≤ prs k ∧ prs k < 256 := prs_low k
      have hps := prsS_eq k
      have HPR := Lib.hid (rprotoR_prs k s hlt)
      generalize prs k = pk at *
      go_wp2_with fail
      refine (rprotoS_calls pk wr hpb.1 hpb.2).mono ?_
      rintro e w3 ⟨rfl, hb⟩
      have HP2 := Lib.hid (hP.out.grow hb)
      have hg3 := blkG hG.out hb
      have hck2 : w3.cell? ⟨c, k, none⟩ = some (.int .i64 pk) := (by rw [pw_cell_below hb hck])
      have HG3 := Lib.hid hg3
      rw [hps]
      clear hb hg3 hps
      cases hq : ((prsS k).toList == s.toList) with
      | true =>
        have HQ := Lib.hid (beq_yes hq)
        go_wp2_with fail
        go_ret
        have e1 := HPR.out HQ.out
        exact ⟨ret_int (by rw [e1]), by simpa [e1] using HP2.out⟩
      | false =>
        have HQ := Lib.hid (beq_no (x := prsS k) (s := s) (by rw [hq]; decide))
        go_wp2_with fail
        go_roundw
        case rel =>
          refine ⟨k + 1, by omega, by go_num, Lib.hid (fun n hn => ?_), HP2, HG3⟩
          rcases Nat.lt_or_ge n k with h | h
          · exact hN.out n h
          · obtain rfl : n = k := by omega
            exact HQ.out
        case measure => simp [intOf]; omega
    · obtain rfl : k = 3 := by omega
      have HR := Lib.hid (rprotoR_num s hN.out)
      obtain ⟨r, hr⟩ : ∃ r, r = numR 9 255 s := ⟨_, rfl⟩
      have hlow := numR_low 9 255 s
      rw [← hr] at hlow
      have HF : Hid (rprotoB s = (!r.2 || decide (r.1 = 0) || !decide (protoS r.1 = s))) := Lib.hid (by rw [hr]; rfl)
      have HF2 : Hid ((rprotoR s).1 = r.1) := Lib.hid (by rw [HR.out, hr])
      go_wp2_with fail
      refine (rnum_calls w0 wr g _ _ s 255 hP.out.1).mono ?_
      rw [← hr]
      clear hr
      rintro e w3 ⟨rfl, hw3⟩
      have H3 := Lib.hid (hP.out.step hw3)
      obtain ⟨d1, d2⟩ := H3.out.cell1
      clear hw3
      obtain ⟨n, q⟩ := r
      cases hB : (B || !q) with
      | true =>
        have HB := Lib.hid hB
        rw [hB] at d1
        clear hB
        go_wp2_with fail
        go_ret
        refine ⟨ret_int HF2.out.symm, ?_⟩
        have := H3.out.set true
        rw [HR.out]
        simp only [HF.out]
        have e2 : (B || (!q || decide (n = 0) || !decide (protoS n = s))) = true := by
          have := HB.out
          revert this
          cases B <;> cases q <;> simp
        rw [e2]
        exact this
      | false =>
        have HB := Lib.hid hB
        rw [hB] at d1
        have hq : q = true := by revert hB; cases q <;> simp
        have hB0 : B = false := by revert hB; cases B <;> simp
        subst hq hB0
        have hh := hlow.2 rfl
        have hl0 := hlow.1
        simp only at hh hl0
        clear hlow hB
        cases hz : (n == 0) with
        | true =>
          have HZ : Hid (n = 0) := Lib.hid (by simpa using hz)
          go_wp2_with fail
          go_ret
          refine ⟨ret_int HF2.out.symm, ?_⟩
          have := H3.out.set true
          rw [HR.out]
          simp only [HF.out]
          simpa [HZ.out] using this
        | false =>
          have HZ : Hid (n ≠ 0) := Lib.hid (by simpa using hz)
          go_wp2_with fail
          refine (rprotoS_calls n w3 hl0 (by omega)).mono ?_
          rintro e w4 ⟨rfl, hb⟩
          have H4 := Lib.hid (H3.out.grow hb)
          obtain ⟨d3, d4⟩ := H4.out.cell1
          clear hb
          go_wp2_with fail
          go_ret
          refine ⟨ret_int HF2.out.symm, ?_⟩
          rw [HR.out]
          simp only [HF.out]
          have e3 : (!(protoS n).toList == s.toList) = !decide (protoS n = s) := by rw [Bool.eq_iff_iff]; simp [toList_inj]
          have := H4.out.set (!decide (protoS n = s))
          rw [← e3] at this
          simpa [HZ.out, e3, toList_inj] using this
end Go.Proofs.YtomkohdlaednhaaGreatDoor
