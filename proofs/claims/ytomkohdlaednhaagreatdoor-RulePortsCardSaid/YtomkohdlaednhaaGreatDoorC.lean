import Derived.Test.YtomkohdlaednhaaGreatDoorB
import Derived.Lib.AppendIntMem
set_option linter.unusedSimpArgs false
set_option linter.unusedVariables false
namespace Go.Proofs.YtomkohdlaednhaaGreatDoor
open Go.RowKit Go.Proofs.YtomkohdlaednhaaGreatDoorW.PrintWords

theorem ret_int {k : IntKind} {a b : Int} (h : a = b) : Ending.returned (.int k a) = .returned (.int k b) := by rw [h]
theorem Env.below {w w1 : World} (h : Env w) (hb : Grows w w1) : Env w1 := by
  obtain ⟨h1, h2⟩ := h
  refine ⟨h1.keptBut (may := fun _ => False) (hb.frame _) (fun _ h => h.elim), ?_⟩
  unfold Lib.TabIs World.var? at h2 ⊢
  cases hg : Tryz.prog.globalNamed "internal/strconv.uint64pow10" with
  | none => simp [hg] at h2
  | some g =>
    simp only [hg, Option.bind_some] at h2 ⊢
    rw [hb.block g ?_]
    · exact h2
    · rcases Nat.lt_or_ge g w.heap.size with h' | h'
      · exact h'
      · simp [Array.getElem?_eq_none h'] at h2
theorem WS.envNow {T w0 w g l bad} (h : WS T w0 w g l bad) : Env w := h.env.below h.below

theorem itoa_calls (n : Int) (w : World) (h0 : -9223372036854775808 ≤ n) (h1 : n ≤ 9223372036854775807) (he : Env w) :
    Calls Tryz.prog 56 #[.int .i64 n] w fun e w' => e = .returned (.string ⟨(Lib.itoa n).toArray⟩) ∧ Grows w w' :=
  (Tryz.strconv_Itoa n h0 h1 w he.2).mono fun e w' ⟨h1, k, os, h2⟩ => ⟨h1, by rw [h2]; exact Lib.below_grow _ _ (Nat.le_refl _) _ _⟩

def icmpS : ByteArray := ⟨#[105, 99, 109, 112]⟩
def tcpS : ByteArray := ⟨#[116, 99, 112]⟩
def udpS : ByteArray := ⟨#[117, 100, 112]⟩
def protoS (n : Int) : ByteArray := if n = 1 then icmpS else if n = 6 then tcpS else if n = 17 then udpS else ⟨(Lib.itoa n).toArray⟩
theorem protoS_calls (n : Int) (w : World) (h0 : -9223372036854775808 ≤ n) (h1 : n ≤ 9223372036854775807) (he : Env w) :
    Calls Tryz.prog 53 #[.int .i64 n] w fun e w' => e = .returned (.string (protoS n)) ∧ Grows w w' := by
  have hE := Lib.hid he
  clear he
  by_cases a1 : n = 1
  · subst a1
    go_enter Tryz.func53, Tryz.ntmps53
    go_wp2
    go_ret
    exact ⟨rfl, Below.refl _ _⟩
  by_cases a2 : n = 6
  · subst a2
    go_enter Tryz.func53, Tryz.ntmps53
    go_wp2
    go_ret
    exact ⟨rfl, Below.refl _ _⟩
  by_cases a3 : n = 17
  · subst a3
    go_enter Tryz.func53, Tryz.ntmps53
    go_wp2
    go_ret
    exact ⟨rfl, Below.refl _ _⟩
  have b1 : (n == 1) = false := by simpa using a1
  have b2 : (n == 6) = false := by simpa using a2
  have b3 : (n == 17) = false := by simpa using a3
  have hp : Hid (protoS n = ⟨(Lib.itoa n).toArray⟩) := Lib.hid (by simp [protoS, a1, a2, a3])
  go_enter Tryz.func53, Tryz.ntmps53
  go_wp2_with (go_at_call 56; refine (itoa_calls n _ h0 h1 hE.out).mono ?_; rintro e w1 ⟨rfl, hb⟩)
  go_ret
  exact ⟨ret_str (by rw [hp.out]), ‹_›⟩

theorem numV_nonneg (k : Nat) (s : ByteArray) : 0 ≤ numV k s := by unfold numV; split <;> omega
theorem numV_le (k : Nat) (s : ByteArray) (hk : k ≤ 9) : numV k s ≤ 999999999 := by
  unfold numV
  split
  · rename_i h
    have h1 : s.size ≤ k := by
      simp only [numOk, Bool.and_eq_true, decide_eq_true_eq] at h
      exact h.1.1.2
    have h2 : s.data.toList.all isDig = true := by
      simp only [numOk, Bool.and_eq_true] at h
      exact h.2
    have := Lib.decFrom_lt _ _ _ (decFrom_foldl s.data.toList 0 h2)
    rw [← Lib.size_eq] at this
    have h3 : 10 ^ s.size ≤ 10 ^ 9 := Nat.pow_le_pow_right (by omega) (by omega)
    have h4 : decN s.data.toList < 10 ^ 9 := by
      refine Nat.lt_of_lt_of_le ?_ h3
      simpa [decN] using this
    omega
  · omega
def protoR (l : List ByteArray) (bad : Bool) : Int × Bool :=
  if nextS l = icmpS then (1, bad || l.isEmpty) else if nextS l = tcpS then (6, bad || l.isEmpty) else if nextS l = udpS then (17, bad || l.isEmpty)
  else (numV 9 (nextS l), bad || l.isEmpty || !numOk 9 (nextS l) || decide (numV 9 (nextS l) = 0) || !decide (protoS (numV 9 (nextS l)) = nextS l))
theorem proto_calls (w0 w : World) (g : Nat) (l : List ByteArray) (bad : Bool) (h : WS 68 w0 w g l bad) :
    Calls Tryz.prog 36 #[.pointer (some ⟨g, 0, none⟩)] w fun e w' => e = .returned (.int .i64 (protoR l bad).1) ∧ WPost 68 w0 w w' g l.tail (protoR l bad).2 := by
  have hH := Lib.hid h
  clear h
  go_enter Tryz.func36, Tryz.ntmps36
  go_wp2_with fail
  refine (next_calls w0 _ g l bad hH.out).mono ?_
  rintro e w1 ⟨rfl, h1, hk1⟩
  generalize hs : nextS l = s at *
  have H1 := Lib.hid h1
  have HK1 := Lib.hid hk1
  have HS := Lib.hid hs
  clear hs h1 hk1
  go_wp2_with fail
  · go_ret
    have e1 : s = icmpS := lit_yes ‹_›
    exact ⟨by simp [protoR, HS.out, e1], by simpa [protoR, HS.out, e1] using H1.out, HK1.out⟩
  · go_ret
    have e1 : s ≠ icmpS := lit_no (l := [105, 99, 109, 112]) ‹_›
    have e2 : s = tcpS := lit_yes ‹_›
    have HP : protoR l bad = (6, bad || l.isEmpty) := by unfold protoR; rw [HS.out, if_neg e1, if_pos e2]
    exact ⟨ret_int (by rw [HP]), by rw [HP]; exact H1.out, HK1.out⟩
  · go_ret
    have e1 : s ≠ icmpS := lit_no (l := [105, 99, 109, 112]) ‹_›
    have e2 : s ≠ tcpS := lit_no (l := [116, 99, 112]) ‹_›
    have e3 : s = udpS := lit_yes ‹_›
    have HP : protoR l bad = (17, bad || l.isEmpty) := by unfold protoR; rw [HS.out, if_neg e1, if_neg e2, if_pos e3]
    exact ⟨ret_int (by rw [HP]), by rw [HP]; exact H1.out, HK1.out⟩
  · have e1 : s ≠ icmpS := lit_no (l := [105, 99, 109, 112]) ‹_›
    have e2 : s ≠ tcpS := lit_no (l := [116, 99, 112]) ‹_›
    have e3 : s ≠ udpS := lit_no (l := [117, 100, 112]) ‹_›
    have HP : Hid (protoR l bad = (numV 9 s, bad || l.isEmpty || !numOk 9 s || decide (numV 9 s = 0) || !decide (protoS (numV 9 s) = s))) := Lib.hid (by unfold protoR; rw [HS.out, if_neg e1, if_neg e2, if_neg e3])
    clear e1 e2 e3
    refine (number_calls w0 w1 g l.tail _ s H1.out).mono ?_
    rintro e w2 ⟨rfl, h2, hk2⟩
    have H2 := Lib.hid h2
    have HK2 := Lib.hid hk2
    clear hk2
    have n0 := numV_nonneg 9 s
    have n1 := numV_le 9 s (by omega)
    generalize numV 9 s = n at *
    generalize hB : (bad || l.isEmpty || !numOk 9 s) = B at *
    have HB := Lib.hid hB
    clear hB
    obtain ⟨A, c, hg, -⟩ := h2.blk
    have c1 : w2.cell? ⟨g, 1, none⟩ = some (.bool B) := (blk_cell hg 1).trans rfl
    have f1 := blk_frozen hg 1
    clear h2 hg
    cases B with
    | true =>
      go_wp2_with fail
      go_ret
      exact ⟨ret_int (by rw [HP.out]), by rw [HP.out]; simpa using H2.out.setBad true, (HK1.out.trans HK2.out (.inl rfl)).set_ _ _⟩
    | false =>
      cases hz : (n == 0) with
      | true =>
        go_wp2_with fail
        go_ret
        exact ⟨ret_int (by rw [HP.out]), by rw [HP.out]; simpa [show n = 0 from by simpa using hz] using H2.out.setBad true, (HK1.out.trans HK2.out (.inl rfl)).set_ _ _⟩
      | false =>
        have hz' : n ≠ 0 := by simpa using hz
        go_wp2_with fail
        refine (protoS_calls n w2 (by omega) (by omega) H2.out.envNow).mono ?_
        rintro e w3 ⟨rfl, hb3⟩
        obtain ⟨A3, c3, hg3, -⟩ := (H2.out.grow hb3).blk
        have f3 := blk_frozen hg3 1
        have c3 : w3.cell? ⟨g, 1, none⟩ = some (.bool false) := (blk_cell hg3 1).trans rfl
        clear hg3
        go_wp2_with fail
        go_ret
        have hb13 := (HK1.out.trans HK2.out (.inl rfl)).trans (KeepBut.of_below hb3 g none) (.inl rfl)
        refine ⟨ret_int (by rw [HP.out]), ?_, hb13.set_ _ _⟩
        rw [HP.out, show (!(protoS n).toList == s.toList) = !decide (protoS n = s) from by rw [Bool.eq_iff_iff]; simp [toList_inj]]
        simpa [hz'] using (H2.out.grow hb3).setBad _
end Go.Proofs.YtomkohdlaednhaaGreatDoor
