import Derived.Test.YtomkohdlaednhaaGreatDoorA
set_option linter.unusedSimpArgs false
set_option linter.unusedVariables false
namespace Go.Proofs.YtomkohdlaednhaaGreatDoor
open Go.RowKit Go.Proofs.YtomkohdlaednhaaGreatDoorW.PrintWords

theorem bt_head {s : ByteArray} (h : 0 < s.size) : bt s 0 = 48 ↔ s.data.toList.head? = some 48 := by
  have h1 : s.data.toList.head? = some s[0] := by
    rw [List.head?_eq_getElem?, List.getElem?_eq_getElem (by rw [← Lib.size_eq]; exact h)]; rfl
  rw [h1, show bt s 0 = ((s[0]'h).toNat : Int) from (bt_at s 0 h).symm]
  constructor
  · intro e
    have : s[0].toNat = 48 := by omega
    rw [show s[0] = 48 from UInt8.toNat_inj.1 (by simpa using this)]
  · intro e
    have : s[0] = 48 := by simpa using e
    rw [this]; rfl
/-- What a number's test takes: (empty), (long), (a nought ahead), (no digits), else. -/
theorem num_cases (k : Nat) (s : ByteArray) : s.toList = [] ∨ (¬ s.toList = [] ∧ 0 < s.size ∧ (k < s.size ∨ (s.size ≤ k ∧ ((bt s 0 == 48) = true ∧ 1 < s.size ∨ ((bt s 0 == 48) = true ∧ ¬ 1 < s.size ∨ (bt s 0 == 48) = false))))) := by
  by_cases h1 : s.toList = []
  · exact .inl h1
  · refine .inr ⟨h1, size_pos_of h1, ?_⟩
    rcases Nat.lt_or_ge k s.size with h2 | h2
    · exact .inl h2
    · refine .inr ⟨h2, ?_⟩
      cases h3 : (bt s 0 == 48) with
      | false => exact .inr (.inr rfl)
      | true =>
        rcases Classical.em (1 < s.size) with h4 | h4
        · exact .inl ⟨rfl, h4⟩
        · exact .inr (.inl ⟨rfl, h4⟩)
theorem atoi_calls (s : ByteArray) (w : World) (hl : s.size ≤ 18) (hne : ¬ s.toList = []) (hd : s.data.toList.all isDig = true) :
    Calls Tryz.prog 84 #[.string s] w fun e w' => e = .returned (.tuple #[.int .i64 (decN s.data.toList : Int), .nilIface]) ∧ Grows w w' :=
  (Tryz.strconv_Atoi s _ hl (atoi_digits _ (by rwa [← Lib.toList_data]) hd) w).mono fun e w' ⟨h1, t, h2⟩ => ⟨h1, by rw [h2]; exact Lib.bytesWorld_below ..⟩

theorem number_no1 (w0 w : World) (g : Nat) (l : List ByteArray) (bad : Bool) (s : ByteArray) (h : WS 68 w0 w g l bad) (hne : ¬ s.toList = []) (hl : s.size ≤ 9) (hp : 0 < s.size)
    (hz : (bt s 0 == 48) = true) (h2 : ¬ 1 < s.size) (hd : (Lib.trimS s.data.toList digs.data.toList).isEmpty = false) (ho : Hid (numOk 9 s = false)) :
    Calls Tryz.prog 40 #[.pointer (some ⟨g, 0, none⟩), .string s] w fun e w' => e = .returned (.int .i64 (numV 9 s)) ∧ WPost 68 w0 w w' g l (bad || !numOk 9 s) := by
  have hH := Lib.hid h
  clear h
  have hx0 : ∀ h : 0 < s.size, ((s[0]'h).toNat : Int) = bt s 0 := bt_at s 0
  go_enter Tryz.func40, Tryz.ntmps40
  go_wp2_with (go_at_call 49; refine (trim_calls s digs w (by omega) (by decide) (by decide)).mono ?_; rintro e w1 ⟨rfl, hb⟩; obtain ⟨A1, c1, hg1, -⟩ := (hH.out.grow hb).blk; have hf11 := blk_frozen hg1 1; have h11 : w1.cell? ⟨g, 1, none⟩ = some (.bool bad) := (blk_cell hg1 1).trans rfl; clear hg1)
  go_ret
  exact ⟨by simp [numV, ho.out], by simpa [ho.out] using (hH.out.grow ‹Grows w _›).setBad true, ((KeepBut.of_below ‹Grows w _› g none)).set_ _ _⟩
theorem number_no2 (w0 w : World) (g : Nat) (l : List ByteArray) (bad : Bool) (s : ByteArray) (h : WS 68 w0 w g l bad) (hne : ¬ s.toList = []) (hl : s.size ≤ 9) (hp : 0 < s.size)
    (hz : (bt s 0 == 48) = false) (hd : (Lib.trimS s.data.toList digs.data.toList).isEmpty = false) (ho : Hid (numOk 9 s = false)) :
    Calls Tryz.prog 40 #[.pointer (some ⟨g, 0, none⟩), .string s] w fun e w' => e = .returned (.int .i64 (numV 9 s)) ∧ WPost 68 w0 w w' g l (bad || !numOk 9 s) := by
  have hH := Lib.hid h
  clear h
  have hx0 : ∀ h : 0 < s.size, ((s[0]'h).toNat : Int) = bt s 0 := bt_at s 0
  go_enter Tryz.func40, Tryz.ntmps40
  go_wp2_with (go_at_call 49; refine (trim_calls s digs w (by omega) (by decide) (by decide)).mono ?_; rintro e w1 ⟨rfl, hb⟩; obtain ⟨A1, c1, hg1, -⟩ := (hH.out.grow hb).blk; have hf11 := blk_frozen hg1 1; have h11 : w1.cell? ⟨g, 1, none⟩ = some (.bool bad) := (blk_cell hg1 1).trans rfl; clear hg1)
  go_ret
  exact ⟨by simp [numV, ho.out], by simpa [ho.out] using (hH.out.grow ‹Grows w _›).setBad true, ((KeepBut.of_below ‹Grows w _› g none)).set_ _ _⟩
theorem number_yes1 (w0 w : World) (g : Nat) (l : List ByteArray) (bad : Bool) (s : ByteArray) (h : WS 68 w0 w g l bad) (hne : ¬ s.toList = []) (hl : s.size ≤ 9) (hp : 0 < s.size)
    (hz : (bt s 0 == 48) = true) (h2 : ¬ 1 < s.size) (hQ : Hid (s.data.toList.all isDig = true)) (hd : Lib.trimS s.data.toList digs.data.toList = []) (ho : Hid (numOk 9 s = true)) :
    Calls Tryz.prog 40 #[.pointer (some ⟨g, 0, none⟩), .string s] w fun e w' => e = .returned (.int .i64 (numV 9 s)) ∧ WPost 68 w0 w w' g l (bad || !numOk 9 s) := by
  have hH := Lib.hid h
  clear h
  have hx0 : ∀ h : 0 < s.size, ((s[0]'h).toNat : Int) = bt s 0 := bt_at s 0
  have he : s.toList.isEmpty = false := by simpa using hne
  have hd2 : (!(Lib.trimS s.data.toList digs.data.toList).isEmpty) = false := by rw [hd]; rfl
  go_enter Tryz.func40, Tryz.ntmps40
  go_wp2_with (first | (go_at_call 49; refine (trim_calls s digs w (by omega) (by decide) (by decide)).mono ?_; rintro e w1 ⟨rfl, hb⟩) | (go_at_call 84; refine (atoi_calls s _ (by omega) hne hQ.out).mono ?_; rintro e w2 ⟨rfl, hb2⟩))
  go_ret
  exact ⟨by simp [numV, ho.out], by simpa [ho.out] using (hH.out.grow ‹Grows w _›).grow ‹_›, ((KeepBut.of_below ‹Grows w _› g none)).trans (KeepBut.of_below ‹_› g none) (.inl rfl)⟩
theorem number_yes2 (w0 w : World) (g : Nat) (l : List ByteArray) (bad : Bool) (s : ByteArray) (h : WS 68 w0 w g l bad) (hne : ¬ s.toList = []) (hl : s.size ≤ 9) (hp : 0 < s.size)
    (hz : (bt s 0 == 48) = false) (hQ : Hid (s.data.toList.all isDig = true)) (hd : Lib.trimS s.data.toList digs.data.toList = []) (ho : Hid (numOk 9 s = true)) :
    Calls Tryz.prog 40 #[.pointer (some ⟨g, 0, none⟩), .string s] w fun e w' => e = .returned (.int .i64 (numV 9 s)) ∧ WPost 68 w0 w w' g l (bad || !numOk 9 s) := by
  have hH := Lib.hid h
  clear h
  have hx0 : ∀ h : 0 < s.size, ((s[0]'h).toNat : Int) = bt s 0 := bt_at s 0
  have he : s.toList.isEmpty = false := by simpa using hne
  have hd2 : (!(Lib.trimS s.data.toList digs.data.toList).isEmpty) = false := by rw [hd]; rfl
  go_enter Tryz.func40, Tryz.ntmps40
  go_wp2_with (first | (go_at_call 49; refine (trim_calls s digs w (by omega) (by decide) (by decide)).mono ?_; rintro e w1 ⟨rfl, hb⟩) | (go_at_call 84; refine (atoi_calls s _ (by omega) hne hQ.out).mono ?_; rintro e w2 ⟨rfl, hb2⟩))
  go_ret
  exact ⟨by simp [numV, ho.out], by simpa [ho.out] using (hH.out.grow ‹Grows w _›).grow ‹_›, ((KeepBut.of_below ‹Grows w _› g none)).trans (KeepBut.of_below ‹_› g none) (.inl rfl)⟩
set_option maxHeartbeats 4000000 in
theorem number_calls (w0 w : World) (g : Nat) (l : List ByteArray) (bad : Bool) (s : ByteArray) (h : WS 68 w0 w g l bad) :
    Calls Tryz.prog 40 #[.pointer (some ⟨g, 0, none⟩), .string s] w fun e w' => e = .returned (.int .i64 (numV 9 s)) ∧ WPost 68 w0 w w' g l (bad || !numOk 9 s) := by
  obtain ⟨A, c, hg, hs⟩ := h.blk
  have h1 : w.cell? ⟨g, 1, none⟩ = some (.bool bad) := (blk_cell hg 1).trans rfl
  have hf1 := blk_frozen hg 1
  have hH := Lib.hid h
  clear h hg hs
  have hx0 : ∀ h : 0 < s.size, ((s[0]'h).toNat : Int) = bt s 0 := bt_at s 0
  rcases num_cases 9 s with he | ⟨hne, hp, hl | ⟨hl, hz⟩⟩
  · have ho : numOk 9 s = false := numOk_empty he
    go_enter Tryz.func40, Tryz.ntmps40
    go_wp2
    go_ret
    exact ⟨by simp [numV, ho], by simpa [ho] using hH.out.setBad true, (KeepBut.refl ..).set_ _ _⟩
  · have ho : numOk 9 s = false := numOk_long hl
    go_enter Tryz.func40, Tryz.ntmps40
    go_wp2
    go_ret
    exact ⟨by simp [numV, ho], by simpa [ho] using hH.out.setBad true, (KeepBut.refl ..).set_ _ _⟩
  · rcases hz with ⟨hz, h2⟩ | hz
    · have ho : numOk 9 s = false := numOk_nought ((bt_head hp).1 (by simpa using hz)) h2
      go_enter Tryz.func40, Tryz.ntmps40
      go_wp2
      go_ret
      exact ⟨by simp [numV, ho], by simpa [ho] using hH.out.setBad true, (KeepBut.refl ..).set_ _ _⟩
    · have hd := trim_digs s
      cases hq : s.data.toList.all isDig with
      | false =>
        rw [hq] at hd
        have ho := Lib.hid (numOk_other (k := 9) hq)
        clear hq
        rcases hz with ⟨hz, h2⟩ | hz
        · exact number_no1 w0 w g l bad s hH.out hne hl hp hz h2 hd ho
        · exact number_no2 w0 w g l bad s hH.out hne hl hp hz hd ho
      | true =>
        rw [hq] at hd
        have hQ := Lib.hid hq
        have ho : Hid (numOk 9 s = true) := Lib.hid (numOk_yes hne hl (by rintro ⟨h3, h4⟩; rcases hz with ⟨_, h2⟩ | hz; exact h2 h4; exact absurd ((bt_head hp).2 h3) (by simpa using hz)) hq)
        clear hq
        rcases hz with ⟨hz, h2⟩ | hz
        · exact number_yes1 w0 w g l bad s hH.out hne hl hp hz h2 hQ (List.isEmpty_iff.1 hd) ho
        · exact number_yes2 w0 w g l bad s hH.out hne hl hp hz hQ (List.isEmpty_iff.1 hd) ho
end Go.Proofs.YtomkohdlaednhaaGreatDoor
