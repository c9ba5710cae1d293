import Derived.Test.YtomkohdlaednhaaGreatDoorO2
import Derived.Test.YtomkohdlaednhaaGreatDoorO3
import Derived.Test.YtomkohdlaednhaaGreatDoorQ
import Derived.Lib.Hide
set_option linter.unusedSimpArgs false
set_option linter.unusedVariables false
namespace Go.Proofs.YtomkohdlaednhaaGreatDoor
open Go.RowKit Go.Proofs.YtomkohdlaednhaaGreatDoorW.PrintWords

abbrev Grows (w w' : World) : Prop := Below w.heap.size w w'
/-- What the library's own variables hold. -/
def Env (w : World) : Prop := w.ShapedOpen Tryz.prog ∧ Lib.TabIs Tryz.prog w "internal/strconv.uint64pow10" .u64 Lib.pow10Tab

theorem ret_bool {a b : Bool} (h : a = b) : Ending.returned (.bool a) = .returned (.bool b) := by rw [h]
theorem ret_str {a b : ByteArray} (h : a = b) : Ending.returned (.string a) = .returned (.string b) := by rw [h]
theorem trim_calls (s cs : ByteArray) (w : World) (hs : s.size ≤ 9223372036854775807) (hc : cs.size < 4294967281) (ha : cs.data.toList.all (fun b => decide (b.toNat < 128)) = true) :
    Calls Tryz.prog 49 #[.string s, .string cs] w fun e w' => e = .returned (.string ⟨(Lib.trimS s.data.toList cs.data.toList).toArray⟩) ∧ Grows w w' :=
  Any.strings_Trim_laid Tryz.lays160 (by kernel_rfl) s cs w hs hc (ascii_of_all ha)

/-! ### words that are taken from the left -/
def Strs (w : World) (A : Option Addr) (c : Nat) (l : List ByteArray) : Prop :=
  l.length ≤ c ∧ c ≤ 9223372036854775807 ∧ (l ≠ [] → ∃ b o, A = some ⟨b, o, none⟩ ∧ ∀ j x, l[j]? = some x → w.cell? ⟨b, o + j, none⟩ = some (.string x))
theorem Strs.below {w w1 : World} {A c l} (h : Strs w A c l) (hb : Grows w w1) : Strs w1 A c l :=
  ⟨h.1, h.2.1, fun hl => by
    obtain ⟨b, o, e, hc⟩ := h.2.2 hl
    exact ⟨b, o, e, fun j x hx => pw_cell_below hb (hc j x hx)⟩⟩
theorem Strs.tail {w : World} {b o c : Nat} {x : ByteArray} {l : List ByteArray} (h : Strs w (some ⟨b, o, none⟩) c (x :: l)) : Strs w (some ⟨b, o + 1, none⟩) (c - 1) l := by
  refine ⟨by have := h.1; simp at this; omega, by have := h.2.1; omega, fun _ => ?_⟩
  obtain ⟨b', o', e, hc⟩ := h.2.2 (by simp)
  simp only [Option.some.injEq, Addr.mk.injEq] at e
  obtain ⟨rfl, rfl, _⟩ := e
  exact ⟨b, o + 1, rfl, fun j y hy => by have := hc (j + 1) y (by simpa using hy); rwa [show o + (j + 1) = o + 1 + j from by omega] at this⟩
theorem Strs.none {w : World} {A c} (hc : c ≤ 9223372036854775807) : Strs w A c [] := ⟨by simp, hc, fun h => absurd rfl h⟩

structure WS (T : Nat) (w0 w : World) (g : Nat) (l : List ByteArray) (bad : Bool) : Prop where
  blk : ∃ A c, w.heap[g]? = some (.cells #[.slice A l.length c, .bool bad] T (0, 0)) ∧ Strs w0 A c l
  ge : w0.heap.size ≤ g
  below : Grows w0 w
  env : Env w0
  sz : ∀ x ∈ l, x.size < 4294967281
theorem WS.grow {T w0 w w1 g l bad} (h : WS T w0 w g l bad) (hb : Grows w w1) : WS T w0 w1 g l bad := by
  obtain ⟨A, c, hg, hs⟩ := h.blk
  exact ⟨⟨A, c, (hb.block g (blk_lt hg)).trans hg, hs⟩, h.ge, below_then h.below h.below.size hb, h.env, h.sz⟩
theorem WS.lt {T w0 w g l bad} (h : WS T w0 w g l bad) : g < w.heap.size := by
  obtain ⟨A, c, hg, hs⟩ := h.blk
  exact blk_lt hg
theorem WS.setBad {T w0 w g l bad} (h : WS T w0 w g l bad) (b : Bool) : WS T w0 (w.setCell ⟨g, 1, none⟩ (.bool b)) g l b := by
  obtain ⟨A, c, hg, hs⟩ := h.blk
  exact ⟨⟨A, c, by simpa using blk_set hg 1 (.bool b), hs⟩, h.ge, below_set h.below h.ge, h.env, h.sz⟩
theorem WS.setL {T w0 w g l bad} (h : WS T w0 w g l bad) (A' : Option Addr) (c' : Nat) (l' : List ByteArray) (hs' : Strs w0 A' c' l') (hz : ∀ x ∈ l', x.size < 4294967281) : WS T w0 (w.setCell ⟨g, 0, none⟩ (.slice A' l'.length c')) g l' bad := by
  obtain ⟨A, c, hg, hs⟩ := h.blk
  exact ⟨⟨A', c', by simpa using blk_set hg 0 (.slice A' l'.length c'), hs'⟩, h.ge, below_set h.below h.ge, h.env, hz⟩
theorem WS.cut {T w0 w g x l bad b o c} (h : WS T w0 w g (x :: l) bad) (hs : Strs w0 (some ⟨b, o, none⟩) c (x :: l)) : WS T w0 (w.setCell ⟨g, 0, none⟩ (.slice (some ⟨b, o + 1, none⟩) l.length (c - 1))) g l bad := h.setL _ _ _ hs.tail (fun y hy => h.sz y (List.mem_cons_of_mem _ hy))
theorem WS.cut0 {T w0 w g x l bad b o c} (h : WS T w0 w g (x :: l) bad) (hs : Strs w0 (some ⟨b, o, none⟩) c (x :: l)) (hc : c = 1) : WS T w0 (w.setCell ⟨g, 0, none⟩ (.slice (some ⟨b, o, none⟩) l.length 0)) g l bad := by
  have h1 := hs.1
  simp only [List.length_cons] at h1
  obtain rfl : l = [] := List.eq_nil_of_length_eq_zero (by omega)
  exact h.setL _ _ _ (Strs.none (by omega)) (by simp)
/-- What a call does to the words: they are now these; nothing else turns. -/
def WPost (T : Nat) (w0 w w' : World) (g : Nat) (l : List ByteArray) (bad : Bool) : Prop := WS T w0 w' g l bad ∧ KeepBut w w' g none

def takesB (l : List ByteArray) (bad : Bool) (s : ByteArray) : Bool := !bad && decide (l.head? = some s)
def takesL (l : List ByteArray) (bad : Bool) (s : ByteArray) : List ByteArray := if takesB l bad s then l.tail else l

theorem takes_calls (w0 w : World) (g : Nat) (l : List ByteArray) (bad : Bool) (s : ByteArray) (h : WS 68 w0 w g l bad) :
    Calls Tryz.prog 34 #[.pointer (some ⟨g, 0, none⟩), .string s] w fun e w' => e = .returned (.bool (takesB l bad s)) ∧ WPost 68 w0 w w' g (takesL l bad s) bad := by
  obtain ⟨A, c, hg, hs⟩ := h.blk
  have h0 : w.cell? ⟨g, 0, none⟩ = some (.slice A l.length c) := (blk_cell hg 0).trans rfl
  have h1 : w.cell? ⟨g, 1, none⟩ = some (.bool bad) := (blk_cell hg 1).trans rfl
  have hf := blk_frozen hg 0
  cases bad with
  | true =>
    go_enter Tryz.func34, Tryz.ntmps34
    go_wp2
    go_ret
    exact ⟨by simp [takesB], by simpa [takesL, takesB] using h, KeepBut.refl ..⟩
  | false =>
    cases l with
    | nil =>
      simp only [List.length_nil] at h0
      go_enter Tryz.func34, Tryz.ntmps34
      go_wp2
      go_ret
      exact ⟨by simp [takesB], by simpa [takesL, takesB] using h, KeepBut.refl ..⟩
    | cons x l =>
      obtain ⟨b, o, rfl, hx⟩ := hs.2.2 (by simp)
      have hx0 : w.cell? ⟨b, o, none⟩ = some (.string x) := pw_cell_below h.below (hx 0 x rfl)
      have hle := hs.1
      have hmx := hs.2.1
      simp only [List.length_cons] at h0 h1 hf hle
      have hH := Lib.hid h
      have hS := Lib.hid hs
      clear h hs hg hx
      by_cases hq : (x.toList == s.toList) = true
      · have e1 := Lib.hid (beq_yes hq)
        go_enter Tryz.func34, Tryz.ntmps34
        go_wp2
        all_goals go_ret
        · refine ⟨ret_bool ?_, ?_, ?_⟩
          · simp [takesB, e1.out]
          · simp only [takesL, takesB, List.head?_cons, List.tail_cons, e1.out]; simpa using hH.out.cut0 hS.out ‹_›
          · exact (KeepBut.refl ..).set_ _ _
        · refine ⟨ret_bool ?_, ?_, ?_⟩
          · simp [takesB, e1.out]
          · simp only [takesL, takesB, List.head?_cons, List.tail_cons, e1.out]; simpa using hH.out.cut hS.out
          · exact (KeepBut.refl ..).set_ _ _
      · have e1 := Lib.hid (beq_no hq)
        go_enter Tryz.func34, Tryz.ntmps34
        go_wp2
        go_ret
        exact ⟨by simp [takesB, e1.out], by simpa [takesL, takesB, e1.out] using hH.out, KeepBut.refl ..⟩
def nextS (l : List ByteArray) : ByteArray := l.headD ⟨#[]⟩
theorem WS.next_sz {T w0 w g l bad} (h : WS T w0 w g l bad) : (nextS l).size < 4294967281 := by
  cases l with
  | nil => exact (by decide : (0 : Nat) < 4294967281)
  | cons x l => exact h.sz x (by simp)
theorem next_calls (w0 w : World) (g : Nat) (l : List ByteArray) (bad : Bool) (h : WS 68 w0 w g l bad) :
    Calls Tryz.prog 35 #[.pointer (some ⟨g, 0, none⟩)] w fun e w' => e = .returned (.string (nextS l)) ∧ WPost 68 w0 w w' g l.tail (bad || l.isEmpty) := by
  obtain ⟨A, c, hg, hs⟩ := h.blk
  have h0 : w.cell? ⟨g, 0, none⟩ = some (.slice A l.length c) := (blk_cell hg 0).trans rfl
  have h1 : w.cell? ⟨g, 1, none⟩ = some (.bool bad) := (blk_cell hg 1).trans rfl
  have hf := blk_frozen hg 0
  have hf1 := blk_frozen hg 1
  cases l with
  | nil =>
    simp only [List.length_nil] at h0
    go_enter Tryz.func35, Tryz.ntmps35
    go_wp2
    go_ret
    exact ⟨rfl, by simpa using h.setBad true, (KeepBut.refl ..).set_ _ _⟩
  | cons x l =>
    obtain ⟨b, o, rfl, hx⟩ := hs.2.2 (by simp)
    have hx0 : w.cell? ⟨b, o, none⟩ = some (.string x) := pw_cell_below h.below (hx 0 x rfl)
    have hle := hs.1
    have hmx := hs.2.1
    simp only [List.length_cons] at h0 h1 hf hle
    have hH := Lib.hid h
    have hS := Lib.hid hs
    clear h hs hg hx
    go_enter Tryz.func35, Tryz.ntmps35
    go_wp2
    all_goals go_ret
    · exact ⟨rfl, by simpa using hH.out.cut0 hS.out ‹_›, (KeepBut.refl ..).set_ _ _⟩
    · exact ⟨rfl, by simpa using hH.out.cut hS.out, (KeepBut.refl ..).set_ _ _⟩

/-! ### the same in the reference -/
theorem is_calls (w0 w : World) (g : Nat) (l : List ByteArray) (bad : Bool) (s : ByteArray) (h : WS 78 w0 w g l bad) :
    Calls Tryz.prog 42 #[.pointer (some ⟨g, 0, none⟩), .string s] w fun e w' => e = .returned (.bool (takesB l false s)) ∧ WPost 78 w0 w w' g (takesL l false s) bad := by
  obtain ⟨A, c, hg, hs⟩ := h.blk
  have h0 : w.cell? ⟨g, 0, none⟩ = some (.slice A l.length c) := (blk_cell hg 0).trans rfl
  have h1 : w.cell? ⟨g, 1, none⟩ = some (.bool bad) := (blk_cell hg 1).trans rfl
  have hf := blk_frozen hg 0
  cases l with
  | nil =>
    simp only [List.length_nil] at h0
    go_enter Tryz.func42, Tryz.ntmps42
    go_wp2
    go_ret
    exact ⟨by simp [takesB], by simpa [takesL, takesB] using h, KeepBut.refl ..⟩
  | cons x l =>
    obtain ⟨b, o, rfl, hx⟩ := hs.2.2 (by simp)
    have hx0 : w.cell? ⟨b, o, none⟩ = some (.string x) := pw_cell_below h.below (hx 0 x rfl)
    have hle := hs.1
    have hmx := hs.2.1
    simp only [List.length_cons] at h0 h1 hf hle
    have hH := Lib.hid h
    have hS := Lib.hid hs
    clear h hs hg hx
    by_cases hq : (x.toList == s.toList) = true
    · have e1 := Lib.hid (beq_yes hq)
      go_enter Tryz.func42, Tryz.ntmps42
      go_wp2
      all_goals go_ret
      · refine ⟨ret_bool ?_, ?_, ?_⟩
        · simp [takesB, e1.out]
        · simp only [takesL, takesB, List.head?_cons, List.tail_cons, e1.out]; simpa using hH.out.cut0 hS.out ‹_›
        · exact (KeepBut.refl ..).set_ _ _
      · refine ⟨ret_bool ?_, ?_, ?_⟩
        · simp [takesB, e1.out]
        · simp only [takesL, takesB, List.head?_cons, List.tail_cons, e1.out]; simpa using hH.out.cut hS.out
        · exact (KeepBut.refl ..).set_ _ _
    · have e1 := Lib.hid (beq_no hq)
      go_enter Tryz.func42, Tryz.ntmps42
      go_wp2
      go_ret
      exact ⟨by simp [takesB, e1.out], by simpa [takesL, takesB, e1.out] using hH.out, KeepBut.refl ..⟩
theorem rnext_calls (w0 w : World) (g : Nat) (l : List ByteArray) (bad : Bool) (h : WS 78 w0 w g l bad) :
    Calls Tryz.prog 41 #[.pointer (some ⟨g, 0, none⟩)] w fun e w' => e = .returned (.string (nextS l)) ∧ WPost 78 w0 w w' g l.tail (bad || l.isEmpty) := by
  obtain ⟨A, c, hg, hs⟩ := h.blk
  have h0 : w.cell? ⟨g, 0, none⟩ = some (.slice A l.length c) := (blk_cell hg 0).trans rfl
  have h1 : w.cell? ⟨g, 1, none⟩ = some (.bool bad) := (blk_cell hg 1).trans rfl
  have hf := blk_frozen hg 0
  have hf1 := blk_frozen hg 1
  cases l with
  | nil =>
    simp only [List.length_nil] at h0
    go_enter Tryz.func41, Tryz.ntmps41
    go_wp2
    go_ret
    exact ⟨rfl, by simpa using h.setBad true, (KeepBut.refl ..).set_ _ _⟩
  | cons x l =>
    obtain ⟨b, o, rfl, hx⟩ := hs.2.2 (by simp)
    have hx0 : w.cell? ⟨b, o, none⟩ = some (.string x) := pw_cell_below h.below (hx 0 x rfl)
    have hle := hs.1
    have hmx := hs.2.1
    simp only [List.length_cons] at h0 h1 hf hle
    have hH := Lib.hid h
    have hS := Lib.hid hs
    clear h hs hg hx
    go_enter Tryz.func41, Tryz.ntmps41
    go_wp2
    all_goals go_ret
    · exact ⟨rfl, by simpa using hH.out.cut0 hS.out ‹_›, (KeepBut.refl ..).set_ _ _⟩
    · exact ⟨rfl, by simpa using hH.out.cut hS.out, (KeepBut.refl ..).set_ _ _⟩
end Go.Proofs.YtomkohdlaednhaaGreatDoor
