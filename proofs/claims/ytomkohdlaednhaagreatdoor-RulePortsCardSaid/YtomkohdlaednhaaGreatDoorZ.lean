import Derived.Test.YtomkohdlaednhaaGreatDoorY
import Derived.Test.YtomkohdlaednhaaGreatDoorJ
import Derived.Lib.SpaceUEq
set_option linter.unusedSimpArgs false
set_option linter.unusedVariables false
namespace Go.Proofs.YtomkohdlaednhaaGreatDoor
open Go.RowKit Go.Proofs.YtomkohdlaednhaaGreatDoorW.PrintWords PConfParses

/-- The parts between blanks that hold a letter, with what stood ahead of the first. -/
def wds (p l : List UInt8) : List ByteArray := (longer p (spl 32 l)).filter (fun x => decide (0 < x.size))
theorem mkB_size (l : List UInt8) : (mkB l).size = l.length := by rw [Lib.size_eq, mkB_data]
theorem wds_end (p : List UInt8) : wds p [] = if 0 < p.length then [mkB p] else [] := by
  simp only [wds, spl, longer, List.append_nil, List.map_nil, List.filter_cons, List.filter_nil, mkB_size]
  by_cases h : 0 < p.length <;> simp [h]
theorem wds_hit (p l : List UInt8) : wds p (32 :: l) = (if 0 < p.length then [mkB p] else []) ++ wds [] l := by
  have e : wds [] l = ((spl 32 l).map mkB).filter (fun x => decide (0 < x.size)) := by rw [wds, longer_nil]
  rw [e]
  simp only [wds, spl_hit, longer, List.append_nil, List.filter_cons, mkB_size]
  by_cases h : 0 < p.length <;> simp [h]
theorem wds_miss {b : UInt8} (h : b ≠ 32) (p l : List UInt8) : wds p (b :: l) = wds (p ++ [b]) l := by
  simp only [wds, longer_miss h]
theorem slice_more (l : List UInt8) (a i : Nat) (ha : a ≤ i) (hi : i < l.length) : (l.drop a).take (i + 1 - a) = (l.drop a).take (i - a) ++ [l[i]] := by
  rw [show i + 1 - a = (i - a) + 1 from by omega, List.take_add_one]
  congr 1
  rw [List.getElem?_drop, show a + (i - a) = i from by omega, List.getElem?_eq_getElem hi]
  rfl
theorem slice_len (l : List UInt8) (a i : Nat) (ha : a ≤ i) (hi : i ≤ l.length) : ((l.drop a).take (i - a)).length = i - a := by
  rw [List.length_take, List.length_drop]; omega
theorem wds_skip (l : List UInt8) (a : Nat) : ∀ (k i : Nat), a ≤ i → i + k ≤ l.length → (∀ j (h : i + j < l.length), j < k → l[i + j] ≠ 32) →
    wds ((l.drop a).take (i - a)) (l.drop i) = wds ((l.drop a).take (i + k - a)) (l.drop (i + k))
  | 0, i, ha, hi, h => rfl
  | k + 1, i, ha, hi, h => by
    have hlt : i < l.length := by omega
    rw [List.drop_eq_getElem_cons hlt, wds_miss (by simpa using h 0 (by omega) (by omega)), ← slice_more l a i ha hlt,
      wds_skip l a k (i + 1) (by omega) (by omega) (fun j h1 h2 => by have := h (j + 1) (by omega) (by omega); simpa [show i + (j + 1) = i + 1 + j from by omega] using this), show i + 1 + k = i + (k + 1) from by omega]
theorem get!_list (s : ByteArray) (i : Nat) (h : i < s.data.toList.length) : s.get! i = s.data.toList[i] := by
  have h2 : i < s.data.size := by simpa using h
  show s.data[i]! = _
  rw [getElem!_pos s.data i h2]
  simp
theorem decode_blank (s : ByteArray) (i : Nat) (h : (s.get! i) = 32) : Utf8.decode s i = (32, 1) := by
  rw [Lib.decode_at, h]
  rfl
theorem decode_other (s : ByteArray) (i : Nat) (hi : i < s.data.toList.length) (h : s.get! i ≠ 32) :
    (Utf8.decode s i).1 ≠ 32 ∧ 1 ≤ (Utf8.decode s i).2 ∧ i + (Utf8.decode s i).2 ≤ s.data.toList.length ∧ ∀ j (hj : i + j < s.data.toList.length), j < (Utf8.decode s i).2 → s.data.toList[i + j] ≠ 32 := by
  have hn : s.size - i = s.data.toList.length - i := by rw [Lib.size_eq]
  have hw := Lib.width_pos s i
  have hb0 : (s.get! i).toNat ≠ 32 := fun e => h (UInt8.toNat_inj.1 (by rw [e]; rfl))
  have hc := Lib.decodeN_cases (s.size - i) (s.get! i).toNat (s.get! (i + 1)).toNat (s.get! (i + 2)).toNat (s.get! (i + 3)).toNat
  have ht := Lib.decodeN_conts (s.size - i) (s.get! i).toNat (s.get! (i + 1)).toNat (s.get! (i + 2)).toNat (s.get! (i + 3)).toNat
  have hl := Lib.decodeN_le_n' (s.size - i) (s.get! i).toNat (s.get! (i + 1)).toNat (s.get! (i + 2)).toNat (s.get! (i + 3)).toNat (by omega)
  rw [← Lib.decode_at] at hc ht hl
  refine ⟨?_, hw, by omega, fun j hj hlt => ?_⟩
  · rcases hc with ⟨_, e⟩ | ⟨_, _, _, h1, e⟩ | ⟨_, _, _, _, h1, e⟩ | ⟨h1, _⟩ | e
    · rw [e]; exact hb0
    · rw [e]; simp only; omega
    · rw [e]; simp only; omega
    · omega
    · rw [e]; simp
  · rw [← get!_list s (i + j) hj]
    intro e
    have e' : (s.get! (i + j)).toNat = 32 := by rw [e]; rfl
    obtain ⟨h1, h2, h3, h4⟩ := ht
    have : j = 0 ∨ j = 1 ∨ j = 2 ∨ j = 3 := by omega
    rcases this with rfl | rfl | rfl | rfl
    · exact hb0 e'
    · have := (h1 (by omega)).1; omega
    · have := (h2 (by omega)).1; omega
    · have := (h3 (by omega)).1; omega
def cutsOf (s : ByteArray) (L : List (Nat × Nat)) : List ByteArray := L.map fun x => s.extract x.1 x.2
theorem extract_slice (s : ByteArray) (a b : Nat) : s.extract a b = mkB ((s.data.toList.drop a).take (b - a)) := Lib.extract_eq ..
theorem spans_words (s : ByteArray) : ∀ (f pos : Nat) (st : Option Nat) (acc : List (Nat × Nat)), pos ≤ s.data.toList.length → s.data.toList.length - pos ≤ f →
    (∀ a, st = some a → a < pos) →
    cutsOf s (Lib.closeSpans s (Lib.spansFromP (· == 32) s f pos st acc)) = cutsOf s acc ++ wds ((s.data.toList.drop (st.getD pos)).take (pos - st.getD pos)) (s.data.toList.drop pos) := by
  intro f
  induction f with
  | zero =>
    intro pos st acc hp hf hst
    have hpe : pos = s.data.toList.length := by omega
    subst hpe
    rw [List.drop_length]
    cases st with
    | none => simp [Lib.spansFromP, Lib.closeSpans, wds_end]
    | some a =>
      have ha := hst a rfl
      have hl := slice_len s.data.toList a _ (by omega) (Nat.le_refl _)
      simp only [Lib.spansFromP, Lib.closeSpans, wds_end, Option.getD_some, hl, cutsOf, List.map_append, List.map_cons, List.map_nil]
      rw [if_pos (by omega), extract_slice, ← Lib.size_eq]
  | succ f ih =>
    intro pos st acc hp hf hst
    by_cases hlt : pos < s.data.toList.length
    · have hlt' : pos < s.size := by rw [Lib.size_eq]; exact hlt
      simp only [Lib.spansFromP]
      rw [if_pos hlt']
      have hd : s.data.toList.drop pos = s.data.toList[pos] :: s.data.toList.drop (pos + 1) := List.drop_eq_getElem_cons hlt
      have hg := get!_list s pos hlt
      by_cases hb : s.get! pos = 32
      · rw [decode_blank s pos hb]
        simp only [beq_self_eq_true, if_true]
        rw [hd, ← hg, hb, wds_hit]
        cases st with
        | none =>
          simp only [Option.getD_none, Nat.sub_self, List.take_zero, List.length_nil]
          rw [ih (pos + 1) none acc (by omega) (by omega) (by simp)]
          simp
        | some a =>
          have ha := hst a rfl
          simp only [Option.getD_some]
          rw [ih (pos + 1) none _ (by omega) (by omega) (by simp), slice_len _ a pos (by omega) (by omega), if_pos (by omega)]
          simp [cutsOf, extract_slice]
      · obtain ⟨h1, h2, h3, h4⟩ := decode_other s pos hlt hb
        have h1' : ((Utf8.decode s pos).1 == 32) = false := by simpa using h1
        rw [if_neg (by rw [h1']; decide)]
        cases st with
        | none =>
          simp only
          rw [ih _ (some pos) acc h3 (by omega) (by intro a e; simp only [Option.some.injEq] at e; omega)]
          simp only [Option.getD_some, Option.getD_none]
          rw [← wds_skip _ pos _ pos (Nat.le_refl _) h3 h4]
        | some a =>
          have ha := hst a rfl
          simp only
          rw [ih _ (some a) acc h3 (by omega) (by intro a' e; simp only [Option.some.injEq] at e; omega)]
          simp only [Option.getD_some]
          rw [← wds_skip _ a _ pos (by omega) h3 h4]
    · have hpe : pos = s.data.toList.length := by omega
      have hns : ¬ pos < s.size := by rw [Lib.size_eq]; exact hlt
      rw [Lib.spansFromP_end _ _ _ _ _ _ hns]
      subst hpe
      rw [List.drop_length]
      cases st with
      | none => simp [Lib.closeSpans, wds_end]
      | some a =>
        have ha := hst a rfl
        have hl := slice_len s.data.toList a _ (by omega) (Nat.le_refl _)
        simp only [Lib.closeSpans, wds_end, Option.getD_some, hl, cutsOf, List.map_append, List.map_cons, List.map_nil]
        rw [if_pos (by omega), extract_slice, ← Lib.size_eq]
theorem wordsS_eq (s : ByteArray) : wordsS s = wds [] s.data.toList := by
  have := spans_words s s.size 0 none [] (by omega) (by rw [Lib.size_eq]; omega) (by simp)
  exact this

theorem Words_l1 (s : ByteArray) (hs : s.size ≤ 4294967296) : ∀ (d k i a : Nat) (acc : List ByteArray), i + d = s.data.toList.length → 2 * d + 4 ≤ k → a ≤ i → acc.length ≤ i →
    castellanref14_Words.l1 k s acc (a : Int) (i : Int) = some (acc ++ wds ((s.data.toList.drop a).take (i - a)) (s.data.toList.drop i)) := by
  intro d
  have hsz := Lib.size_eq s
  induction d with
  | zero =>
    intro k i a acc hi hk ha hc
    obtain ⟨k, rfl⟩ : ∃ m, k = m + 2 := ⟨k - 2, by omega⟩
    have e2 := w_succ i (by omega)
    have hd : s.data.toList.drop i = [] := List.drop_of_length_le (by omega)
    simp only [castellanref14_Words.l1]
    rw [if_neg (by omega), hd, wds_end, slice_len _ a i ha (by omega)]
    by_cases h : a < i
    · rw [if_pos (by omega), if_pos (by omega), if_pos (by omega), if_pos (by omega), if_pos (by omega), e2]
      simp only [castellanref14_Words.l0]
      rw [if_neg (by omega), if_pos (by omega), extract_slice]
      rfl
    · rw [if_neg (by omega), e2]
      simp only [castellanref14_Words.l0]
      rw [if_neg (by omega), if_neg (by omega), List.append_nil]
  | succ d ih =>
    intro k i a acc hi hk ha hc
    obtain ⟨k, rfl⟩ : ∃ m, k = m + 2 := ⟨k - 2, by omega⟩
    have e2 := w_succ i (by omega)
    have hlt : i < s.data.toList.length := by omega
    have hd := drop_at hlt
    have hb := bt_get s i
    have hsl := slice_more s.data.toList a i ha hlt
    have hgi : s.data.toList[i] = s.data.toList[i]?.getD 0 := by rw [List.getElem?_eq_getElem hlt]; rfl
    rw [hgi] at hsl
    generalize s.data.toList[i]?.getD 0 = b at *
    have next : ∀ acc2 : List ByteArray, acc2.length ≤ i + 1 → castellanref14_Words.l0 (k + 1) s acc2 ((i + 1 : Nat) : Int) = some (acc2 ++ wds [] (s.data.toList.drop (i + 1))) := by
      intro acc2 h2
      simp only [castellanref14_Words.l0]
      by_cases hl : i + 1 < s.data.toList.length
      · rw [if_pos (by omega), ih k (i + 1) (i + 1) acc2 (by omega) (by omega) (by omega) h2, Nat.sub_self, List.take_zero]
      · rw [if_neg (by omega), List.drop_of_length_le (by omega), wds_end]
        simp
    simp only [castellanref14_Words.l1]
    rw [if_pos (by omega), if_pos (by omega), hb, e2, hd]
    by_cases hq : b = 32
    · subst hq
      rw [if_pos (by decide), wds_hit, slice_len _ a i ha (by omega)]
      by_cases h : a < i
      · rw [if_pos (by omega), if_pos (by omega), if_pos (by omega), if_pos (by omega), if_pos (by omega), next _ (by simp; omega), if_pos (by omega), Int.toNat_natCast, Int.toNat_natCast, extract_slice]
        simp
      · rw [if_neg (by omega), next _ (by omega), if_neg (by omega), List.nil_append]
    · have h32 : (32 : UInt8).toNat = 32 := rfl
      rw [if_neg (by intro e; exact hq (UInt8.toNat_inj.1 (by omega))), wds_miss hq, ← hsl]
      exact ih (k + 1) (i + 1) a acc (by omega) (by omega) (by omega) (by omega)
theorem Words_eq (k : Nat) (s : ByteArray) (hs : s.size ≤ 4294967296) (hk : 2 * s.size + 6 ≤ k) : castellanref14_Words.f k s = some (wordsS s) := by
  obtain ⟨k, rfl⟩ : ∃ m, k = m + 1 := ⟨k - 1, by omega⟩
  have hsz := Lib.size_eq s
  unfold castellanref14_Words.f
  simp only [castellanref14_Words.l0]
  by_cases h : 0 < s.data.toList.length
  · have := Words_l1 s hs s.data.toList.length k 0 0 [] (by omega) (by omega) (by omega) (by simp)
    rw [if_pos (by omega), wordsS_eq]
    simpa using this
  · rw [if_neg (by omega), wordsS_eq, List.eq_nil_of_length_eq_zero (l := s.data.toList) (by omega), wds_end]
    rfl
theorem rwords_calls (s : ByteArray) (w : World) (hs : s.size ≤ 4294967280) :
    Calls Tryz.prog 20 #[.string s] w fun e w' => ∃ A n, e = .returned (.slice A (wordsS s).length n) ∧ Strs w' A n (wordsS s) ∧ Grows w w' := by
  refine (castellanref14_Words.calls (2 * s.size + 6) s _ w (Words_eq _ s (by omega) (by omega))).mono ?_
  rintro e w' ⟨v, rfl, hR, hb⟩
  obtain ⟨inner, ho⟩ := Kd.R_own hR
  obtain ⟨A, n, rfl, hl, hC⟩ := Kd.R_reads hR
  refine ⟨A, n, rfl, ⟨hl, ?_, fun hne => ?_⟩, hb⟩
  · rcases ho.2 with ⟨h1, h2⟩ | ⟨g, cap, cur, h1, hg, hh, h2, h3, _⟩
    · injection h1 with _ _ h1
      omega
    · injection h1 with _ _ h1
      simp only [maxLen] at h3
      omega
  · obtain ⟨ad, he, hc⟩ := hC.2.2 (by cases hw : wordsS s with | nil => exact absurd hw hne | cons x l => simp)
    rcases ho.2 with ⟨h1, h2⟩ | ⟨g, cap, cur, h1, hg, hh, _⟩
    · exact absurd (List.eq_nil_of_length_eq_zero h2) hne
    · injection h1 with h1 _ _
      refine ⟨g, 0, h1, fun j x hx => ?_⟩
      obtain ⟨cs, h5, h6, h7⟩ := hc j x hx
      obtain rfl : cs = [.string x] := h6
      have := h7 0 _ rfl
      have e1 : ad = ⟨g, 0, none⟩ := by rw [h1] at he; simpa using he.symm
      rw [e1] at this
      have e0 : Kd.string.sz = 1 := rfl
      rw [e0, Nat.mul_one, Nat.add_zero] at this
      rw [Nat.zero_add]
      rw [add_plain] at this
      exact this
theorem words_small (s : ByteArray) (hs : s.size ≤ 4294967280) : ∀ x ∈ wordsS s, x.size < 4294967281 := by
  intro x hx
  simp only [wordsS, Lib.goFieldsP, List.mem_map] at hx
  obtain ⟨p, _, rfl⟩ := hx
  rw [ByteArray.size_extract]
  omega
end Go.Proofs.YtomkohdlaednhaaGreatDoor
