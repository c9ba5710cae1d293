import Derived.Test.YtomkohdlaednhaaGreatDoorT
import Derived.Test.YtomkohdlaednhaaGreatDoorE
set_option linter.unusedSimpArgs false
set_option linter.unusedVariables false
namespace Go.Proofs.YtomkohdlaednhaaGreatDoor
open Go.RowKit Go.Proofs.YtomkohdlaednhaaGreatDoorW.PrintWords PConfParses

theorem fold_low : ∀ (l : List UInt8) (a : Nat), a * 10 ^ l.length ≤ l.foldl digF a
  | [], a => by simp
  | b :: l, a => by
    simp only [List.foldl_cons, List.length_cons, Nat.pow_succ]
    refine Nat.le_trans ?_ (fold_low l (digF a b))
    rw [Nat.mul_comm (10 ^ l.length), ← Nat.mul_assoc]
    exact Nat.mul_le_mul_right _ (by show a * 10 ≤ a * 10 + _; omega)
/-- Four digits and more are a thousand and more. -/
theorem decN_big {s : ByteArray} (h9 : numOk 9 s = true) (h3 : numOk 3 s = false) : 1000 ≤ decN s.data.toList := by
  simp only [numOk, Bool.and_eq_true, decide_eq_true_eq] at h9
  obtain ⟨⟨⟨h1, h2⟩, h4⟩, h5⟩ := h9
  have hs : 4 ≤ s.size := by
    rcases Nat.lt_or_ge s.size 4 with h | h
    · exfalso
      have : (1 ≤ s.size ∧ s.size ≤ 3) := ⟨h1, by omega⟩
      simp [numOk, this, h4, h5] at h3
    · exact h
  rw [Lib.size_eq] at hs
  cases hl : s.data.toList with
  | nil => simp [hl] at hs
  | cons b l =>
    rw [hl] at hs h4 h5
    have hb : b ≠ 48 := by
      rintro rfl
      have : (1 : Nat) < s.size := by rw [Lib.size_eq, hl]; simp at hs ⊢; omega
      simp [this] at h4
    have hd : 48 ≤ b.toNat := by
      simp only [List.all_cons, Bool.and_eq_true, isDig, decide_eq_true_eq] at h5
      exact h5.1.1
    have hb' : 1 ≤ b.toNat - 48 := by
      have : b.toNat ≠ 48 := fun e => hb (UInt8.toNat_inj.1 (by simpa using e))
      omega
    have := fold_low l (digF 0 b)
    have e : decN (b :: l) = l.foldl digF (digF 0 b) := rfl
    rw [e]
    refine Nat.le_trans ?_ this
    have h3' : 10 ^ 3 ≤ 10 ^ l.length := Nat.pow_le_pow_right (by omega) (by simp at hs; omega)
    calc 1000 = 1 * 10 ^ 3 := by decide
      _ ≤ digF 0 b * 10 ^ l.length := Nat.mul_le_mul (by show 1 ≤ 0 * 10 + (b.toNat - 48); omega) h3'
theorem numOk_39 {s : ByteArray} (h : numOk 3 s = true) : numOk 9 s = true := by
  simp only [numOk, Bool.and_eq_true, decide_eq_true_eq] at h ⊢
  exact ⟨⟨⟨h.1.1.1, by omega⟩, h.1.2⟩, h.2⟩
theorem numR_same (m : Int) (hm : m ≤ 255) (s : ByteArray) : (numR 9 m s).2 = (numR 3 m s).2 ∧ ((numR 3 m s).2 = true → (numR 9 m s).1 = (numR 3 m s).1) := by
  cases h3 : numOk 3 s with
  | true => simp [numR, h3, numOk_39 h3]
  | false =>
    cases h9 : numOk 9 s with
    | false => simp [numR, h3, h9]
    | true =>
      have := decN_big h9 h3
      have hn : ¬ ((decN s.data.toList : Int) ≤ m) := by omega
      simp [numR, h3, h9, hn]
theorem rdOf_get (L : List ByteArray) (i : Nat) (h : i < L.length) : rdOf ByteArray.empty L (i : Int) = L[i] := by
  simp [rdOf, List.getD_eq_getElem?_getD, List.getElem?_eq_getElem h]
theorem parse_l0 (L : List ByteArray) (h4 : L.length = 4) : ∀ (d k i : Nat) (a : Int), i + d = 4 → d + 12 < k → castellanref3_Parse.l0 k L a (i : Int) = some (octs (L.drop i) a) := by
  intro d
  induction d with
  | zero =>
    intro k i a hi hk
    obtain ⟨k, rfl⟩ : ∃ m, k = m + 1 := ⟨k - 1, by omega⟩
    simp only [castellanref3_Parse.l0]
    rw [if_neg (by omega), List.drop_of_length_le (by omega)]
    rfl
  | succ d ih =>
    intro k i a hi hk
    obtain ⟨k, rfl⟩ : ∃ m, k = m + 1 := ⟨k - 1, by omega⟩
    have hlt : i < L.length := by omega
    have hd : L.drop i = L[i] :: L.drop (i + 1) := List.drop_eq_getElem_cons hlt
    have e2 := w_succ i (by omega)
    simp only [castellanref3_Parse.l0]
    rw [if_pos (by omega), if_pos (by omega), if_pos (by omega), rdOf_get L i hlt, Num_eq k (by omega), Option.bind_some, hd, octs]
    obtain ⟨h1, h2⟩ := numR_same 255 (by omega) L[i]
    rw [h1]
    by_cases hq : (numR 3 255 L[i]).2 = true
    · rw [if_pos hq, if_pos hq, e2, ih k (i + 1) _ (by omega) (by omega), h2 hq]
    · rw [if_neg hq, if_neg hq]
theorem Parse_eq (k : Nat) (s : ByteArray) (hs : s.size ≤ 4294967296) (hk : s.size + 20 < k) : castellanref3_Parse.f k s = some (addrR s) := by
  unfold castellanref3_Parse.f
  have h46 : ((46 : UInt8).toNat : Int) = 46 := rfl
  rw [← h46, Split_eq k s 46 hs (by omega), Option.bind_some, addrR, show parts dotS s = splitS 46 s from parts_eq 46 s]
  by_cases h4 : (splitS 46 s).length = 4
  · rw [if_pos (by omega), if_pos h4]
    exact parse_l0 _ h4 4 k 0 0 (by omega) (by omega)
  · rw [if_neg (by omega), if_neg h4]

theorem octs_err : ∀ (L : List ByteArray) (a : Int), (octs L a).2 = 0 ∨ octs L a = (0, 2)
  | [], a => .inl rfl
  | x :: l, a => by
    rw [octs]
    split
    · exact octs_err l _
    · exact .inr rfl
theorem addrR_err (s : ByteArray) : (addrR s).2 = 0 ∨ addrR s = (0, 2) := by
  unfold addrR
  split
  · exact octs_err _ _
  · exact .inr rfl
theorem index_mem (c : UInt8) : ∀ l, Lib.index l [c] ≠ -1 → c ∈ l
  | [], h => by simp [Lib.index] at h
  | b :: l, h => by
    rw [index_one] at h
    by_cases hb : b = c
    · simp [hb]
    · rw [if_neg hb] at h
      have : Lib.index l [c] ≠ -1 := by
        intro e
        simp [e] at h
      exact List.mem_cons_of_mem _ (index_mem c l this)
theorem cut_none (c : UInt8) (s : ByteArray) (h : Lib.index s.data.toList [c] = -1) : cutS s ⟨#[c]⟩ = (s, ⟨#[]⟩, false) ∧ splitS c s = [s] := by
  constructor
  · have h' : Lib.index s.data.toList (⟨#[c]⟩ : ByteArray).data.toList = -1 := h
    simp only [cutS, Lib.cut]
    rw [h', if_neg (by omega)]
  · rw [splitS, spl_none c _ h]
    simp [mkB_eta]
theorem cut_some (c : UInt8) (s : ByteArray) (i : Nat) (h : Lib.index s.data.toList [c] = i) :
    cutS s ⟨#[c]⟩ = (mkB (s.data.toList.take i), mkB (s.data.toList.drop (i + 1)), true) ∧ splitS c s = mkB (s.data.toList.take i) :: splitS c (mkB (s.data.toList.drop (i + 1))) := by
  constructor
  · have h' : Lib.index s.data.toList (⟨#[c]⟩ : ByteArray).data.toList = i := h
    have h1 : (⟨#[c]⟩ : ByteArray).data.toList.length = 1 := rfl
    simp only [cutS, Lib.cut]
    rw [h', if_pos (by omega), h1]
    rfl
  · rw [splitS, spl_some c _ i h]
    rfl
theorem num_not_slash {k : Nat} {m : Int} {s : ByteArray} {c : UInt8} (hc : isDig c = false) (h : Lib.index s.data.toList [c] ≠ -1) : numR k m s = (0, false) := by
  have hm := index_mem c _ h
  have : s.data.toList.all isDig = false := by
    rw [List.all_eq_false]
    exact ⟨c, hm, by simp [hc]⟩
  rw [numR, if_neg (by rw [numOk_other this]; decide)]
theorem ParsePrefix_eq (k : Nat) (s : ByteArray) (hs : s.size ≤ 4294967296) (hk : s.size + 30 < k) : castellanref3_ParsePrefix.f k s = some (pfxR s) := by
  unfold castellanref3_ParsePrefix.f
  have h47 : ((47 : UInt8).toNat : Int) = 47 := rfl
  rw [← h47, Split_eq k s 47 hs (by omega), Option.bind_some]
  by_cases hi : Lib.index s.data.toList [47] = -1
  · obtain ⟨hc, hl⟩ := cut_none 47 s hi
    have hc' : cutS s slashS = (s, ⟨#[]⟩, false) := hc
    rw [hl]
    have e0 : rdOf ByteArray.empty [s] 0 = s := rfl
    have e2 : (([s] : List ByteArray).length : Int) = 1 := rfl
    have e3 : pfxR s = if (addrR s).2 ≠ 0 then (0, 0, (addrR s).2) else ((addrR s).1, 32, 0) := by
      rw [pfxR, hc']
      rfl
    rw [e2, if_neg (by decide), if_pos (by decide), e0, Parse_eq k s hs (by omega), Option.bind_some, if_neg (by decide), e3]
    rcases addrR_err s with h | h
    · rw [if_pos h, if_neg (by rw [h]; decide)]
    · rw [if_neg (by rw [h]; decide), if_pos (by rw [h]; decide), h]
  · have hl := index_low 47 s.data.toList
    obtain ⟨i, hii⟩ := Int.eq_ofNat_of_zero_le (show 0 ≤ Lib.index s.data.toList [47] by omega)
    obtain ⟨hc, hsp⟩ := cut_some 47 s i hii
    have hc' : cutS s slashS = (mkB (s.data.toList.take i), mkB (s.data.toList.drop (i + 1)), true) := hc
    have hlen : (mkB (s.data.toList.take i)).size ≤ s.size := by
      rw [Lib.size_eq, mkB_data, Lib.size_eq s, List.length_take]; omega
    have e3 : pfxR s = if (numR 3 32 (mkB (s.data.toList.drop (i + 1)))).2 = false then (0, 0, 2) else if (addrR (mkB (s.data.toList.take i))).2 ≠ 0 then (0, 0, (addrR (mkB (s.data.toList.take i))).2) else ((addrR (mkB (s.data.toList.take i))).1, (numR 3 32 (mkB (s.data.toList.drop (i + 1)))).1, 0) := by
      rw [pfxR, hc']
      simp
    rw [hsp, e3]
    clear e3
    generalize mkB (s.data.toList.take i) = f at *
    generalize mkB (s.data.toList.drop (i + 1)) = r at *
    by_cases hj : Lib.index r.data.toList [47] = -1
    · obtain ⟨_, hl2⟩ := cut_none 47 r hj
      rw [hl2]
      have e0 : rdOf ByteArray.empty [f, r] 0 = f := rfl
      have e1 : rdOf ByteArray.empty [f, r] 1 = r := rfl
      obtain ⟨n1, n2⟩ := numR_same 32 (by omega) r
      have e2 : (([f, r] : List ByteArray).length : Int) = 2 := rfl
      rw [e2, if_pos rfl, if_pos (by decide), e1, Num_eq k (by omega), Option.bind_some, if_pos (by decide), e0, Parse_eq k f (by omega) (by omega), Option.bind_some, if_neg (by decide), n1]
      cases hq : (numR 3 32 r).2 with
      | false => rw [if_neg (by decide), if_pos rfl]
      | true =>
        have ha : ∀ {α : Type} (x y : α), (if (true = false) then x else y) = y := fun _ _ => rfl
        rw [if_pos rfl, n2 hq, ha]
        rcases addrR_err f with h | h
        · rw [if_pos h, if_neg (by rw [h]; decide)]
        · rw [if_neg (by rw [h]; decide), if_pos (by rw [h]; decide), h]
    · have hl2 := index_low 47 r.data.toList
      obtain ⟨j, hjj⟩ := Int.eq_ofNat_of_zero_le (show 0 ≤ Lib.index r.data.toList [47] by omega)
      obtain ⟨_, hsp2⟩ := cut_some 47 r j hjj
      have hn : (numR 3 32 r).2 = false := by rw [num_not_slash (by decide) hj]
      rw [if_pos hn]
      rw [hsp2]
      generalize mkB (r.data.toList.take j) = f2 at *
      cases h3 : splitS 47 (mkB (r.data.toList.drop (j + 1))) with
      | nil =>
        exfalso
        have := spl_ne 47 (mkB (r.data.toList.drop (j + 1))).data.toList
        simp [splitS] at h3
        exact this h3
      | cons x t =>
        have e0 : rdOf ByteArray.empty (f :: f2 :: x :: t) 0 = f := rfl
        have e2 : (((f :: f2 :: x :: t : List ByteArray).length : Nat) : Int) = (t.length : Int) + 3 := by simp; omega
        rw [e2, if_neg (by omega), if_pos (by omega), e0, Parse_eq k f (by omega) (by omega), Option.bind_some, if_pos (by omega)]
theorem rpfx_calls (s : ByteArray) (w : World) (hs : s.size ≤ 4294967296) :
    Calls Tryz.prog 85 #[.string s] w fun e w' => e = .returned (.tuple #[.agg #[.int .u32 (pfxR s).1, .int .i64 (pfxR s).2.1], .int .i64 (pfxR s).2.2]) ∧ Grows w w' :=
  castellanref3_ParsePrefix.calls (s.size + 31) s _ _ _ w (ParsePrefix_eq _ s hs (by omega))
theorem raddr_calls (s : ByteArray) (w : World) (hs : s.size ≤ 4294967296) :
    Calls Tryz.prog 134 #[.string s] w fun e w' => e = .returned (.tuple #[.int .u32 (addrR s).1, .int .i64 (addrR s).2]) ∧ Grows w w' :=
  castellanref3_Parse.calls (s.size + 21) s _ _ w (Parse_eq _ s hs (by omega))
end Go.Proofs.YtomkohdlaednhaaGreatDoor
