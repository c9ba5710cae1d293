import Derived.Test.YtomkohdlaednhaaGreatDoorAI
set_option linter.unusedSimpArgs false
set_option linter.unusedVariables false
namespace Go.Proofs.YtomkohdlaednhaaGreatDoor
open Go.RowKit Go.Proofs.YtomkohdlaednhaaGreatDoorW.PrintWords PConfParses

/-! ### a rule that may be: its words are words, and short -/
def Okw (x : ByteArray) : Prop := IsWd x ∧ x.size ≤ 100
theorem okw_list (l : List UInt8) (h1 : l ≠ []) (h2 : (32 : UInt8) ∉ l) (h3 : l.length ≤ 100) : Okw (mkB l) := ⟨⟨h1, h2⟩, by rw [mkB_size]; exact h3⟩
theorem okw_lits : ∀ y ∈ [passW, blockW, returnW, quickW, onW, protoW, fromW, toW, flagsW, typeW, keepW, routeW, replyW, tableW, portS, anyS], Okw y := by
  have h : ∀ y ∈ [passW, blockW, returnW, quickW, onW, protoW, fromW, toW, flagsW, typeW, keepW, routeW, replyW, tableW, portS, anyS], y.data.toList ≠ [] ∧ (32 : UInt8) ∉ y.data.toList ∧ y.size ≤ 100 := by
    simp only [List.forall_mem_cons]
    refine ⟨by decide, by decide, by decide, by decide, by decide, by decide, by decide, by decide, by decide, by decide, by decide, by decide, by decide, by decide, by decide, by decide, by simp⟩
  intro y hy
  obtain ⟨a, b, c⟩ := h y hy
  exact ⟨⟨a, b⟩, c⟩
theorem name_ok {s : ByteArray} (h : nameB s = true) : Okw s ∧ s.size ≤ 8 := by
  simp only [nameB, Bool.and_eq_true, decide_eq_true_eq] at h
  refine ⟨⟨⟨?_, ?_⟩, by omega⟩, by omega⟩
  · intro e
    have := h.1.1
    rw [Lib.size_eq, e] at this
    simp at this
  · intro hm
    have := List.all_eq_true.1 h.2 32 hm
    exact absurd this (by decide)
theorem dec_ok (u : Nat) (k : Nat) (hk : 1 ≤ k) (h : u < 10 ^ k) (h2 : k ≤ 100) : Okw (mkB (Lib.decDigits u)) :=
  okw_list _ (dec_ne u) (dec_not 32 (by decide) u) (by have := dec_len k u hk h; omega)
theorem addr_ne (a : Int) : addrL a ≠ [] := by
  obtain ⟨c, l, h, _⟩ := addr_head a
  rw [h]; simp
theorem addr_ok (a : Int) : Okw (addrP a) := okw_list _ (addr_ne a) (addr_not 32 (by decide) (by decide) a) (by have := addr_len a; omega)
theorem head_ok (s : SideV) (h : adB s = true) : Okw (headP s) := by
  unfold adB at h
  unfold headP
  cases ht : emptyB s.table with
  | true =>
    rw [ht] at h
    cases hn : s.any with
    | true =>
      simp only [if_true]
      exact okw_lits _ (by simp)
    | false =>
      rw [hn] at h
      simp only [Bool.false_eq_true, if_false, if_true] at h ⊢
      have hl := pfxB_len h
      obtain ⟨u, hu⟩ := Int.eq_ofNat_of_zero_le hl.1
      rw [pfxP, if_neg (by omega), pfxL, hu, Lib.itoa_nonneg]
      refine okw_list _ (by simp) ?_ ?_
      · simp only [List.mem_append, List.mem_cons, not_or]
        exact ⟨addr_not 32 (by decide) (by decide) _, by decide, dec_not 32 (by decide) _⟩
      · have := addr_len s.addr
        have := dec_len 2 u (by omega) (by omega)
        simp only [List.length_append, List.length_cons]; omega
  | false =>
    rw [ht] at h
    have hn : s.any = false := by
      cases hq : s.any with
      | true => rw [hq] at h; simp at h
      | false => rfl
    rw [hn] at h
    simp only [Bool.false_eq_true, if_false, Bool.and_eq_true] at h ⊢
    obtain ⟨⟨⟨_, b⟩, _⟩, c⟩ := name_ok h.1
    rw [Lib.size_eq] at c
    refine okw_list _ (by simp) ?_ ?_
    · simp only [List.mem_append, List.mem_cons, not_or, List.not_mem_nil, not_false_eq_true, and_true]
      exact ⟨by decide, b, by decide⟩
    · simp only [List.length_append, List.length_cons, List.length_nil]; omega
theorem range_ok (s : SideV) (p : Int) (h : portsB s p = true) : Okw (rangeP s) := by
  simp only [portsB, Bool.and_eq_true, decide_eq_true_eq] at h
  obtain ⟨⟨⟨h1, h2⟩, h3⟩, -⟩ := h
  obtain ⟨u, hu⟩ := Int.eq_ofNat_of_zero_le h1
  obtain ⟨v, hv⟩ := Int.eq_ofNat_of_zero_le (Int.le_trans h1 h2)
  have l1 := dec_len 5 u (by omega) (by omega)
  have l2 := dec_len 5 v (by omega) (by omega)
  rw [rangeP, rangeL, hu, hv, Lib.itoa_nonneg, Lib.itoa_nonneg]
  split
  · refine okw_list _ (by simp) ?_ ?_
    · simp only [List.mem_append, List.mem_cons, not_or]
      exact ⟨dec_not 32 (by decide) _, by decide, dec_not 32 (by decide) _⟩
    · simp only [List.length_append, List.length_cons]; omega
  · rw [List.append_nil]
    exact dec_ok u 5 (by omega) (by omega) (by omega)
theorem side_words (s : SideV) (p : Int) (h : sideB s p = true) : ∀ x ∈ sideT s, Okw x := by
  rw [sideB_ad, Bool.and_eq_true] at h
  intro x hx
  rw [sideT, List.mem_cons] at hx
  rcases hx with rfl | hx
  · exact head_ok s h.1
  · have := mem_opt hx
    simp only [List.mem_cons, List.not_mem_nil, or_false] at this
    rcases this with rfl | rfl
    · exact okw_lits _ (by simp)
    · exact range_ok s p h.2
theorem proto_ok : ∀ n : Fin 256, (protoS (n.val : Int)).data.toList ≠ [] ∧ (32 : UInt8) ∉ (protoS (n.val : Int)).data.toList ∧ (protoS (n.val : Int)).size ≤ 100 := by decide +kernel
theorem flags_ok : ∀ n : Fin 64, (flagsS (n.val : Int)).data.toList ≠ [] ∧ (32 : UInt8) ∉ (flagsS (n.val : Int)).data.toList ∧ (flagsS (n.val : Int)).data.toList.length ≤ 6 := by decide +kernel
theorem flagsP_ok (r : RuleV) (h : IsR r) : Okw (flagsP r) := by
  obtain ⟨u, hu⟩ := Int.eq_ofNat_of_zero_le h.set.1
  obtain ⟨v, hv⟩ := Int.eq_ofNat_of_zero_le h.mask.1
  have a := flags_ok ⟨u, by have := h.set.2; omega⟩
  have b := flags_ok ⟨v, by have := h.mask.2; omega⟩
  simp only at a b
  rw [flagsP, hu, hv]
  refine okw_list _ (by simp) ?_ ?_
  · simp only [List.mem_append, List.mem_cons, not_or]
    exact ⟨a.2.1, by decide, b.2.1⟩
  · simp only [List.length_append, List.length_cons]; omega
theorem toks_ok (r : RuleV) (h : isB r = true) (hR : IsR r) : ∀ x ∈ toks r, Okw x := by
  simp only [isB, Bool.and_eq_true, decide_eq_true_eq] at h
  obtain ⟨⟨⟨⟨⟨⟨⟨⟨⟨hpr, hps⟩, hon⟩, hlk⟩, hsrc⟩, hdst⟩, hro⟩, hre⟩, b0⟩, b1⟩ := h
  have lit : ∀ y ∈ [passW, blockW, returnW, quickW, onW, protoW, fromW, toW, flagsW, typeW, keepW, routeW, replyW, tableW, portS, anyS], Okw y := okw_lits
  have hdec : ∀ z : Int, 0 ≤ z → z ≤ 255 → Okw (itoaS z) := fun z h0 h1 => by
    obtain ⟨u, rfl⟩ := Int.eq_ofNat_of_zero_le h0
    rw [itoaS_nat]
    exact dec_ok u 3 (by omega) (by omega) (by omega)
  have hpin : ∀ p : PinV, pinB p = true → p.on = true → Okw p.iface := fun p h1 h2 => by
    simp only [pinB, h2, Bool.true_and, Bool.not_true, Bool.false_and, Bool.or_false] at h1
    exact (name_ok h1).1
  intro x hx
  simp only [toks, t3, t4, t5, t6, t7, t8, t9, t10, t11, t12, t13, t14, t15, t16, List.mem_cons, List.mem_append] at hx
  rcases hx with hx | hx | hx | hx | hx | hx | hx | hx | hx | hx | hx | hx | hx | hx | hx
  · subst hx
    split
    · exact lit _ (by simp)
    · exact lit _ (by simp)
  · have := mem_opt hx
    simp only [List.mem_singleton] at this
    subst this; exact lit _ (by simp)
  · have := mem_opt hx
    simp only [List.mem_singleton] at this
    subst this; exact lit _ (by simp)
  · by_cases he : emptyB r.on = true
    · rw [he] at hx; simp [opt] at hx
    · have := mem_opt hx
      simp only [List.mem_cons, List.not_mem_nil, or_false] at this
      rcases this with rfl | rfl
      · exact lit _ (by simp)
      · rw [Bool.or_eq_true] at hon
        rcases hon with e | e
        · exact absurd e he
        · exact (name_ok e).1
  · have := mem_opt hx
    simp only [List.mem_cons, List.not_mem_nil, or_false] at this
    rcases this with rfl | rfl
    · exact lit _ (by simp)
    · obtain ⟨u, hu⟩ := Int.eq_ofNat_of_zero_le hR.proto.1
      have a := proto_ok ⟨u, by have := hR.proto.2; omega⟩
      rw [hu]
      exact ⟨⟨a.1, a.2.1⟩, a.2.2⟩
  · subst hx; exact lit _ (by simp)
  · exact side_words _ _ hsrc x hx
  · subst hx; exact lit _ (by simp)
  · exact side_words _ _ hdst x hx
  · have := mem_opt hx
    simp only [List.mem_cons, List.not_mem_nil, or_false] at this
    rcases this with rfl | rfl
    · exact lit _ (by simp)
    · exact flagsP_ok r hR
  · by_cases hz : r.type = -1
    · simp [opt, hz] at hx
    · have := mem_opt hx
      simp only [List.mem_cons, List.not_mem_nil, or_false] at this
      rcases this with rfl | rfl
      · exact lit _ (by simp)
      · exact hdec _ (by have := hR.type.1; omega) hR.type.2
  · have := mem_opt hx
    simp only [List.mem_singleton] at this
    subst this; exact lit _ (by simp)
  · cases ho : r.route.on with
    | false => rw [ho] at hx; simp [opt] at hx
    | true =>
      have := mem_opt hx
      simp only [List.mem_cons, List.not_mem_nil, or_false] at this
      rcases this with rfl | rfl | rfl
      · exact lit _ (by simp)
      · exact hpin _ hro ho
      · exact addr_ok _
  · cases ho : r.reply.on with
    | false => rw [ho] at hx; simp [opt] at hx
    | true =>
      have := mem_opt hx
      simp only [List.mem_cons, List.not_mem_nil, or_false] at this
      rcases this with rfl | rfl | rfl
      · exact lit _ (by simp)
      · exact hpin _ hre ho
      · exact addr_ok _
  · have := mem_opt hx
    simp only [List.mem_cons, List.not_mem_nil, or_false] at this
    rcases this with rfl | rfl
    · exact lit _ (by simp)
    · exact hdec _ hR.table.1 (by have := hR.table.2; omega)
theorem side_count (s : SideV) : (sideT s).length ≤ 3 := by
  have := len_opt (!allPorts s) [portS, rangeP s]
  simp only [sideT, portsT, List.length_cons, List.length_nil] at *; omega
theorem toks_count (r : RuleV) : (toks r).length ≤ 40 := by
  have a1 := len_opt r.ret [returnW]
  have a2 := len_opt r.quick [quickW]
  have a3 := len_opt (!emptyB r.on) [onW, r.on]
  have a4 := len_opt (!(r.proto == 0)) [protoW, protoS r.proto]
  have a5 := side_count r.src
  have a6 := side_count r.dst
  have a7 := len_opt (!(r.mask == 0)) [flagsW, flagsP r]
  have a8 := len_opt (!(r.type == -1)) [typeW, itoaS r.type]
  have a9 := len_opt r.keep [keepW]
  have a10 := len_opt r.route.on [routeW, r.route.iface, addrP r.route.gate]
  have a11 := len_opt r.reply.on [replyW, r.reply.iface, addrP r.reply.gate]
  have a12 := len_opt (!(r.table == 0)) [tableW, itoaS r.table]
  simp only [toks, t3, t4, t5, t6, t7, t8, t9, t10, t11, t12, t13, t14, t15, t16, List.length_cons, List.length_append, List.length_nil] at *
  omega
theorem text_size (r : RuleV) (h : isB r = true) (hR : IsR r) : (textOf (toks r)).size ≤ 4100 := by
  rw [textOf, mkB_size]
  have h1 := join_len (datas (toks r)) 100 (fun x hx => by
    obtain ⟨y, hy, rfl⟩ := List.mem_map.1 hx
    have := (toks_ok r h hR y hy).2
    rw [Lib.size_eq] at this
    exact this)
  have h2 := toks_count r
  have h3 : (datas (toks r)).length = (toks r).length := by simp [datas]
  rw [h3] at h1
  have : (toks r).length * (100 + 1) ≤ 40 * (100 + 1) := Nat.mul_le_mul_right _ h2
  omega
/-- A rule that may be, printed and parsed, is it. -/
theorem print_back (r : RuleV) (h : isB r = true) (hk : Kinds r) (hs : -9223372036854775808 ≤ r.set ∧ r.set ≤ 9223372036854775807) : ruleOf (wordsS (printR r)) = (r, 0) := by
  have hR := isB_R h hk hs.1 hs.2
  rw [printR, h, if_pos rfl, words_text _ (fun x hx => (toks_ok r h hR x hx).1)]
  exact rule_toks r h hk hs.1 hs.2

/-! ### a rule that is read: its addresses are addresses -/
def U32 (a : Int) : Prop := 0 ≤ a ∧ a < 4294967296
theorem U32.zero : U32 0 := ⟨by decide, by decide⟩
theorem or_u32 (a b : Int) : U32 (Go.bits .or .u32 a b) := by
  have e : ∀ n : Int, U32 (IntKind.u32.wrap n) := fun n => by rw [IntKind.wrap_u32]; unfold U32; omega
  exact e _
theorem octs_u32 : ∀ (L : List ByteArray) (a : Int), U32 a → U32 (octs L a).1
  | [], a, h => h
  | x :: L, a, h => by
    rw [octs]
    split
    · exact octs_u32 L _ (or_u32 _ _)
    · exact U32.zero
theorem addrR_u32 (s : ByteArray) : U32 (addrR s).1 := by
  unfold addrR
  split
  · exact octs_u32 _ _ U32.zero
  · exact U32.zero
theorem pfxR_u32 (s : ByteArray) : U32 (pfxR s).1 := by
  unfold pfxR
  split
  · exact U32.zero
  · split
    · exact U32.zero
    · exact addrR_u32 _
theorem headR_u32 (s : ByteArray) (b : Bool) : U32 (headR s b).1.addr := by
  unfold headR
  split
  · exact U32.zero
  · split
    · exact U32.zero
    · exact pfxR_u32 _
theorem sideR_u32 (l : List ByteArray) (b : Bool) : U32 (sideR l b).1.addr := headR_u32 _ _
theorem pinR_u32 (l : List ByteArray) (b : Bool) (w : ByteArray) : U32 (pinR l b w).1.gate := by
  unfold pinR
  split
  · exact addrR_u32 _
  · exact U32.zero
theorem st15_parts (s : St) : (st15 s).V.src = s.V.src ∧ (st15 s).V.dst = s.V.dst ∧ (st15 s).V.route = s.V.route ∧ (st15 s).V.reply = s.V.reply := by
  unfold st15; split <;> exact ⟨rfl, rfl, rfl, rfl⟩
theorem parse_kinds (l : List ByteArray) : Kinds (parseR l).V := by
  unfold parseR
  obtain ⟨e1, e2, e3, e4⟩ := st15_parts (st14 (st13 (st12 (st11 (st10 (st9 (st8 (st7 (st6 (st5 (st4 (st3 (st2 (st1 ⟨zRule, l, false⟩))))))))))))))
  exact ⟨by rw [e1]; exact sideR_u32 _ _, by rw [e2]; exact sideR_u32 _ _, by rw [e3]; exact pinR_u32 _ _ _, by rw [e4]; exact pinR_u32 _ _ _⟩
theorem rule_cases (l : List ByteArray) : ruleOf l = (zRule, 2) ∨ (∃ V, ruleOf l = (V, 0) ∧ isB V = true ∧ Kinds V ∧ -9223372036854775808 ≤ V.set ∧ V.set ≤ 9223372036854775807) := by
  unfold ruleOf
  split
  · exact .inl rfl
  · rename_i h
    simp only [Bool.or_eq_true, not_or, Bool.not_eq_true, Bool.not_eq_false'] at h
    have := parse_set l
    exact .inr ⟨_, rfl, by simpa using h.2, parse_kinds l, by omega, by omega⟩
end Go.Proofs.YtomkohdlaednhaaGreatDoor
