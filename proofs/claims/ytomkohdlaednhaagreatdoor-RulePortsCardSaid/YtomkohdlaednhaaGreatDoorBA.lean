import Derived.Test.YtomkohdlaednhaaGreatDoorN
import Derived.Test.YtomkohdlaednhaaGreatDoorAA
set_option linter.unusedSimpArgs false
set_option linter.unusedVariables false
namespace Go.Proofs.YtomkohdlaednhaaGreatDoor
open Go.RowKit Go.Proofs.YtomkohdlaednhaaGreatDoorW.PrintWords PConfParses

/-- All strings of a rule are such that a machine can count their letters. -/
structure Small (r : RuleV) : Prop where
  on : r.on.size ≤ 9223372036854775807
  src : r.src.table.size ≤ 9223372036854775807
  dst : r.dst.table.size ≤ 9223372036854775807
  route : r.route.iface.size ≤ 9223372036854775807
  reply : r.reply.iface.size ≤ 9223372036854775807
theorem lt_not (a b : Int) : decide (a < b) = !decide (b ≤ a) := by rw [Bool.eq_iff_iff]; simp
def rIsB (r : RuleV) : Bool := !(r.pass && r.ret) && !(!passB r) && !(!emptyB r.on && !nameB r.on) && !(!(decide (0 ≤ r.proto) && decide (r.proto ≤ 255))) && !(!(sideB r.src r.proto && sideB r.dst r.proto)) && !(!(decide (0 ≤ r.mask) && decide (r.mask ≤ 63) && decide (0 ≤ r.set) && (Go.bits .andNot .i64 r.set r.mask == 0))) && !(!(r.proto == 6) && (!(r.mask == 0) || !(r.set == 0))) && !(!(decide (-1 ≤ r.type) && decide (r.type ≤ 255))) && !(!(r.proto == 1) && !(r.type == -1)) && (pinB r.route && pinB r.reply && decide (0 ≤ r.table) && decide (r.table < 4))

/-! ### the reference's steps -/
def isW (s : St) (x : ByteArray) : Bool := takesB s.l false x
def isL (s : St) (x : ByteArray) : List ByteArray := takesL s.l false x
def ref1 (s : St) : St := ⟨{ s.V with pass := decide (nextS s.l = passW) }, s.l.tail, s.bad || s.l.isEmpty || (!decide (nextS s.l = passW) && !decide (nextS s.l = blockW))⟩
def ref3 (s : St) : St := ⟨{ s.V with ret := isW s returnW }, isL s returnW, s.bad⟩
def ref4 (s : St) : St := ⟨{ s.V with quick := isW s quickW }, isL s quickW, s.bad⟩
def ref5 (s : St) : St := if isW s onW then ⟨{ s.V with on := nextS s.l.tail }, s.l.tail.tail, s.bad || s.l.tail.isEmpty || emptyB (nextS s.l.tail)⟩ else s
def ref6 (s : St) : St := if isW s protoW then ⟨{ s.V with proto := (rprotoR (nextS s.l.tail)).1 }, s.l.tail.tail, s.bad || s.l.tail.isEmpty || (rprotoR (nextS s.l.tail)).2⟩ else s
def ref7 (s : St) : St := ⟨s.V, isL s fromW, !isW s fromW || s.bad⟩
def ref8 (s : St) : St := ⟨{ s.V with src := (endR s.l s.bad).1 }, (endR s.l s.bad).2.1, (endR s.l s.bad).2.2⟩
def ref9 (s : St) : St := ⟨s.V, isL s toW, !isW s toW || s.bad⟩
def ref10 (s : St) : St := ⟨{ s.V with dst := (endR s.l s.bad).1 }, (endR s.l s.bad).2.1, (endR s.l s.bad).2.2⟩
/-- The flags that a word tells; whether they are none. -/
def flagsR (w : ByteArray) : Int × Int × Bool :=
  match splitS 47 w with
  | [a, b] => (bitsV a, bitsV b, (bitsF a).isNone || (bitsF b).isNone || decide (bitsV b = 0))
  | _ => (0, 0, true)
def ref11 (s : St) : St := if isW s flagsW then ⟨{ s.V with set := (flagsR (nextS s.l.tail)).1, mask := (flagsR (nextS s.l.tail)).2.1 }, s.l.tail.tail, s.bad || s.l.tail.isEmpty || (flagsR (nextS s.l.tail)).2.2⟩ else s
def ref12 (s : St) : St := if isW s typeW then ⟨{ s.V with type := (numR 9 255 (nextS s.l.tail)).1 }, s.l.tail.tail, s.bad || s.l.tail.isEmpty || !(numR 9 255 (nextS s.l.tail)).2⟩ else s
def ref13 (s : St) : St := ⟨{ s.V with keep := isW s keepW }, isL s keepW, s.bad⟩
def ref14 (s : St) : St := if isW s routeW then ⟨{ s.V with route := (rpinR s.l.tail s.bad).1 }, (rpinR s.l.tail s.bad).2.1, (rpinR s.l.tail s.bad).2.2⟩ else s
def ref15 (s : St) : St := if isW s replyW then ⟨{ s.V with reply := (rpinR s.l.tail s.bad).1 }, (rpinR s.l.tail s.bad).2.1, (rpinR s.l.tail s.bad).2.2⟩ else s
def ref16 (s : St) : St := if isW s tableW then ⟨{ s.V with table := (numR 9 3 (nextS s.l.tail)).1 }, s.l.tail.tail, s.bad || s.l.tail.isEmpty || !(numR 9 3 (nextS s.l.tail)).2 || decide ((numR 9 3 (nextS s.l.tail)).1 = 0)⟩ else s
def zRef : RuleV := { zRule with type := -1 }
def rparseR (l : List ByteArray) : St := ref16 (ref15 (ref14 (ref13 (ref12 (ref11 (ref10 (ref9 (ref8 (ref7 (ref6 (ref5 (ref4 (ref3 (ref1 ⟨zRef, l, false⟩))))))))))))))
def rruleOf (l : List ByteArray) : RuleV × Int := if (rparseR l).bad || !(rparseR l).l.isEmpty || !rIsB (rparseR l).V then (zRule, 2) else ((rparseR l).V, 0)

/-! ### both are one -/
def Rel (D : RuleV → Prop) (f : RuleV → RuleV) (p q : St) : Prop :=
  (q.bad = true ∧ (p.bad = true ∨ D p.V)) ∨ (p.bad = false ∧ q.bad = false ∧ q.l = p.l ∧ q.V = f p.V)
theorem Rel.cases {D : RuleV → Prop} {f : RuleV → RuleV} {p q : St} (h : Rel D f p q) : (q.bad = true ∧ (p.bad = true ∨ D p.V)) ∨ ∃ V l, p = ⟨V, l, false⟩ ∧ q = ⟨f V, l, false⟩ := by
  rcases h with h | ⟨a1, a2, a3, a4⟩
  · exact .inl h
  · right
    obtain ⟨V, l, bad⟩ := p
    obtain ⟨V', l', bad'⟩ := q
    simp only at a1 a2 a3 a4
    subst a1 a2 a3 a4
    exact ⟨V, l', rfl, rfl⟩
def tm (V : RuleV) : RuleV := { V with type := -1 }
def D0 (V : RuleV) : Prop := False
def D6 (V : RuleV) : Prop := 255 < V.proto
def Ds (S : SideV) : Prop := 65535 < S.low ∨ 65535 < S.high
def D8 (V : RuleV) : Prop := 255 < V.proto ∨ Ds V.src
def D10 (V : RuleV) : Prop := 255 < V.proto ∨ Ds V.src ∨ Ds V.dst
def D12 (V : RuleV) : Prop := 255 < V.proto ∨ Ds V.src ∨ Ds V.dst ∨ 255 < V.type
def D16 (V : RuleV) : Prop := 255 < V.proto ∨ Ds V.src ∨ Ds V.dst ∨ 255 < V.type ∨ 3 < V.table

theorem takesB_bad (l : List ByteArray) (x : ByteArray) : takesB l true x = false := rfl
theorem takesL_bad (l : List ByteArray) (x : ByteArray) : takesL l true x = l := rfl
theorem numR_val (m : Int) (s : ByteArray) : (numR 9 m s).1 = numV 9 s := by unfold numR numV; split <;> rfl
theorem numR_ok (m : Int) (s : ByteArray) : (numR 9 m s).2 = (numOk 9 s && decide (numV 9 s ≤ m)) := by
  unfold numR numV
  cases h : numOk 9 s <;> simp

theorem rel1 (l : List ByteArray) : Rel D0 tm (st2 (st1 ⟨zRule, l, false⟩)) (ref1 ⟨zRef, l, false⟩) := by
  cases l with
  | nil => left; exact ⟨rfl, .inl rfl⟩
  | cons x l =>
    by_cases h1 : x = passW
    · right
      subst h1
      refine ⟨?_, ?_, ?_, ?_⟩ <;> simp [st1, st2, ref1, takesB, takesL, nextS, zRef, tm]
    · by_cases h2 : x = blockW
      · right
        subst h2
        refine ⟨?_, ?_, ?_, ?_⟩ <;> simp [st1, st2, ref1, takesB, takesL, nextS, zRef, tm, h1]
      · left
        refine ⟨?_, .inl ?_⟩ <;> simp [st1, st2, ref1, takesB, takesL, nextS, zRef, tm, h1, h2]
theorem rel3 {p q : St} (h : Rel D0 tm p q) : Rel D0 tm (st3 p) (ref3 q) := by
  rcases h.cases with h | ⟨V, l', rfl, rfl⟩
  · exact .inl h
  · exact .inr ⟨rfl, rfl, rfl, rfl⟩
theorem rel4 {p q : St} (h : Rel D0 tm p q) : Rel D0 tm (st4 p) (ref4 q) := by
  rcases h.cases with h | ⟨V, l', rfl, rfl⟩
  · exact .inl h
  · exact .inr ⟨rfl, rfl, rfl, rfl⟩
theorem rel5 {p q : St} (h : Rel D0 tm p q) : Rel D0 tm (st5 p) (ref5 q) := by
  rcases h.cases with ⟨h1, h2 | h2⟩ | ⟨V, l', rfl, rfl⟩
  · left
    obtain ⟨V, l, bad⟩ := p
    obtain ⟨V', l', bad'⟩ := q
    simp only at h1 h2
    subst h1 h2
    refine ⟨?_, .inl rfl⟩
    unfold ref5; split <;> simp
  · exact absurd h2 id
  · rcases Bool.eq_false_or_eq_true (takesB l' false onW) with hq | hq
    case inr => simp only [st5, ref5, isW, hq, Bool.false_eq_true, if_false]; exact .inr ⟨rfl, rfl, rfl, rfl⟩
    case inl =>
      simp only [st5, ref5, isW, hq, if_true]
      cases hb : (false || l'.tail.isEmpty || emptyB (nextS l'.tail)) with
      | true => exact .inl ⟨rfl, .inl rfl⟩
      | false => exact .inr ⟨rfl, rfl, rfl, rfl⟩
theorem rel6 {p q : St} (h : Rel D0 tm p q) : Rel D6 tm (st6 p) (ref6 q) := by
  rcases h.cases with ⟨h1, h2 | h2⟩ | ⟨V, l', rfl, rfl⟩
  · left
    obtain ⟨V, l, bad⟩ := p
    obtain ⟨V', l', bad'⟩ := q
    simp only at h1 h2
    subst h1 h2
    refine ⟨?_, .inl rfl⟩
    unfold ref6; split <;> simp
  · exact absurd h2 id
  · rcases Bool.eq_false_or_eq_true (takesB l' false protoW) with hq | hq
    case inr => simp only [st6, ref6, isW, hq, Bool.false_eq_true, if_false]; exact .inr ⟨rfl, rfl, rfl, rfl⟩
    case inl =>
      simp only [st6, ref6, isW, hq, if_true, protoR, rprotoR]
      generalize nextS l'.tail = s
      generalize l'.tail.isEmpty = e
      by_cases h1 : s = icmpS
      · simp only [if_pos h1]
        cases e
        · exact .inr ⟨rfl, rfl, rfl, rfl⟩
        · exact .inl ⟨rfl, .inl rfl⟩
      · by_cases h2 : s = tcpS
        · simp only [if_neg h1, if_pos h2]
          cases e
          · exact .inr ⟨rfl, rfl, rfl, rfl⟩
          · exact .inl ⟨rfl, .inl rfl⟩
        · by_cases h3 : s = udpS
          · simp only [if_neg h1, if_neg h2, if_pos h3]
            cases e
            · exact .inr ⟨rfl, rfl, rfl, rfl⟩
            · exact .inl ⟨rfl, .inl rfl⟩
          · simp only [if_neg h1, if_neg h2, if_neg h3, rprotoB, numR_val, numR_ok]
            cases e with
            | true => exact .inl ⟨rfl, .inl rfl⟩
            | false =>
              cases hn : numOk 9 s with
              | false => exact .inl ⟨rfl, .inl rfl⟩
              | true =>
                by_cases hm : numV 9 s ≤ 255
                · by_cases h4 : numV 9 s = 0
                  · exact .inl ⟨by simp [h4], .inl (by simp [h4])⟩
                  · by_cases h5 : protoS (numV 9 s) = s
                    · exact .inr ⟨by simp [h4, h5], by simp [h4, h5, hm], rfl, rfl⟩
                    · exact .inl ⟨by simp [h5], .inl (by simp [h5])⟩
                · exact .inl ⟨by simp [hm], .inr (by simp only [D6]; omega)⟩
theorem rel7 {p q : St} (h : Rel D6 tm p q) : Rel D6 tm (st7 p) (ref7 q) := by
  rcases h.cases with ⟨h1, h2⟩ | ⟨V, l', rfl, rfl⟩
  · left
    obtain ⟨V, l, bad⟩ := p
    obtain ⟨V', l', bad'⟩ := q
    simp only at h1 h2
    subst h1
    refine ⟨by simp [ref7], ?_⟩
    rcases h2 with rfl | h2
    · exact .inl rfl
    · exact .inr h2
  · simp only [st7, ref7, isW, isL]
    cases hq : takesB l' false fromW with
    | false => exact .inl ⟨rfl, .inl rfl⟩
    | true => exact .inr ⟨rfl, rfl, rfl, rfl⟩

/-! a side -/
theorem isTab_two {s : ByteArray} (h2 : s.size = 2) (h : isTab s = true) : s = ⟨#[60, 62]⟩ := by
  simp only [isTab, Bool.and_eq_true, Lib.hasPrefix, Lib.hasSuffix, List.isPrefixOf_iff_prefix, List.isSuffixOf_iff_suffix] at h
  obtain ⟨⟨a, ha⟩, ⟨b, hb⟩⟩ := h
  rw [Lib.size_eq] at h2
  have e1 : ltS.data.toList = [60] := rfl
  have e2 : gtS.data.toList = [62] := rfl
  rw [e1] at ha
  rw [e2] at hb
  have e : s.data.toList = [60, 62] := by
    match hs : s.data.toList with
    | [x, y] =>
      rw [hs] at ha hb
      simp only [List.cons_append, List.nil_append, List.cons.injEq] at ha
      obtain ⟨rfl, rfl⟩ := ha
      cases b with
      | nil => simp at hb
      | cons z b =>
        cases b with
        | nil => simp at hb; simp [hb]
        | cons z' b => simp at hb
    | [] => rw [hs] at h2; simp at h2
    | [x] => rw [hs] at h2; simp at h2
    | x :: y :: z :: t => rw [hs] at h2; simp at h2
  rw [← Lib.mk_data s, e]
theorem isTab3_eq (s : ByteArray) : isTab3 s = (isTab s && decide (2 < s.size)) := by
  by_cases h2 : 2 < s.size
  · simp only [isTab3, h2, decide_true, Bool.true_and, Bool.and_true, isTab]
    have hz := Lib.size_eq s
    rw [Bool.eq_iff_iff, Bool.and_eq_true, Bool.and_eq_true, beq_iff_eq, beq_iff_eq]
    have hb0 := bt_get s 0
    rw [Int.natCast_zero] at hb0
    rw [hb0, bt_get]
    simp only [Lib.hasPrefix, Lib.hasSuffix, List.isPrefixOf_iff_prefix, List.isSuffixOf_iff_suffix]
    have e1 : ltS.data.toList = [60] := rfl
    have e2 : gtS.data.toList = [62] := rfl
    rw [e1, e2]
    generalize s.data.toList = l at *
    have hk : ∀ (c : UInt8) (n : Nat), (c.toNat : Int) = (n : Int) → n < 256 → c = UInt8.ofNat n := by
      intro c n h hn
      apply UInt8.toNat_inj.1
      rw [UInt8.toNat_ofNat']
      omega
    constructor
    · rintro ⟨h3, h4⟩
      constructor
      · cases l with
        | nil => simp only [List.length_nil] at hz; omega
        | cons x l =>
          simp at h3
          exact ⟨l, by rw [hk x 60 (by simpa using h3) (by omega)]; rfl⟩
      · have hl : l ≠ [] := by intro e; subst e; simp only [List.length_nil] at hz; omega
        refine ⟨l.dropLast, ?_⟩
        have h5 := List.dropLast_concat_getLast hl
        rw [List.getElem?_eq_getElem (by omega)] at h4
        simp only [Option.getD_some] at h4
        have h6 : l.getLast hl = 62 := by
          rw [List.getLast_eq_getElem]
          simp only [hz] at h4
          exact hk _ 62 (by simpa using h4) (by omega)
        rw [h6] at h5
        exact h5
    · rintro ⟨⟨a, rfl⟩, ⟨b, hb⟩⟩
      refine ⟨by simp, ?_⟩
      rw [hz, ← hb]
      rw [← hb] at hz
      simp
  · have : isTab3 s = false := by simp [isTab3, h2]
    rw [this]; simp [h2]
theorem pfxR_lt : (pfxR ⟨#[60, 62]⟩).2.2 ≠ 0 := by decide +kernel
theorem extract_empty {s : ByteArray} (h : 2 ≤ s.size) : s.extract 1 (s.size - 1) = ⟨#[]⟩ ↔ s.size = 2 := by
  constructor
  · intro e
    have := congrArg ByteArray.size e
    rw [ByteArray.size_extract] at this
    have e0 : (⟨#[]⟩ : ByteArray).size = 0 := rfl
    rw [e0] at this
    omega
  · intro e
    have : (s.extract 1 (s.size - 1)).size = 0 := by rw [ByteArray.size_extract]; omega
    rw [← Lib.mk_data (s.extract 1 (s.size - 1))]
    rw [Lib.size_eq] at this
    rw [List.eq_nil_of_length_eq_zero this]
theorem head_same (s : ByteArray) : ((headR s false).2 = true ∧ (rheadR s false).2 = true) ∨ ((headR s false).2 = false ∧ rheadR s false = headR s false) := by
  by_cases h1 : s = anyS
  · right; subst h1; exact ⟨rfl, rfl⟩
  · simp only [headR, rheadR, if_neg h1, isTab3_eq]
    cases ht : isTab s with
    | false =>
      simp only [Bool.false_and, Bool.false_eq_true, if_false]
      by_cases h : (pfxR s).2.2 = 0
      · right; simp [h]
      · left; simp [h]
    | true =>
      have h2 := isTab_size ht
      simp only [if_true, Bool.true_and]
      by_cases h3 : s.size = 2
      · left
        have := isTab_two h3 ht
        subst this
        decide +kernel
      · right
        have : 2 < s.size := by omega
        have hn : s.extract 1 (s.size - 1) ≠ ⟨#[]⟩ := fun e => h3 ((extract_empty h2).1 e)
        simp [this, hn]
theorem head_bad (s : ByteArray) : (headR s true).2 = true ∧ (rheadR s true).2 = true := by
  simp only [headR, rheadR]
  constructor
  · split
    · rfl
    · split <;> simp
  · split
    · rfl
    · split <;> simp
theorem ports_bad (l : List ByteArray) : (portsR l true).2.2.2 = true ∧ (rportsR l true).2.2.2 = true := by
  constructor
  · rfl
  · unfold rportsR
    split
    · split <;> simp
    · rfl
def pD (x : Int × Int × List ByteArray × Bool) : Prop := 65535 < x.1 ∨ 65535 < x.2.1
theorem ports_same (l : List ByteArray) : ((rportsR l false).2.2.2 = true ∧ ((portsR l false).2.2.2 = true ∨ pD (portsR l false))) ∨ ((portsR l false).2.2.2 = false ∧ rportsR l false = portsR l false) := by
  unfold portsR rportsR
  cases hq : takesB l false portS with
  | false => right; exact ⟨rfl, rfl⟩
  | true =>
    simp only [if_true]
    generalize nextS l.tail = w
    generalize l.tail.isEmpty = e
    have hc : (colonS : ByteArray) = ⟨#[58]⟩ := rfl
    rw [hc]
    by_cases hi : Lib.index w.data.toList [58] = -1
    · obtain ⟨h1, h2⟩ := cut_none 58 w hi
      rw [h1, h2]
      simp only [Bool.false_eq_true, if_false, numR_val, numR_ok]
      cases e with
      | true => left; simp
      | false =>
        cases hn : numOk 9 w with
        | false => left; simp
        | true =>
          by_cases hm : numV 9 w ≤ 65535
          · right; simp [hm]
          · left; refine ⟨by simp [hm], .inr (.inl ?_)⟩; simp only; omega
    · obtain ⟨i, hi'⟩ : ∃ i : Nat, Lib.index w.data.toList [58] = i := by
        have := index_low 58 w.data.toList
        exact ⟨(Lib.index w.data.toList [58]).toNat, by omega⟩
      obtain ⟨h1, h2⟩ := cut_some 58 w i hi'
      rw [h1, h2]
      simp only [if_true, numR_val, numR_ok]
      generalize mkB (w.data.toList.take i) = a
      generalize mkB (w.data.toList.drop (i + 1)) = b
      by_cases hj : Lib.index b.data.toList [58] = -1
      · rw [(cut_none 58 b hj).2]
        simp only [numR_val, numR_ok]
        cases e with
        | true => left; simp
        | false =>
          cases hn : numOk 9 a with
          | false => left; simp
          | true =>
            cases hn2 : numOk 9 b with
            | false => left; simp
            | true =>
              by_cases hm : numV 9 a ≤ 65535
              · by_cases hm2 : numV 9 b ≤ 65535
                · by_cases h5 : numV 9 b = numV 9 a
                  · left; simp [h5]
                  · right; simp [hm, hm2, h5]
                · left; refine ⟨by simp [hm2], .inr (.inr ?_)⟩; simp only; omega
              · left; refine ⟨by simp [hm], .inr (.inl ?_)⟩; simp only; omega
      · obtain ⟨j, hj'⟩ : ∃ j : Nat, Lib.index b.data.toList [58] = j := by
          have := index_low 58 b.data.toList
          exact ⟨(Lib.index b.data.toList [58]).toNat, by omega⟩
        rw [(cut_some 58 b j hj').2]
        left
        have hb : numOk 9 b = false := by
          have := num_not_slash (k := 9) (m := 0) (s := b) (c := 58) (by decide) hj
          cases hn : numOk 9 b with
          | false => rfl
          | true =>
            exfalso
            have h6 : (numR 9 1000000000000 b).2 = false := by rw [num_not_slash (k := 9) (s := b) (c := 58) (by decide) hj]
            rw [numR_ok, hn] at h6
            have := numV_le 9 b (by omega)
            simp at h6
            omega
        have hs := spl_ne 58 (mkB (b.data.toList.drop (j + 1))).data.toList
        refine ⟨?_, .inl (by simp [hb])⟩
        cases ht : splitS 58 (mkB (b.data.toList.drop (j + 1))) with
        | nil =>
          rw [splitS, List.map_eq_nil_iff] at ht
          exact absurd ht hs
        | cons x t => simp
theorem side_same (l : List ByteArray) : ((endR l false).2.2 = true ∧ ((sideR l false).2.2 = true ∨ Ds (sideR l false).1)) ∨ ((sideR l false).2.2 = false ∧ endR l false = sideR l false) := by
  unfold endR sideR
  generalize nextS l = s
  cases he : l.isEmpty with
  | true =>
    left
    simp only [Bool.or_true]
    rw [(head_bad s).1, (head_bad s).2]
    exact ⟨(ports_bad _).2, .inl (ports_bad _).1⟩
  | false =>
    simp only [Bool.or_false]
    rcases head_same s with ⟨h1, h2⟩ | ⟨h1, h2⟩
    · left
      rw [h1, h2]
      exact ⟨(ports_bad _).2, .inl (ports_bad _).1⟩
    · rw [h2, h1]
      rcases ports_same l.tail with ⟨h3, h4⟩ | ⟨h3, h4⟩
      · left
        refine ⟨h3, h4.imp id ?_⟩
        exact id
      · right
        rw [h4]
        exact ⟨h3, rfl⟩
theorem side_bad (l : List ByteArray) : (sideR l true).2.2 = true ∧ (endR l true).2.2 = true := by
  unfold endR sideR
  simp only [Bool.true_or]
  rw [(head_bad _).1, (head_bad _).2]
  exact ⟨(ports_bad _).1, (ports_bad _).2⟩
theorem end_bad (l : List ByteArray) : (endR l true).2.2 = true := (side_bad l).2
theorem rel8 {p q : St} (h : Rel D6 tm p q) : Rel D8 tm (st8 p) (ref8 q) := by
  rcases h.cases with ⟨h1, h2⟩ | ⟨V, l', rfl, rfl⟩
  · left
    obtain ⟨V, l, bad⟩ := p
    obtain ⟨V', l', bad'⟩ := q
    simp only at h1 h2
    subst h1
    refine ⟨end_bad _, ?_⟩
    rcases h2 with rfl | h2
    · exact .inl (side_bad _).1
    · exact .inr (.inl h2)
  · rcases side_same l' with ⟨h3, h4⟩ | ⟨h3, h4⟩
    · exact .inl ⟨h3, h4.imp id .inr⟩
    · simp only [st8, ref8]
      rw [h4]
      exact .inr ⟨h3, h3, rfl, rfl⟩
theorem rel9 {p q : St} (h : Rel D8 tm p q) : Rel D8 tm (st9 p) (ref9 q) := by
  rcases h.cases with ⟨h1, h2⟩ | ⟨V, l', rfl, rfl⟩
  · left
    obtain ⟨V, l, bad⟩ := p
    obtain ⟨V', l', bad'⟩ := q
    simp only at h1 h2
    subst h1
    refine ⟨by simp [ref9], ?_⟩
    rcases h2 with rfl | h2
    · exact .inl rfl
    · exact .inr h2
  · simp only [st9, ref9, isW, isL]
    cases hq : takesB l' false toW with
    | false => exact .inl ⟨rfl, .inl rfl⟩
    | true => exact .inr ⟨rfl, rfl, rfl, rfl⟩
theorem rel10 {p q : St} (h : Rel D8 tm p q) : Rel D10 tm (st10 p) (ref10 q) := by
  rcases h.cases with ⟨h1, h2⟩ | ⟨V, l', rfl, rfl⟩
  · left
    obtain ⟨V, l, bad⟩ := p
    obtain ⟨V', l', bad'⟩ := q
    simp only at h1 h2
    subst h1
    refine ⟨end_bad _, ?_⟩
    rcases h2 with rfl | h2
    · exact .inl (side_bad _).1
    · exact .inr (h2.imp id .inl)
  · rcases side_same l' with ⟨h3, h4⟩ | ⟨h3, h4⟩
    · exact .inl ⟨h3, h4.imp id (fun h => .inr (.inr h))⟩
    · simp only [st10, ref10]
      rw [h4]
      exact .inr ⟨h3, h3, rfl, rfl⟩

/-! what is looked at -/
theorem flags_none {s : ByteArray} (h : s.data.toList = [] ∨ 47 ∈ s.data.toList) : bitsF s = none := by
  have h1 : ∀ n : Fin 64, (flagsS (n.val : Int)).data.toList ≠ [] ∧ ¬ (47 ∈ (flagsS (n.val : Int)).data.toList) := by decide +kernel
  apply bitsF_none
  intro n hn e
  have := h1 ⟨n, hn⟩
  simp only at this
  rw [e] at this
  rcases h with h | h
  · exact this.1 h
  · exact this.2 h
theorem flags_same (w : ByteArray) :
    ((flagsR w).2.2 = true ∧ ((bitsF (cutS w slashS).1).isNone || (bitsF (cutS w slashS).2.1).isNone || decide (bitsV (cutS w slashS).2.1 = 0)) = true) ∨
    ((flagsR w).2.2 = false ∧ ((bitsF (cutS w slashS).1).isNone || (bitsF (cutS w slashS).2.1).isNone || decide (bitsV (cutS w slashS).2.1 = 0)) = false ∧ (flagsR w).1 = bitsV (cutS w slashS).1 ∧ (flagsR w).2.1 = bitsV (cutS w slashS).2.1) := by
  have hc : (slashS : ByteArray) = ⟨#[47]⟩ := rfl
  rw [hc]
  unfold flagsR
  by_cases hi : Lib.index w.data.toList [47] = -1
  · obtain ⟨h1, h2⟩ := cut_none 47 w hi
    left
    rw [h1, h2]
    refine ⟨rfl, ?_⟩
    rw [flags_none (s := ⟨#[]⟩) (.inl rfl)]
    simp
  · obtain ⟨i, hi'⟩ : ∃ i : Nat, Lib.index w.data.toList [47] = i := by
      have := index_low 47 w.data.toList
      exact ⟨(Lib.index w.data.toList [47]).toNat, by omega⟩
    obtain ⟨h1, h2⟩ := cut_some 47 w i hi'
    rw [h1, h2]
    generalize mkB (w.data.toList.take i) = a
    generalize mkB (w.data.toList.drop (i + 1)) = b
    by_cases hj : Lib.index b.data.toList [47] = -1
    · rw [(cut_none 47 b hj).2]
      simp only
      cases hb : ((bitsF a).isNone || (bitsF b).isNone || decide (bitsV b = 0)) with
      | true => left; simp
      | false => right; simp
    · obtain ⟨j, hj'⟩ : ∃ j : Nat, Lib.index b.data.toList [47] = j := by
        have := index_low 47 b.data.toList
        exact ⟨(Lib.index b.data.toList [47]).toNat, by omega⟩
      rw [(cut_some 47 b j hj').2]
      left
      have hb : bitsF b = none := flags_none (.inr (index_mem 47 _ hj))
      refine ⟨?_, by simp [hb]⟩
      have hs := spl_ne 47 (mkB (b.data.toList.drop (j + 1))).data.toList
      cases ht : splitS 47 (mkB (b.data.toList.drop (j + 1))) with
      | nil =>
        rw [splitS, List.map_eq_nil_iff] at ht
        exact absurd ht hs
      | cons x t => rfl
theorem lookT_bad (l : List ByteArray) : lookT l true = (-1, l, true) := rfl
theorem lookF_bad (l : List ByteArray) : lookF l true = (none, l, true) := rfl
theorem ref12_bad {s : St} (h : s.bad = true) : (ref12 s).bad = true := by
  unfold ref12; split <;> simp [h]
theorem ref11_bad {s : St} (h : s.bad = true) : (ref11 s).bad = true := by
  unfold ref11; split <;> simp [h]
theorem lookT_keeps (l : List ByteArray) : (lookT l true).2.2 = true := rfl
theorem rel11 {p q : St} (h : Rel D10 tm p q) : Rel D12 id (st11 p) (ref12 (ref11 q)) := by
  rcases h.cases with ⟨h1, h2⟩ | ⟨V, l', rfl, rfl⟩
  · left
    obtain ⟨V, l, bad⟩ := p
    obtain ⟨V', l', bad'⟩ := q
    simp only at h1 h2
    subst h1
    refine ⟨ref12_bad (ref11_bad rfl), ?_⟩
    rcases h2 with rfl | h2
    · exact .inl rfl
    · refine .inr ?_
      rcases h2 with h2 | h2 | h2
      · exact .inl h2
      · exact .inr (.inl h2)
      · exact .inr (.inr (.inl h2))
  · have key : ∀ (l : List ByteArray) (V : RuleV), Rel D12 id ⟨{ V with type := (lookT l false).1 }, (lookT l false).2.1, (lookT l false).2.2⟩ (ref12 ⟨tm V, l, false⟩) := by
      intro l V
      rcases Bool.eq_false_or_eq_true (takesB l false typeW) with hq | hq
      case inr => simp only [ref12, isW, lookT, hq, Bool.false_eq_true, if_false]; exact .inr ⟨rfl, rfl, rfl, rfl⟩
      case inl =>
        simp only [ref12, isW, lookT, hq, if_true, numR_val, numR_ok]
        generalize nextS l.tail = w
        generalize l.tail.isEmpty = e
        cases e with
        | true => exact .inl ⟨rfl, .inl rfl⟩
        | false =>
          cases hn : numOk 9 w with
          | false => exact .inl ⟨rfl, .inl rfl⟩
          | true =>
            by_cases hm : numV 9 w ≤ 255
            · exact .inr ⟨by simp, by simp [hm], rfl, rfl⟩
            · exact .inl ⟨by simp [hm], .inr (.inr (.inr (.inr (by simp only; omega))))⟩
    rcases Bool.eq_false_or_eq_true (takesB l' false flagsW) with hq | hq
    case inr =>
      simp only [st11, ref11, isW, lookV, lookF, hq, Bool.false_eq_true, if_false]
      exact key l' V
    case inl =>
      simp only [st11, ref11, isW, lookV, lookF, hq, if_true]
      rcases flags_same (nextS l'.tail) with ⟨h3, h4⟩ | ⟨h3, h4, h5, h6⟩
      · have e1 : (false || l'.tail.isEmpty || (bitsF (cutS (nextS l'.tail) slashS).1).isNone || (bitsF (cutS (nextS l'.tail) slashS).2.1).isNone || decide (bitsV (cutS (nextS l'.tail) slashS).2.1 = 0)) = true := by
          rw [Bool.or_assoc, Bool.or_assoc, ← Bool.or_assoc (bitsF _).isNone, h4]; simp
        rw [e1, h3]
        exact .inl ⟨ref12_bad (by simp), .inl rfl⟩
      · cases he : l'.tail.isEmpty with
        | true => exact .inl ⟨ref12_bad (by simp), .inl rfl⟩
        | false =>
          simp only [Bool.or_false, Bool.false_or]
          rw [h4, h3, h5, h6]
          exact key l'.tail.tail { V with set := _, mask := _ }
theorem rel13 {p q : St} (h : Rel D12 id p q) : Rel D12 id (st12 p) (ref13 q) := by
  rcases h.cases with h | ⟨V, l', rfl, rfl⟩
  · exact .inl h
  · exact .inr ⟨rfl, rfl, rfl, rfl⟩
theorem noPin_same {p q : St} (x : ByteArray) (put : PinV → RuleV → RuleV) (hD : ∀ P V, D12 V → D12 (put P V)) (h : Rel D12 id p q) (hq : put noPin q.V = q.V) :
    Rel D12 id ⟨put (pinR p.l p.bad x).1 p.V, (pinR p.l p.bad x).2.1, (pinR p.l p.bad x).2.2⟩ (if isW q x then ⟨put (rpinR q.l.tail q.bad).1 q.V, (rpinR q.l.tail q.bad).2.1, (rpinR q.l.tail q.bad).2.2⟩ else q) := by
  rcases h.cases with ⟨h1, h2⟩ | ⟨V, l', rfl, rfl⟩
  · left
    obtain ⟨V, l, bad⟩ := p
    obtain ⟨V', l', bad'⟩ := q
    simp only at h1 h2
    subst h1
    refine ⟨?_, ?_⟩
    · split
      · rfl
      · rfl
    · rcases h2 with rfl | h2
      · exact .inl rfl
      · exact .inr (hD _ _ h2)
  · rcases Bool.eq_false_or_eq_true (takesB l' false x) with ht | ht
    case inr =>
      simp only [isW, pinR, ht, Bool.false_eq_true, if_false]
      exact .inr ⟨rfl, rfl, rfl, hq.symm⟩
    case inl =>
      simp only [isW, pinR, ht, if_true, rpinR]
      cases hb : (false || l'.tail.isEmpty || l'.tail.tail.isEmpty || decide ((addrR (nextS l'.tail.tail)).2 ≠ 0)) with
      | true => exact .inl ⟨rfl, .inl rfl⟩
      | false => exact .inr ⟨rfl, rfl, rfl, rfl⟩
theorem rel14 {p q : St} (h : Rel D12 id p q) (hq : q.V.route = noPin) : Rel D12 id (st13 p) (ref14 q) :=
  noPin_same routeW (fun P V => { V with route := P }) (fun _ _ h => h) h (by simp only [← hq])
theorem rel15 {p q : St} (h : Rel D12 id p q) (hq : q.V.reply = noPin) : Rel D12 id (st14 p) (ref15 q) :=
  noPin_same replyW (fun P V => { V with reply := P }) (fun _ _ h => h) h (by simp only [← hq])
theorem rel16 {p q : St} (h : Rel D12 id p q) : Rel D16 id (st15 p) (ref16 q) := by
  have hD : ∀ V, D12 V → D16 V := fun V h => by
    rcases h with h | h | h | h
    · exact .inl h
    · exact .inr (.inl h)
    · exact .inr (.inr (.inl h))
    · exact .inr (.inr (.inr (.inl h)))
  rcases h.cases with ⟨h1, h2⟩ | ⟨V, l', rfl, rfl⟩
  · left
    obtain ⟨V, l, bad⟩ := p
    obtain ⟨V', l', bad'⟩ := q
    simp only at h1 h2
    subst h1
    refine ⟨by unfold ref16; split <;> simp, ?_⟩
    rcases h2 with rfl | h2
    · exact .inl rfl
    · unfold st15
      split
      · exact .inr (hD _ h2)
      · exact .inr (hD _ h2)
  · rcases Bool.eq_false_or_eq_true (takesB l' false tableW) with hq | hq
    case inr => simp only [st15, ref16, isW, hq, Bool.false_eq_true, if_false]; exact .inr ⟨rfl, rfl, rfl, rfl⟩
    case inl =>
      simp only [st15, ref16, isW, hq, if_true, numR_val, numR_ok]
      generalize nextS l'.tail = w
      generalize l'.tail.isEmpty = e
      cases e with
      | true => exact .inl ⟨rfl, .inl rfl⟩
      | false =>
        cases hn : numOk 9 w with
        | false => exact .inl ⟨rfl, .inl rfl⟩
        | true =>
          by_cases hm : numV 9 w ≤ 3
          · by_cases h0 : numV 9 w = 0
            · exact .inl ⟨by simp [h0], .inl (by simp [h0])⟩
            · exact .inr ⟨by simp [h0], by simp [hm, h0], rfl, rfl⟩
          · exact .inl ⟨by simp [hm], .inr (.inr (.inr (.inr (.inr (by simp only; omega)))))⟩

/-! nothing ahead of a pin tells one -/
def Pins (s : St) : PinV × PinV := (s.V.route, s.V.reply)
theorem pins5 (s : St) : Pins (ref5 s) = Pins s := by unfold ref5; split <;> rfl
theorem pins6 (s : St) : Pins (ref6 s) = Pins s := by unfold ref6; split <;> rfl
theorem pins11 (s : St) : Pins (ref11 s) = Pins s := by unfold ref11; split <;> rfl
theorem pins12 (s : St) : Pins (ref12 s) = Pins s := by unfold ref12; split <;> rfl
theorem pins14 (s : St) : (ref14 s).V.reply = s.V.reply := by unfold ref14; split <;> rfl

theorem rel_all (l : List ByteArray) : Rel D16 id (parseR l) (rparseR l) := by
  have h10 := rel10 (rel9 (rel8 (rel7 (rel6 (rel5 (rel4 (rel3 (rel1 l))))))))
  have p10 : Pins (ref10 (ref9 (ref8 (ref7 (ref6 (ref5 (ref4 (ref3 (ref1 ⟨zRef, l, false⟩))))))))) = (noPin, noPin) := by
    show Pins (ref6 _) = _
    rw [pins6, pins5]; rfl
  unfold parseR rparseR
  generalize (ref10 (ref9 (ref8 (ref7 (ref6 (ref5 (ref4 (ref3 (ref1 ⟨zRef, l, false⟩))))))))) = q at *
  generalize (st10 (st9 (st8 (st7 (st6 (st5 (st4 (st3 (st2 (st1 ⟨zRule, l, false⟩)))))))))) = p at *
  have h13 := rel13 (rel11 h10)
  have p13 : Pins (ref13 (ref12 (ref11 q))) = (noPin, noPin) := by
    show Pins (ref12 _) = _
    rw [pins12, pins11]; exact p10
  generalize ref13 (ref12 (ref11 q)) = q' at *
  simp only [Pins, Prod.mk.injEq] at p13
  have h14 := rel14 h13 p13.1
  have e14 := pins14 q'
  rw [p13.2] at e14
  exact rel16 (rel15 h14 e14)

/-! what may be -/
theorem andNot_both (s m : Int) (h0 : 0 ≤ m) (h1 : m ≤ 63) (hs : -9223372036854775808 ≤ s) (hs1 : s ≤ 9223372036854775807) (h : (Go.bits .andNot .i64 s m == 0) = true) : 0 ≤ s ∧ s ≤ m := by
  rw [beq_iff_eq] at h
  have e : Go.bits .andNot .i64 s m = IntKind.i64.wrap ((BitVec.ofInt 64 s &&& ~~~ BitVec.ofInt 64 m).toNat : Nat) := rfl
  rw [e] at h
  obtain ⟨x, hx⟩ : ∃ x : Nat, x = (BitVec.ofInt 64 s &&& ~~~ BitVec.ofInt 64 m).toNat := ⟨_, rfl⟩
  rw [← hx] at h
  have hx2 : x < 2 ^ 64 := by rw [hx]; exact BitVec.isLt _
  have h0' : x = 0 := by
    rw [IntKind.wrap_i64] at h
    omega
  rw [h0'] at hx
  have hz : BitVec.ofInt 64 s &&& ~~~ BitVec.ofInt 64 m = 0#64 := by
    apply BitVec.eq_of_toNat_eq
    rw [← hx]; rfl
  have ha : BitVec.ofInt 64 s = BitVec.ofInt 64 s &&& BitVec.ofInt 64 m := by
    generalize BitVec.ofInt 64 s = a at *
    generalize BitVec.ofInt 64 m = b at *
    apply BitVec.eq_of_getLsbD_eq
    intro i hi
    have := congrArg (fun v => v.getLsbD i) hz
    simp only [BitVec.getLsbD_and, BitVec.getLsbD_not, hi, decide_true, Bool.true_and, BitVec.getLsbD_zero] at this
    rw [BitVec.getLsbD_and]
    cases ha : a.getLsbD i
    · rfl
    · rw [ha] at this
      simp at this
      rw [this]; rfl
  have hn := congrArg BitVec.toNat ha
  rw [BitVec.toNat_and] at hn
  have hle : (BitVec.ofInt 64 s).toNat ≤ (BitVec.ofInt 64 m).toNat := by
    rw [hn]; exact Nat.and_le_right
  rw [BitVec.toNat_ofInt, BitVec.toNat_ofInt] at hle
  omega
theorem andNot_flags (s m : Int) (h0 : 0 ≤ m) (h1 : m ≤ 63) (hs : -9223372036854775808 ≤ s) (hs1 : s ≤ 9223372036854775807) (h : (Go.bits .andNot .i64 s m == 0) = true) : 0 ≤ s ∧ (m = 0 → s = 0) := by
  have := andNot_both s m h0 h1 hs hs1 h
  omega
theorem andNot_le (s m : Int) (h0 : 0 ≤ m) (h1 : m ≤ 63) (hs : -9223372036854775808 ≤ s) (hs1 : s ≤ 9223372036854775807) (h : (Go.bits .andNot .i64 s m == 0) = true) : s ≤ 63 := by
  have := andNot_both s m h0 h1 hs hs1 h
  omega
theorem bitsV_bd (s : ByteArray) : 0 ≤ bitsV s ∧ bitsV s ≤ 63 := by
  unfold bitsV bitsF
  cases h : (List.range 64).find? (fun (n : Nat) => decide (flagsS (n : Int) = s)) with
  | none => exact ⟨by simp, by simp⟩
  | some n =>
    have := List.mem_range.1 (List.mem_of_find?_eq_some h)
    exact ⟨by simp, by simp; omega⟩
theorem flagB_eq (r : RuleV) (hs : -9223372036854775808 ≤ r.set) (hs1 : r.set ≤ 9223372036854775807) :
    flagB r = ((decide (0 ≤ r.mask) && decide (r.mask ≤ 63) && decide (0 ≤ r.set) && (Go.bits .andNot .i64 r.set r.mask == 0)) && !(!(r.proto == 6) && (!(r.mask == 0) || !(r.set == 0)))) := by
  unfold flagB
  by_cases h0 : 0 ≤ r.mask
  · by_cases h1 : r.mask ≤ 63
    · cases hb : (Go.bits .andNot .i64 r.set r.mask == 0) with
      | false => simp
      | true =>
        obtain ⟨h2, h3⟩ := andNot_flags _ _ h0 h1 hs hs1 hb
        simp only [h0, h1, h2, decide_true, Bool.true_and]
        cases h4 : (r.mask == 0) with
        | true =>
          have h5 : (r.set == 0) = true := by rw [beq_iff_eq] at h4 ⊢; exact h3 h4
          rw [h5]; simp
        | false => cases (r.proto == 6) <;> rfl
    · simp [h1]
  · simp [h0]
theorem isB_eq (r : RuleV) (hs : -9223372036854775808 ≤ r.set) (hs1 : r.set ≤ 9223372036854775807) : rIsB r = isB r := by
  unfold rIsB isB lookB typeB
  rw [flagB_eq r hs hs1]
  simp only [Bool.not_not]
  generalize (r.pass) = b1
  generalize (r.ret) = b2
  generalize (passB r) = b3
  generalize (emptyB r.on) = b4
  generalize (nameB r.on) = b5
  generalize (decide (0 ≤ r.proto)) = b6
  generalize (decide (r.proto ≤ 255)) = b7
  generalize (sideB r.src r.proto) = b8
  generalize (sideB r.dst r.proto) = b9
  generalize (pinB r.route) = b10
  generalize (pinB r.reply) = b11
  generalize (decide (0 ≤ r.table)) = b12
  generalize (decide (r.table < 4)) = b13
  generalize (decide (-1 ≤ r.type)) = b14
  generalize (decide (r.type ≤ 255)) = b15
  generalize (r.proto == 1) = b16
  generalize (r.type == -1) = b17
  generalize (decide (0 ≤ r.mask) && decide (r.mask ≤ 63) && decide (0 ≤ r.set) && (Go.bits BinOp.andNot IntKind.i64 r.set r.mask == 0)) = b18
  generalize (!r.proto == 6 && (!r.mask == 0 || !r.set == 0)) = b19
  simp only [Bool.not_and, Bool.not_not]
  ac_rfl
theorem sideB_D {s : SideV} {n : Int} (h : Ds s) : sideB s n = false := by
  unfold sideB portsB
  rcases h with h | h
  · by_cases h1 : s.high ≤ 65535
    · have : ¬ s.low ≤ s.high := by omega
      simp [this]
    · simp [h1]
  · have : ¬ s.high ≤ 65535 := by omega
    simp [this]
theorem isB_D {V : RuleV} (h : D16 V) : isB V = false := by
  unfold isB
  rcases h with h | h | h | h | h
  · have : ¬ V.proto ≤ 255 := by omega
    simp [lookB, this]
  · simp [sideB_D h]
  · simp [sideB_D h]
  · have : ¬ V.type ≤ 255 := by omega
    simp [lookB, typeB, this]
  · have : ¬ V.table < 4 := by omega
    simp [this]
theorem set5 (s : St) : (st5 s).V.set = s.V.set := by unfold st5; split <;> rfl
theorem set6 (s : St) : (st6 s).V.set = s.V.set := by unfold st6; split <;> rfl
theorem set15 (s : St) : (st15 s).V.set = s.V.set := by unfold st15; split <;> rfl
theorem set11 (s : St) (h : s.V.set = 0) : 0 ≤ (st11 s).V.set ∧ (st11 s).V.set ≤ 63 := by
  unfold st11 lookV
  simp only
  split
  · rename_i p hp
    unfold lookF at hp
    split at hp
    · simp only [Option.some.injEq] at hp
      subst hp
      exact bitsV_bd _
    · simp at hp
  · rw [h]; omega
theorem parse_set (l : List ByteArray) : 0 ≤ (parseR l).V.set ∧ (parseR l).V.set ≤ 63 := by
  unfold parseR
  rw [set15]
  have h : (st10 (st9 (st8 (st7 (st6 (st5 (st4 (st3 (st2 (st1 ⟨zRule, l, false⟩)))))))))).V.set = 0 := by
    show (st6 _).V.set = 0
    rw [set6, set5]
    show (st2 _).V.set = 0
    unfold st2
    split <;> rfl
  exact set11 _ h
theorem parse_same (l : List ByteArray) : rruleOf l = ruleOf l := by
  have hs := parse_set l
  unfold ruleOf rruleOf
  rcases rel_all l with ⟨h1, h2⟩ | ⟨h1, h2, h3, h4⟩
  · rw [h1]
    rcases h2 with h2 | h2
    · rw [h2]; rfl
    · rw [isB_D h2]; simp
  · rw [h1, h2, h3, h4]
    simp only [id]
    rw [isB_eq _ (by omega) (by omega)]
end Go.Proofs.YtomkohdlaednhaaGreatDoor
