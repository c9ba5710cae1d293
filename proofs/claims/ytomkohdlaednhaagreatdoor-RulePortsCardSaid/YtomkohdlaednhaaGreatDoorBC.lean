import Derived.Test.YtomkohdlaednhaaGreatDoorBB
set_option linter.unusedSimpArgs false
set_option linter.unusedVariables false
namespace Go.Proofs.YtomkohdlaednhaaGreatDoor
open Go.RowKit Go.Proofs.YtomkohdlaednhaaGreatDoorW.PrintWords PConfParses

/-! ### words and texts -/
def IsWd (x : ByteArray) : Prop := x.data.toList ≠ [] ∧ (32 : UInt8) ∉ x.data.toList
theorem join_two (x y : List UInt8) (L : List (List UInt8)) : Lib.join (x :: y :: L) [32] = x ++ 32 :: Lib.join (y :: L) [32] := by
  simp [Lib.join, List.intercalate, List.intersperse]
theorem join_one (x : List UInt8) : Lib.join [x] [32] = x := by simp [Lib.join, List.intercalate, List.intersperse]
theorem join_cons (x : List UInt8) (L : List (List UInt8)) (h : L ≠ []) : Lib.join (x :: L) [32] = x ++ 32 :: Lib.join L [32] := by
  cases L with
  | nil => exact absurd rfl h
  | cons y L => exact join_two x y L
theorem join_append : ∀ (A B : List (List UInt8)), A ≠ [] → B ≠ [] → Lib.join (A ++ B) [32] = Lib.join A [32] ++ 32 :: Lib.join B [32]
  | [], _, h, _ => absurd rfl h
  | [x], B, _, hB => by rw [List.singleton_append, join_cons x B hB, join_one]
  | x :: y :: A, B, _, hB => by
    rw [List.cons_append, join_cons x _ (by simp), join_append (y :: A) B (by simp) hB, join_two]
    simp
theorem wds_word : ∀ (x p l : List UInt8), (32 : UInt8) ∉ x → wds p (x ++ l) = wds (p ++ x) l
  | [], p, l, _ => by simp
  | b :: x, p, l, h => by
    simp only [List.mem_cons, not_or] at h
    rw [List.cons_append, wds_miss (fun e => h.1 e.symm), wds_word x _ l h.2]
    simp
theorem wds_join : ∀ L : List (List UInt8), (∀ x ∈ L, x ≠ [] ∧ (32 : UInt8) ∉ x) → wds [] (Lib.join L [32]) = L.map mkB
  | [], _ => by simp [Lib.join, List.intercalate, wds_end]
  | [x], h => by
    have hx := h x (by simp)
    rw [join_one]
    have := wds_word x [] [] hx.2
    rw [List.append_nil, List.nil_append] at this
    rw [this, wds_end, if_pos (by cases x with | nil => exact absurd rfl hx.1 | cons _ _ => simp)]
    rfl
  | x :: y :: L, h => by
    have hx := h x (by simp)
    rw [join_two, wds_word x [] _ hx.2, List.nil_append, wds_hit, if_pos (by cases x with | nil => exact absurd rfl hx.1 | cons _ _ => simp), wds_join (y :: L) (fun z hz => h z (List.mem_cons_of_mem _ hz))]
    rfl
def datas (T : List ByteArray) : List (List UInt8) := T.map (·.data.toList)
theorem mkB_datas (T : List ByteArray) : (datas T).map mkB = T := by
  rw [datas, List.map_map]
  have : (mkB ∘ fun x : ByteArray => x.data.toList) = id := by funext x; exact mkB_eta x
  rw [this]; simp
/-- Words as a text. -/
def textOf (T : List ByteArray) : ByteArray := mkB (Lib.join (datas T) [32])
theorem words_text (T : List ByteArray) (h : ∀ x ∈ T, IsWd x) : wordsS (textOf T) = T := by
  rw [wordsS_eq, textOf, mkB_data, wds_join _ (fun x hx => by
    obtain ⟨y, hy, rfl⟩ := List.mem_map.1 hx
    exact h y hy), mkB_datas]
/-- Words as a text with more blanks. -/
def blanksL : List ByteArray → List UInt8
  | [] => [32]
  | x :: T => 32 :: 32 :: (x.data.toList ++ blanksL T)
theorem blanks_head : ∀ T : List ByteArray, ∃ l, blanksL T = 32 :: l
  | [] => ⟨_, rfl⟩
  | x :: T => ⟨_, rfl⟩
theorem wds_blanks : ∀ T : List ByteArray, (∀ x ∈ T, IsWd x) → wds [] (blanksL T) = T
  | [], _ => by
    rw [blanksL, wds_hit, wds_end]; rfl
  | x :: T, h => by
    have hx := h x (by simp)
    have ih := wds_blanks T (fun z hz => h z (by simp [hz]))
    rw [blanksL, wds_hit, wds_hit]
    simp only [List.length_nil, Nat.lt_irrefl, if_false, List.nil_append]
    rw [wds_word _ [] _ hx.2, List.nil_append]
    obtain ⟨l, hl⟩ := blanks_head T
    rw [hl] at ih ⊢
    rw [wds_hit] at ih ⊢
    simp only [List.length_nil, Nat.lt_irrefl, if_false, List.nil_append] at ih
    rw [ih, if_pos (by
      have := hx.1
      cases hq : x.data.toList with
      | nil => exact absurd hq this
      | cons _ _ => simp), mkB_eta]
    rfl

/-! ### a rule's words -/
def opt (b : Bool) (l : List ByteArray) : List ByteArray := if b then l else []
def headP (s : SideV) : ByteArray := if emptyB s.table then (if s.any then anyS else pfxP s.addr s.len) else mkB (60 :: (s.table.data.toList ++ [62]))
def rangeL (s : SideV) : List UInt8 := Lib.itoa s.low ++ (if s.low < s.high then 58 :: Lib.itoa s.high else [])
def rangeP (s : SideV) : ByteArray := mkB (rangeL s)
def portsT (s : SideV) : List ByteArray := opt (!allPorts s) [portS, rangeP s]
def sideT (s : SideV) : List ByteArray := headP s :: portsT s
def flagsP (r : RuleV) : ByteArray := mkB ((flagsS r.set).data.toList ++ 47 :: (flagsS r.mask).data.toList)
def t16 (r : RuleV) : List ByteArray := opt (!(r.table == 0)) [tableW, itoaS r.table]
def t15 (r : RuleV) : List ByteArray := opt r.reply.on [replyW, r.reply.iface, addrP r.reply.gate] ++ t16 r
def t14 (r : RuleV) : List ByteArray := opt r.route.on [routeW, r.route.iface, addrP r.route.gate] ++ t15 r
def t13 (r : RuleV) : List ByteArray := opt r.keep [keepW] ++ t14 r
def t12 (r : RuleV) : List ByteArray := opt (!(r.type == -1)) [typeW, itoaS r.type] ++ t13 r
def t11 (r : RuleV) : List ByteArray := opt (!(r.mask == 0)) [flagsW, flagsP r] ++ t12 r
def t10 (r : RuleV) : List ByteArray := sideT r.dst ++ t11 r
def t9 (r : RuleV) : List ByteArray := toW :: t10 r
def t8 (r : RuleV) : List ByteArray := sideT r.src ++ t9 r
def t7 (r : RuleV) : List ByteArray := fromW :: t8 r
def t6 (r : RuleV) : List ByteArray := opt (!(r.proto == 0)) [protoW, protoS r.proto] ++ t7 r
def t5 (r : RuleV) : List ByteArray := opt (!emptyB r.on) [onW, r.on] ++ t6 r
def t4 (r : RuleV) : List ByteArray := opt r.quick [quickW] ++ t5 r
def t3 (r : RuleV) : List ByteArray := opt r.ret [returnW] ++ t4 r
/-- A rule's words. -/
def toks (r : RuleV) : List ByteArray := (if r.pass then passW else blockW) :: t3 r

/-! ### heads -/
theorem nk {k : ByteArray} {ks : List ByteArray} (h : ks.all (fun x => !decide (x = k)) = true) : k ∉ ks := by
  intro hm
  have := List.all_eq_true.1 h k hm
  simp at this
def HeadIn (l ks : List ByteArray) : Prop := ∀ x, l.head? = some x → x ∈ ks
theorem HeadIn.nil {ks : List ByteArray} : HeadIn [] ks := fun x h => by simp at h
theorem HeadIn.opt {b : Bool} {k : ByteArray} {xs rest ks : List ByteArray} (h : HeadIn rest ks) : HeadIn (opt b (k :: xs) ++ rest) (k :: ks) := by
  intro x hx
  unfold Go.Proofs.YtomkohdlaednhaaGreatDoor.opt at hx
  cases b with
  | true => simp at hx; subst hx; simp
  | false => simp at hx; exact List.mem_cons_of_mem _ (h x hx)
theorem HeadIn.cons {k : ByteArray} {rest : List ByteArray} : HeadIn (k :: rest) [k] := by
  intro x hx; simp at hx; subst hx; simp
theorem HeadIn.no {l ks : List ByteArray} {w : ByteArray} (h : HeadIn l ks) (hw : w ∉ ks) : takesB l false w = false := by
  unfold takesB
  simp only [Bool.not_false, Bool.true_and, decide_eq_false_iff_not]
  intro e
  exact hw (h w e)
theorem takes_opt {b : Bool} {k : ByteArray} {xs rest ks : List ByteArray} (h : HeadIn rest ks) (hk : k ∉ ks) : takesB (opt b (k :: xs) ++ rest) false k = b := by
  cases b with
  | true => simp [opt, takesB]
  | false => exact h.no hk
theorem takesL_opt {b : Bool} {k : ByteArray} {xs rest ks : List ByteArray} (h : HeadIn rest ks) (hk : k ∉ ks) : takesL (opt b (k :: xs) ++ rest) false k = opt b xs ++ rest := by
  rw [takesL, takes_opt h hk]
  cases b with
  | true => simp [opt]
  | false => simp [opt]
abbrev k16 : List ByteArray := [tableW]
abbrev k15 : List ByteArray := replyW :: k16
abbrev k14 : List ByteArray := routeW :: k15
abbrev k13 : List ByteArray := keepW :: k14
abbrev k12 : List ByteArray := typeW :: k13
abbrev k11 : List ByteArray := flagsW :: k12
abbrev k7 : List ByteArray := [fromW]
abbrev k6 : List ByteArray := protoW :: k7
abbrev k5 : List ByteArray := onW :: k6
abbrev k4 : List ByteArray := quickW :: k5
theorem h16 (r : RuleV) : HeadIn (t16 r) k16 := by
  have := HeadIn.opt (b := !(r.table == 0)) (k := tableW) (xs := [itoaS r.table]) (HeadIn.nil (ks := []))
  rw [List.append_nil] at this
  exact this
theorem h15 (r : RuleV) : HeadIn (t15 r) k15 := (h16 r).opt
theorem h14 (r : RuleV) : HeadIn (t14 r) k14 := (h15 r).opt
theorem h13 (r : RuleV) : HeadIn (t13 r) k13 := (h14 r).opt
theorem h12 (r : RuleV) : HeadIn (t12 r) k12 := (h13 r).opt
theorem h11 (r : RuleV) : HeadIn (t11 r) k11 := (h12 r).opt
theorem h7 (r : RuleV) : HeadIn (t7 r) k7 := HeadIn.cons
theorem h6 (r : RuleV) : HeadIn (t6 r) k6 := (h7 r).opt
theorem h5 (r : RuleV) : HeadIn (t5 r) k5 := (h6 r).opt
theorem h4 (r : RuleV) : HeadIn (t4 r) k4 := (h5 r).opt

/-! ### a rule's numbers are of their kinds -/
structure Kinds (r : RuleV) : Prop where
  src : 0 ≤ r.src.addr ∧ r.src.addr < 4294967296
  dst : 0 ≤ r.dst.addr ∧ r.dst.addr < 4294967296
  route : 0 ≤ r.route.gate ∧ r.route.gate < 4294967296
  reply : 0 ≤ r.reply.gate ∧ r.reply.gate < 4294967296

/-! ### a side, back -/
theorem emptyB_iff (s : ByteArray) : emptyB s = true ↔ s = ⟨#[]⟩ := by rw [empty_eq, decide_eq_true_eq]
theorem data_ne {s : ByteArray} (h : emptyB s = false) : s.data.toList ≠ [] := by
  intro e
  have : s = ⟨#[]⟩ := by rw [← Lib.mk_data s, e]
  rw [(emptyB_iff s).2 this] at h
  exact absurd h (by decide)
theorem sideB_ad (s : SideV) (p : Int) : sideB s p = (adB s && portsB s p) := by rw [sideB, adB_eq]
theorem pfxB_len {a n : Int} (h : pfxB a n = true) : 0 ≤ n ∧ n ≤ 32 := by
  simp only [pfxB, Bool.and_eq_true, beq_iff_eq] at h
  have := heldV_bd n
  omega
theorem first_not {l : List UInt8} {s : ByteArray} (h : s = mkB l) (c : UInt8) (hc : l.head? ≠ some c) (x : ByteArray) (hx : x.data.toList.head? = some c) : s ≠ x := by
  intro e
  apply hc
  have : l = x.data.toList := by rw [← e, h, mkB_data]
  rw [this]; exact hx
theorem addr_head (a : Int) : ∃ c l, addrL a = c :: l ∧ isDig c = true := by
  unfold addrL
  cases hq : Lib.decDigits (oct a 3) with
  | nil => exact absurd hq (dec_ne _)
  | cons c l =>
    refine ⟨c, _, rfl, ?_⟩
    have := dec_all (oct a 3)
    rw [hq] at this
    simp at this
    exact this.1
theorem head_back (s : SideV) (h : adB s = true) (ha : 0 ≤ s.addr) (ha1 : s.addr < 4294967296) : headR (headP s) false = ({ s with low := 0, high := 65535 }, false) := by
  unfold adB at h
  unfold headP
  cases ht : emptyB s.table with
  | true =>
    have hte := (emptyB_iff _).1 ht
    rw [ht] at h
    cases hn : s.any with
    | true =>
      rw [hn] at h
      simp only [if_true, Bool.true_and, nonePfx, Bool.and_eq_true, beq_iff_eq] at h
      simp only [if_true, headR]
      obtain ⟨e1, e2⟩ := h
      cases s
      simp only at hte hn e1 e2
      subst hte hn e1 e2
      rfl
    | false =>
      rw [hn] at h
      simp only [Bool.false_eq_true, if_false, if_true] at h
      simp only [Bool.false_eq_true, if_true, if_false]
      have hl := pfxB_len h
      have hb := pfx_back s.addr s.len ha ha1 hl.1 hl.2
      have hp : pfxP s.addr s.len = mkB (pfxL s.addr s.len) := by rw [pfxP, if_neg (by omega)]
      obtain ⟨c, l, hcl, hc⟩ := addr_head s.addr
      have hh : (pfxL s.addr s.len).head? = some c := by rw [pfxL, hcl]; rfl
      have n1 : pfxP s.addr s.len ≠ anyS := first_not hp 97 (by rw [hh]; intro e; simp at e; subst e; exact absurd hc (by decide)) _ rfl
      have n2 : isTab (pfxP s.addr s.len) = false := by
        have e1 : ltS.data.toList = [60] := rfl
        rw [isTab, hp, mkB_data, e1, pfxL, hcl]
        have : (60 == c) = false := by rw [beq_eq_false_iff_ne]; intro e; subst e; exact absurd hc (by decide)
        simp [Lib.hasPrefix, List.isPrefixOf, this]
      rw [headR, if_neg n1, if_neg (by rw [n2]; decide), hb]
      cases s
      simp only at hte hn
      subst hte hn
      rfl
  | false =>
    rw [ht] at h
    have hn : s.any = false := by
      cases hq : s.any with
      | true => rw [hq] at h; simp at h
      | false => rfl
    rw [hn] at h
    simp only [Bool.false_eq_true, if_false, nonePfx, Bool.and_eq_true, beq_iff_eq] at h ⊢
    obtain ⟨_, e1, e2⟩ := h
    have hne := data_ne ht
    have hsz : 1 ≤ s.table.data.toList.length := by
      cases hq : s.table.data.toList with
      | nil => exact absurd hq hne
      | cons _ _ => simp
    have n1 : mkB (60 :: (s.table.data.toList ++ [62])) ≠ anyS := first_not rfl 97 (by simp) _ rfl
    have n2 : isTab (mkB (60 :: (s.table.data.toList ++ [62]))) = true := by
      have e1 : ltS.data.toList = [60] := rfl
      have e2 : gtS.data.toList = [62] := rfl
      rw [isTab, mkB_data, e1, e2, Bool.and_eq_true]
      refine ⟨by simp [Lib.hasPrefix, List.isPrefixOf], ?_⟩
      rw [Lib.hasSuffix, List.isSuffixOf_iff_suffix]
      exact ⟨60 :: s.table.data.toList, by simp⟩
    have n3 : (mkB (60 :: (s.table.data.toList ++ [62]))).extract 1 ((mkB (60 :: (s.table.data.toList ++ [62]))).size - 1) = s.table := by
      rw [extract_slice, mkB_data, mkB_size]
      simp [mkB_eta]
    rw [headR, if_neg n1, if_pos n2, n3]
    have n4 : ¬ s.table = ⟨#[]⟩ := fun e => by rw [(emptyB_iff _).2 e] at ht; exact absurd ht (by decide)
    cases s
    simp only at hn e1 e2 n4
    subst hn e1 e2
    simp [n4]
theorem ports_back (s : SideV) (p : Int) (x : ByteArray) (h : portsB s p = true) (rest ks : List ByteArray) (hr : HeadIn rest ks) (hk : portS ∉ ks) : portsR (portsT s ++ rest) false = (s.low, s.high, rest, false) := by
  simp only [portsB, Bool.and_eq_true, decide_eq_true_eq] at h
  obtain ⟨⟨⟨h1, h2⟩, h3⟩, -⟩ := h
  unfold portsR
  rw [portsT, takes_opt hr hk]
  cases hq : allPorts s with
  | true =>
    simp only [allPorts, Bool.and_eq_true, beq_iff_eq] at hq
    simp [opt, hq.1, hq.2]
  | false =>
    simp only [Bool.not_false, if_true, opt, List.cons_append, List.nil_append, List.tail_cons, nextS, List.headD_cons, List.isEmpty_cons, Bool.or_false, Bool.false_or]
    obtain ⟨u, hu⟩ := Int.eq_ofNat_of_zero_le h1
    obtain ⟨v, hv⟩ := Int.eq_ofNat_of_zero_le (Int.le_trans h1 h2)
    rw [rangeP, rangeL, hu, hv, Lib.itoa_nonneg, Lib.itoa_nonneg, show (colonS : ByteArray) = ⟨#[58]⟩ from rfl]
    have n1 := numOk_dec 9 u (by omega) (by omega)
    have n2 := numOk_dec 9 v (by omega) (by omega)
    have m1 := numV_dec 9 u (by omega) (by omega)
    have m2 := numV_dec 9 v (by omega) (by omega)
    by_cases hlt : u < v
    · have hlt' : (u : Int) < (v : Int) := by omega
      simp only [hlt', if_true, cut_cons 58 _ _ (dec_not 58 (by decide) _), n1, n2, m1, m2, Bool.not_true, Bool.or_false, Bool.false_or]
      have : ¬ (v : Int) = (u : Int) := by omega
      simp [this]
    · have : u = v := by omega
      subst this
      simp only [Int.lt_irrefl, if_false, List.append_nil, cut_plain 58 _ (dec_not 58 (by decide) _), n1, m1]
      rfl
theorem side_back (s : SideV) (p : Int) (h : sideB s p = true) (ha : 0 ≤ s.addr ∧ s.addr < 4294967296) (rest ks : List ByteArray) (hr : HeadIn rest ks) (hk : portS ∉ ks) : sideR (sideT s ++ rest) false = (s, rest, false) := by
  rw [sideB_ad, Bool.and_eq_true] at h
  have h1 := head_back s h.1 ha.1 ha.2
  have h2 := ports_back s p (headP s) h.2 rest ks hr hk
  simp only [sideR, sideT, List.cons_append, nextS, List.headD_cons, List.isEmpty_cons, Bool.or_false, List.tail_cons, h1, h2]

/-! ### the steps, back -/
theorem back1 (r : RuleV) : st2 (st1 ⟨zRule, toks r, false⟩) = ⟨{ zRule with pass := r.pass }, t3 r, false⟩ := by
  unfold toks
  cases hp : r.pass with
  | true => simp [st1, st2, takesB, takesL]
  | false =>
    have : ¬ blockW = passW := by decide
    simp [st1, st2, takesB, takesL, this]
theorem back3 (V r : RuleV) : st3 ⟨V, t3 r, false⟩ = ⟨{ V with ret := r.ret }, t4 r, false⟩ := by
  rw [st3, t3, takes_opt (h4 r) (nk (by decide)), takesL_opt (h4 r) (nk (by decide))]
  cases r.ret <;> rfl
theorem back4 (V r : RuleV) : st4 ⟨V, t4 r, false⟩ = ⟨{ V with quick := r.quick }, t5 r, false⟩ := by
  rw [st4, t4, takes_opt (h5 r) (nk (by decide)), takesL_opt (h5 r) (nk (by decide))]
  cases r.quick <;> rfl
theorem back5 (V r : RuleV) (hV : V.on = ⟨#[]⟩) : st5 ⟨V, t5 r, false⟩ = ⟨{ V with on := r.on }, t6 r, false⟩ := by
  rw [st5, t5, takes_opt (h6 r) (nk (by decide))]
  cases hq : emptyB r.on with
  | true =>
    have := (emptyB_iff _).1 hq
    simp only [Bool.not_true, Bool.false_eq_true, if_false, opt, List.nil_append]
    cases V
    simp only at hV
    subst hV
    rw [this]
  | false => simp [opt, nextS, hq]
theorem proto_all : ∀ n : Fin 256, n.val ≠ 0 → (protoR [protoS (n.val : Int)] false = ((n.val : Int), false)) := by decide +kernel
theorem back6 (V r : RuleV) (hV : V.proto = 0) (h0 : 0 ≤ r.proto) (h1 : r.proto ≤ 255) : st6 ⟨V, t6 r, false⟩ = ⟨{ V with proto := r.proto }, t7 r, false⟩ := by
  rw [st6, t6, takes_opt (h7 r) (nk (by decide))]
  obtain ⟨u, hu⟩ := Int.eq_ofNat_of_zero_le h0
  rw [hu]
  by_cases hz : u = 0
  · subst hz
    simp only [Int.natCast_zero, beq_self_eq_true, Bool.not_true, Bool.false_eq_true, if_false, opt, List.nil_append]
    cases V
    simp only at hV
    subst hV
    rfl
  · have h2 : (((u : Int) == 0)) = false := by rw [beq_eq_false_iff_ne]; omega
    have h3 := proto_all ⟨u, by omega⟩ hz
    have h4 : protoR (protoS (u : Int) :: t7 r) false = ((u : Int), false) := h3
    simp only [h2, Bool.not_false, if_true, opt, List.cons_append, List.nil_append, List.tail_cons, h4]
theorem back7 (V r : RuleV) : st7 ⟨V, t7 r, false⟩ = ⟨V, t8 r, false⟩ := by simp [st7, t7, takesB, takesL]
theorem back8 (V r : RuleV) (h : sideB r.src r.proto = true) (ha : 0 ≤ r.src.addr ∧ r.src.addr < 4294967296) : st8 ⟨V, t8 r, false⟩ = ⟨{ V with src := r.src }, t9 r, false⟩ := by
  rw [st8, t8]
  simp only [side_back r.src r.proto h ha (t9 r) [toW] HeadIn.cons (nk (by decide))]
theorem back9 (V r : RuleV) : st9 ⟨V, t9 r, false⟩ = ⟨V, t10 r, false⟩ := by simp [st9, t9, takesB, takesL]
theorem back10 (V r : RuleV) (h : sideB r.dst r.proto = true) (ha : 0 ≤ r.dst.addr ∧ r.dst.addr < 4294967296) : st10 ⟨V, t10 r, false⟩ = ⟨{ V with dst := r.dst }, t11 r, false⟩ := by
  rw [st10, t10]
  simp only [side_back r.dst r.proto h ha (t11 r) k11 (h11 r) (nk (by decide))]
theorem flags_plain : ∀ n : Fin 64, (47 : UInt8) ∉ (flagsS (n.val : Int)).data.toList := by decide +kernel
theorem lookF_back (r : RuleV) (h0 : 0 ≤ r.set) (h1 : r.set ≤ 63) (h2 : 0 ≤ r.mask) (h3 : r.mask ≤ 63) : lookF (t11 r) false = (if r.mask = 0 then none else some (r.set, r.mask), t12 r, false) := by
  rw [lookF, t11, takes_opt (h12 r) (nk (by decide))]
  by_cases hz : r.mask = 0
  · simp [hz, opt]
  · have hz2 : (r.mask == 0) = false := by rw [beq_eq_false_iff_ne]; exact hz
    obtain ⟨u, hu⟩ := Int.eq_ofNat_of_zero_le h0
    obtain ⟨v, hv⟩ := Int.eq_ofNat_of_zero_le h2
    have hc : cutS (flagsP r) slashS = (flagsS r.set, flagsS r.mask, true) := by
      rw [flagsP, show (slashS : ByteArray) = ⟨#[47]⟩ from rfl, hu, cut_cons 47 _ _ (flags_plain ⟨u, by omega⟩), mkB_eta, mkB_eta]
    have b1 : bitsF (flagsS r.set) = some u := bitsF_some (by omega) (by rw [hu])
    have b2 : bitsF (flagsS r.mask) = some v := bitsF_some (by omega) (by rw [hv])
    simp only [hz2, hz, Bool.not_false, if_true, if_false, opt, List.cons_append, List.nil_append, List.tail_cons, nextS, List.headD_cons, List.isEmpty_cons, hc, bitsV, b1, b2, Option.isNone_some, Option.getD_some, Bool.or_false, Bool.false_or]
    rw [← hu, ← hv]
    simp [hz]
theorem lookT_back (r : RuleV) (h0 : -1 ≤ r.type) (h1 : r.type ≤ 255) : lookT (t12 r) false = (r.type, t13 r, false) := by
  rw [lookT, t12, takes_opt (h13 r) (nk (by decide))]
  by_cases hz : r.type = -1
  · simp [hz, opt]
  · have hz2 : (r.type == -1) = false := by rw [beq_eq_false_iff_ne]; exact hz
    obtain ⟨u, hu⟩ := Int.eq_ofNat_of_zero_le (show 0 ≤ r.type by omega)
    simp only [hz2, Bool.not_false, if_true, opt, List.cons_append, List.nil_append, List.tail_cons, nextS, List.headD_cons, List.isEmpty_cons]
    rw [hu, itoaS_nat, numV_dec 9 u (by omega) (by omega), numOk_dec 9 u (by omega) (by omega)]
    rfl
theorem back11 (V r : RuleV) (hs : V.set = 0) (hm : V.mask = 0) (h0 : 0 ≤ r.set) (h1 : r.set ≤ 63) (h2 : 0 ≤ r.mask) (h3 : r.mask ≤ 63) (h4 : r.mask = 0 → r.set = 0) (h5 : -1 ≤ r.type) (h6 : r.type ≤ 255) :
    st11 ⟨V, t11 r, false⟩ = ⟨{ V with set := r.set, mask := r.mask, type := r.type }, t13 r, false⟩ := by
  simp only [st11, lookV, lookF_back r h0 h1 h2 h3, lookT_back r h5 h6]
  by_cases hz : r.mask = 0
  · rw [h4 hz, hz]
    simp only [if_true, hs, hm]
  · simp only [hz, if_false]
theorem back12 (V r : RuleV) : st12 ⟨V, t13 r, false⟩ = ⟨{ V with keep := r.keep }, t14 r, false⟩ := by
  rw [st12, t13, takes_opt (h14 r) (nk (by decide)), takesL_opt (h14 r) (nk (by decide))]
  cases r.keep <;> rfl
theorem pin_back (p : PinV) (w : ByteArray) (rest ks : List ByteArray) (hr : HeadIn rest ks) (hk : w ∉ ks) (h : pinB p = true) (hg : 0 ≤ p.gate ∧ p.gate < 4294967296) : pinR (opt p.on [w, p.iface, addrP p.gate] ++ rest) false w = (p, rest, false) := by
  rw [pinR, takes_opt hr hk]
  cases ho : p.on with
  | true =>
    simp only [if_true, opt, List.cons_append, List.nil_append, List.tail_cons, nextS, List.headD_cons, List.isEmpty_cons, addr_back p.gate hg.1 hg.2]
    cases p
    simp only at ho
    subst ho
    simp
  | false =>
    simp only [pinB, ho, Bool.false_and, Bool.false_or, Bool.not_false, Bool.true_and, Bool.and_eq_true, decide_eq_true_eq] at h
    simp only [Bool.false_eq_true, if_false, opt, List.nil_append, noPin]
    cases p
    simp only at ho h
    rw [ho, h.1, h.2]
theorem back13 (V r : RuleV) (h : pinB r.route = true) (hg : 0 ≤ r.route.gate ∧ r.route.gate < 4294967296) : st13 ⟨V, t14 r, false⟩ = ⟨{ V with route := r.route }, t15 r, false⟩ := by
  rw [st13, t14]
  simp only [pin_back r.route routeW (t15 r) k15 (h15 r) (nk (by decide)) h hg]
theorem back14 (V r : RuleV) (h : pinB r.reply = true) (hg : 0 ≤ r.reply.gate ∧ r.reply.gate < 4294967296) : st14 ⟨V, t15 r, false⟩ = ⟨{ V with reply := r.reply }, t16 r, false⟩ := by
  rw [st14, t15]
  simp only [pin_back r.reply replyW (t16 r) k16 (h16 r) (nk (by decide)) h hg]
theorem back15 (V r : RuleV) (hV : V.table = 0) (h0 : 0 ≤ r.table) (h1 : r.table < 4) : st15 ⟨V, t16 r, false⟩ = ⟨{ V with table := r.table }, [], false⟩ := by
  have ht : takesB (t16 r) false tableW = !(r.table == 0) := by
    have := takes_opt (b := !(r.table == 0)) (k := tableW) (xs := [itoaS r.table]) (HeadIn.nil (ks := [])) (nk (by decide))
    rw [List.append_nil] at this
    exact this
  rw [st15, ht, t16]
  by_cases hz : r.table = 0
  · simp only [hz, beq_self_eq_true, Bool.not_true, Bool.false_eq_true, if_false, opt]
    cases V
    simp only at hV
    subst hV
    rfl
  · have hz2 : (r.table == 0) = false := by rw [beq_eq_false_iff_ne]; exact hz
    obtain ⟨u, hu⟩ := Int.eq_ofNat_of_zero_le h0
    simp only [hz2, Bool.not_false, if_true, opt, List.tail_cons, nextS, List.headD_cons, List.isEmpty_cons]
    rw [hu, itoaS_nat, numV_dec 9 u (by omega) (by omega), numOk_dec 9 u (by omega) (by omega)]
    simp
    omega

/-- A rule that may be, told by its words, is it. -/
theorem parse_toks (r : RuleV) (h : isB r = true) (hk : Kinds r) (hs : -9223372036854775808 ≤ r.set) (hs1 : r.set ≤ 9223372036854775807) : parseR (toks r) = ⟨r, [], false⟩ := by
  simp only [isB, lookB, typeB, flagB, Bool.and_eq_true, decide_eq_true_eq] at h
  obtain ⟨⟨⟨⟨⟨⟨⟨⟨⟨hpr, hps⟩, hon⟩, ⟨⟨⟨p0, p1⟩, ⟨⟨⟨m0, m1⟩, mb⟩, mp⟩⟩, ⟨⟨y0, y1⟩, yp⟩⟩⟩, hsrc⟩, hdst⟩, hro⟩, hre⟩, b0⟩, b1⟩ := h
  obtain ⟨s0, s1⟩ := andNot_flags _ _ m0 m1 hs hs1 mb
  have s2 : r.set ≤ 63 := andNot_le _ _ m0 m1 hs hs1 mb
  unfold parseR
  rw [back1, back3, back4, back5 _ _ rfl, back6 _ _ rfl p0 p1, back7, back8 _ _ hsrc hk.src, back9, back10 _ _ hdst hk.dst,
    back11 _ _ rfl rfl s0 s2 m0 m1 s1 y0 y1, back12, back13 _ _ hro hk.route, back14 _ _ hre hk.reply, back15 _ _ rfl b0 b1]
theorem rule_toks (r : RuleV) (h : isB r = true) (hk : Kinds r) (hs : -9223372036854775808 ≤ r.set) (hs1 : r.set ≤ 9223372036854775807) : ruleOf (toks r) = (r, 0) := by
  rw [ruleOf, parse_toks r h hk hs hs1]
  simp [h]
end Go.Proofs.YtomkohdlaednhaaGreatDoor
