import Derived.Test.YtomkohdlaednhaaGreatDoorBF
set_option linter.unusedSimpArgs false
set_option linter.unusedVariables false
namespace Go.Proofs.YtomkohdlaednhaaGreatDoor
open Go.RowKit Go.Proofs.YtomkohdlaednhaaGreatDoorW.PrintWords PConfParses

/-! ### the rule of some ports -/
/-- One number or two. -/
def rngL (u v : Nat) : List UInt8 := Lib.decDigits u ++ (if u = v then [] else 58 :: Lib.decDigits v)
def rngS (u v : Nat) : ByteArray := mkB (rngL u v)
def portsV (u v p : Nat) : RuleV := { zRef with proto := (p : Int), src := ⟨true, ⟨#[]⟩, 0, 0, (u : Int), (v : Int)⟩, dst := anyV }
def mayB (u v p : Nat) : Bool := decide (u ≤ v) && decide (v ≤ 65535) && (decide (p = 6) || decide (p = 17) || (decide (u = 0) && decide (v = 65535)))
def portsW (u v p : Nat) : List ByteArray := [blockW, protoW, protoS (p : Int), fromW, anyS, portS, rngS u v, toW, anyS]
theorem ports_any (u v : Nat) (rest : List ByteArray) (hu : u < 1000000000) (hv : v < 1000000000) : portsR (portS :: rngS u v :: rest) false = ((u : Int), (v : Int), rest, false) := by
  have n1 := numOk_dec 9 u (by omega) (by omega)
  have n2 := numOk_dec 9 v (by omega) (by omega)
  have m1 := numV_dec 9 u (by omega) (by omega)
  have m2 := numV_dec 9 v (by omega) (by omega)
  have ht : takesB (portS :: rngS u v :: rest) false portS = true := by simp [takesB]
  unfold portsR
  rw [if_pos ht]
  simp only [List.tail_cons, nextS, List.headD_cons, List.isEmpty_cons, Bool.or_false, Bool.false_or]
  rw [rngS, rngL, show (colonS : ByteArray) = ⟨#[58]⟩ from rfl]
  by_cases h : u = v
  · subst h
    simp only [if_true, List.append_nil, cut_plain 58 _ (dec_not 58 (by decide) _), n1, m1]
    rfl
  · simp only [if_neg h, cut_cons 58 _ _ (dec_not 58 (by decide) _), n1, n2, m1, m2, Bool.not_true, Bool.or_false, Bool.false_or]
    have : ¬ (v : Int) = (u : Int) := by omega
    simp [this]
theorem takes_cons (x k : ByteArray) (L : List ByteArray) : takesB (x :: L) false k = decide (x = k) := by simp [takesB]
theorem takesL_cons (x k : ByteArray) (L : List ByteArray) : takesL (x :: L) false k = if x = k then L else x :: L := by
  rw [takesL, takes_cons]
  by_cases h : x = k <;> simp [h]
theorem heads_ne : passW ≠ blockW ∧ blockW ≠ passW ∧ protoW ≠ returnW ∧ protoW ≠ quickW ∧ protoW ≠ onW := by decide +kernel
theorem ports_parse (u v p : Nat) (hu : u < 1000000000) (hv : v < 1000000000) (hp : 1 ≤ p) (hq : p ≤ 255) : parseR (portsW u v p) = ⟨portsV u v p, [], false⟩ := by
  obtain ⟨e1, e2, e3, e4, e5⟩ := heads_ne
  have hs : sideB anyV 6 = true := by decide +kernel
  have hk : 0 ≤ anyV.addr ∧ anyV.addr < 4294967296 := by decide
  obtain ⟨X, hX⟩ : ∃ X, X = rngS u v := ⟨_, rfl⟩
  have s12 : st2 (st1 ⟨zRule, portsW u v p, false⟩) = ⟨zRule, portsW u v p |>.tail, false⟩ := by
    simp only [portsW, st1, st2, takes_cons, takesL_cons, if_neg e2, decide_eq_false e2, List.tail_cons]
    simp [zRule]
  have s3 : st3 ⟨zRule, (portsW u v p).tail, false⟩ = ⟨zRule, (portsW u v p).tail, false⟩ := by
    simp only [portsW, List.tail_cons, st3, takes_cons, takesL_cons, if_neg e3, decide_eq_false e3]
    rfl
  have s4 : st4 ⟨zRule, (portsW u v p).tail, false⟩ = ⟨zRule, (portsW u v p).tail, false⟩ := by
    simp only [portsW, List.tail_cons, st4, takes_cons, takesL_cons, if_neg e4, decide_eq_false e4]
    rfl
  have s5 : st5 ⟨zRule, (portsW u v p).tail, false⟩ = ⟨zRule, (portsW u v p).tail, false⟩ := by
    simp only [portsW, List.tail_cons, st5, takes_cons, decide_eq_false e5]
    rfl
  have h3 := proto_all ⟨p, by omega⟩ (by show p ≠ 0; omega)
  have h4 : protoR (protoS (p : Int) :: [fromW, anyS, portS, rngS u v, toW, anyS]) false = ((p : Int), false) := h3
  have s6 : st6 ⟨zRule, (portsW u v p).tail, false⟩ = ⟨{ zRule with proto := (p : Int) }, [fromW, anyS, portS, rngS u v, toW, anyS], false⟩ := by
    simp only [portsW, List.tail_cons, st6, takes_cons, decide_true, if_true, h4]
  have s7 : ∀ V, st7 ⟨V, [fromW, anyS, portS, rngS u v, toW, anyS], false⟩ = ⟨V, [anyS, portS, rngS u v, toW, anyS], false⟩ := fun V => by
    simp only [st7, takes_cons, takesL_cons, if_true, decide_true, Bool.not_true, Bool.or_false]
  have hh : headR anyS false = (anyV, false) := by rw [headR, if_pos rfl]; rfl
  have s8 : ∀ V, st8 ⟨V, [anyS, portS, rngS u v, toW, anyS], false⟩ = ⟨{ V with src := (portsV u v p).src }, t9 (portsV u v p), false⟩ := fun V => by
    have : sideR [anyS, portS, rngS u v, toW, anyS] false = ((portsV u v p).src, [toW, anyS], false) := by
      simp only [sideR, nextS, List.headD_cons, List.isEmpty_cons, Bool.or_false, List.tail_cons]
      have hh2 : headR anyS false = (anyV, false) := hh
      simp only [hh2, ports_any u v _ hu hv]
      rfl
    rw [st8]
    simp only [this]
    have e0 : emptyB ⟨#[]⟩ = true := by decide +kernel
    simp [portsV, t9, t10, t11, t12, t13, t14, t15, t16, zRef, zRule, anyV, sideT, portsT, headP, allPorts, e0, opt, noPin]
  have hq6 : sideB (portsV u v p).dst (portsV u v p).proto = true := by
    have a : sideBad anyV = false := by decide +kernel
    show sideB anyV (p : Int) = true
    rw [sideB, a, portsB]
    simp [anyV, allPorts]
  unfold parseR
  rw [s12, s3, s4, s5, s6, s7, s8, back9, back10 _ _ hq6 hk,
    back11 _ _ rfl rfl (by show (0 : Int) ≤ 0; decide) (by show (0 : Int) ≤ 63; decide) (by show (0 : Int) ≤ 0; decide) (by show (0 : Int) ≤ 63; decide) (fun _ => rfl) (by show (-1 : Int) ≤ -1; decide) (by show (-1 : Int) ≤ 255; decide), back12, back13 _ _ (show pinB noPin = true by decide +kernel) (show 0 ≤ noPin.gate ∧ noPin.gate < 4294967296 by decide), back14 _ _ (show pinB noPin = true by decide +kernel) (show 0 ≤ noPin.gate ∧ noPin.gate < 4294967296 by decide), back15 _ _ rfl (by show (0 : Int) ≤ 0; decide) (by show (0 : Int) < 4; decide)]
  rfl
theorem ports_isB (u v p : Nat) (hp : 1 ≤ p) (hq : p ≤ 255) : isB (portsV u v p) = mayB u v p := by
  have a : sideBad anyV = false := by decide +kernel
  have b : sideBad (portsV u v p).src = false := by
    show sideBad ⟨true, ⟨#[]⟩, 0, 0, (u : Int), (v : Int)⟩ = false
    have : sideBad ⟨true, ⟨#[]⟩, 0, 0, (u : Int), (v : Int)⟩ = sideBad anyV := rfl
    rw [this, a]
  have c : sideB anyV (p : Int) = true := by
    rw [sideB, a, portsB]
    simp [anyV, allPorts]
  have hb : Go.bits .andNot .i64 0 0 = 0 := by decide +kernel
  have e0 : emptyB ⟨#[]⟩ = true := by decide +kernel
  have hpb : pinB noPin = true := by decide +kernel
  have d : sideB (portsV u v p).src (p : Int) = mayB u v p := by
    rw [sideB, b, portsB, mayB]
    simp only [portsV, allPorts, portedB, Bool.not_false, Bool.true_and]
    have g0 : (0 : Int) ≤ (u : Int) := by omega
    have g1 : ((u : Int) ≤ (v : Int)) ↔ u ≤ v := by omega
    have g2 : ((v : Int) ≤ 65535) ↔ v ≤ 65535 := by omega
    have g3 : ((u : Int) == 0) = decide (u = 0) := by rw [Bool.eq_iff_iff, beq_iff_eq, decide_eq_true_eq]; omega
    have g4 : ((v : Int) == 65535) = decide (v = 65535) := by rw [Bool.eq_iff_iff, beq_iff_eq, decide_eq_true_eq]; omega
    have g5 : ((p : Int) == 6) = decide (p = 6) := by rw [Bool.eq_iff_iff, beq_iff_eq, decide_eq_true_eq]; omega
    have g6 : ((p : Int) == 17) = decide (p = 17) := by rw [Bool.eq_iff_iff, beq_iff_eq, decide_eq_true_eq]; omega
    simp only [g0, g1, g2, g3, g4, g5, g6, decide_true, Bool.true_and]
    cases decide (u ≤ v) <;> cases decide (v ≤ 65535) <;> cases decide (p = 6) <;> cases decide (p = 17) <;> cases (decide (u = 0) && decide (v = 65535)) <;> rfl
  have f1 : (0 : Int) ≤ (p : Int) := by omega
  have f2 : (p : Int) ≤ 255 := by omega
  have hd : (portsV u v p).dst = anyV := rfl
  have hpr : (portsV u v p).proto = (p : Int) := rfl
  simp only [isB, hd, hpr, d, c, passB, lookB, flagB, typeB]
  have hno : noPin.on = false := rfl
  simp [portsV, zRef, zRule, hb, e0, hpb, f1, f2, hno]
theorem ports_rule (u v p : Nat) (hu : u < 1000000000) (hv : v < 1000000000) (hp : 1 ≤ p) (hq : p ≤ 255) : ruleOf (portsW u v p) = if mayB u v p then (portsV u v p, 0) else (zRule, 2) := by
  rw [ruleOf, ports_parse u v p hu hv hp hq]
  simp only [ports_isB u v p hp hq, List.isEmpty_nil, Bool.not_true, Bool.or_false, Bool.false_or]
  cases mayB u v p <;> rfl
/-- What the law's text is made of. -/
def preP : ByteArray := ⟨#[98, 108, 111, 99, 107, 32, 112, 114, 111, 116, 111, 32]⟩
def midP : ByteArray := ⟨#[32, 102, 114, 111, 109, 32, 97, 110, 121, 32, 112, 111, 114, 116, 32]⟩
def endP : ByteArray := ⟨#[32, 116, 111, 32, 97, 110, 121]⟩
theorem ports_text (u v p : Nat) : textOf (portsW u v p) = preP ++ protoS (p : Int) ++ midP ++ rngS u v ++ endP := by
  have e3 : blockW.data.toList ++ tailL [protoW] ++ [32] = preP.data.toList := by decide +kernel
  have e4 : [32] ++ fromW.data.toList ++ tailL [anyS, portS] ++ [32] = midP.data.toList := by decide +kernel
  have e5 : [32] ++ toW.data.toList ++ tailL [anyS] = endP.data.toList := by decide +kernel
  rw [portsW, textOf, join_tail]
  generalize protoS (p : Int) = P
  generalize rngS u v = X
  rw [← mkB_eta preP, ← mkB_eta midP, ← mkB_eta endP, ← e3, ← e4, ← e5, ← mkB_eta P, ← mkB_eta X, mkB_app, mkB_app, mkB_app, mkB_app]
  simp [tailL, mkB_data]
theorem protoS_ok : ∀ n : Fin 256, n.val ≠ 0 → (protoS (n.val : Int)).data.toList ≠ [] ∧ (32 : UInt8) ∉ (protoS (n.val : Int)).data.toList ∧ (protoS (n.val : Int)).size ≤ 4 := by decide +kernel
theorem rng_len (u v : Nat) (hu : u ≤ 99999) (hv : v ≤ 99999) : (rngL u v).length ≤ 11 := by
  have a := dec_len 5 u (by omega) (by omega)
  have b := dec_len 5 v (by omega) (by omega)
  rw [rngL]
  by_cases h : u = v
  · rw [if_pos h, List.append_nil]; omega
  · rw [if_neg h, List.length_append, List.length_cons]; omega
theorem ports_words (u v p : Nat) (hp : 1 ≤ p) (hq : p ≤ 255) : ∀ x ∈ portsW u v p, IsWd x := by
  have key : ∀ x ∈ [blockW, protoW, fromW, anyS, portS, toW], x.data.toList ≠ [] ∧ (32 : UInt8) ∉ x.data.toList := by decide +kernel
  have hpp := protoS_ok ⟨p, by omega⟩ (by show p ≠ 0; omega)
  have hr : IsWd (rngS u v) := by
    refine ⟨?_, ?_⟩
    · rw [rngS, mkB_data, rngL]
      have := dec_ne u
      intro e
      exact this (List.append_eq_nil_iff.1 e).1
    · rw [rngS, mkB_data, rngL, List.mem_append]
      rintro (h | h)
      · exact dec_not 32 (by decide) u h
      · by_cases hh : u = v
        · rw [if_pos hh] at h; simp at h
        · rw [if_neg hh, List.mem_cons] at h
          rcases h with h | h
          · exact absurd h (by decide)
          · exact dec_not 32 (by decide) v h
  intro x hx
  simp only [portsW, List.mem_cons, List.not_mem_nil, or_false] at hx
  rcases hx with rfl | rfl | rfl | rfl | rfl | rfl | rfl | rfl | rfl
  · exact key _ (by simp)
  · exact key _ (by simp)
  · exact ⟨hpp.1, hpp.2.1⟩
  · exact key _ (by simp)
  · exact key _ (by simp)
  · exact key _ (by simp)
  · exact hr
  · exact key _ (by simp)
  · exact key _ (by simp)
end Go.Proofs.YtomkohdlaednhaaGreatDoor
