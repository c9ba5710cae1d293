import Derived.Test.YtomkohdlaednhaaGreatDoorAG
set_option linter.unusedSimpArgs false
set_option linter.unusedVariables false
namespace Go.Proofs.YtomkohdlaednhaaGreatDoor
open Go.RowKit Go.Proofs.YtomkohdlaednhaaGreatDoorW.PrintWords PConfParses

/-- A rule's text while it is made: the rule at block n, the words so far behind block q. -/
structure PrSt (w0 w : World) (n q : Nat) (r : RuleV) (L : List ByteArray) : Prop where
  rb : w.heap[n]? = some (ruleBlk r)
  own : ∃ v, w.heap[q]? = some (.cells #[v] 43 (0, 0)) ∧ OwnS w (n + 1) v L
  lt : n < q
  ge : w0.heap.size ≤ n
  below : Grows w0 w
theorem PrSt.grow {w0 w w1 n q r L} (h : PrSt w0 w n q r L) (hb : Grows w w1) : PrSt w0 w1 n q r L := by
  obtain ⟨v, h1, h2⟩ := h.own
  exact ⟨blkG h.rb hb, ⟨v, blkG h1 hb, h2.grow hb⟩, h.lt, h.ge, below_then h.below h.below.size hb⟩
theorem OwnS.far {w : World} {base q : Nat} {v u x : Value} {L} (h : OwnS w base v L) (hq : w.heap[q]? = some (.cells #[x] 43 (0, 0))) : OwnS (w.setCell ⟨q, 0, none⟩ u) base v L := by
  refine ⟨h.1, ?_⟩
  rcases h.2 with h | ⟨g, cap, cur, e1, e2, e3, e4⟩
  · exact .inl h
  · refine .inr ⟨g, cap, cur, e1, e2, blk_far (p := ⟨q, 0, none⟩) e3 ?_ u, e4⟩
    show g ≠ q
    intro e
    subst e
    rw [hq] at e3
    simp at e3
theorem OwnS.ne {w : World} {base q : Nat} {v x : Value} {L} (h : OwnS w base v L) (hq : w.heap[q]? = some (.cells #[x] 43 (0, 0))) : some q ≠ v.ownBlock := by
  rcases h.2 with ⟨rfl, _⟩ | ⟨g, cap, cur, rfl, e2, e3, e4⟩
  · simp [Value.ownBlock]
  · simp only [Value.ownBlock, ne_eq, Option.some.injEq]
    intro e
    subst e
    rw [hq] at e3
    simp at e3
set_option maxHeartbeats 1000000 in
theorem add_calls (w0 w : World) (n q bw : Nat) (r : RuleV) (L W : List ByteArray) (yes : Bool) (h : PrSt w0 w n q r L) (hW : w.heap[bw]? = some (.cells (W.map Value.string).toArray 9 (0, 0))) (hL : L.length + W.length ≤ 1000) :
    Calls Tryz.prog 52 #[.bool yes, .slice (some ⟨bw, 0, none⟩) W.length W.length, .pointer (some ⟨q, 0, none⟩)] w fun e w' => e = .returned (.tuple #[]) ∧ PrSt w0 w' n q r (L ++ opt yes W) := by
  cases yes with
  | false =>
    go_enter Tryz.func52, Tryz.ntmps52
    go_wp2_with fail
    go_end0
    exact ⟨rfl, by simpa [opt] using h⟩
  | true =>
    obtain ⟨v, hq, ho⟩ := h.own
    have c0 : w.cell? ⟨q, 0, none⟩ = some v := (blk_cell hq 0).trans rfl
    have f0 := blk_frozen hq 0
    obtain ⟨i0, hi, hz0, hz1, hz2⟩ := info_parts info9
    have HI := Lib.hid (And.intro hi (And.intro hz0 (And.intro hz1 hz2)))
    clear hi hz0 hz1 hz2
    have H := Lib.hid h
    have HQ := Lib.hid hq
    have HO := Lib.hid ho
    have HWW := Lib.hid hW
    have HLL := Lib.hid hL
    clear h hq ho hW hL
    go_enter Tryz.func52, Tryz.ntmps52
    go_wp2_with (at_builtin; refine wpList_append_own _ rfl _ _ 43 rfl (n + 1) 9 i0 (.string ⟨#[]⟩) 1 16 Tryz.underlying43 HI.out.1 HI.out.2.1 HI.out.2.2.1 HI.out.2.2.2 rfl (by decide) _ _ _ rfl HO.out ⟨bw, 0, none⟩ W.length W.length (W.map Value.string) rfl (by simp) ?c1 ?c2 ?c3 ?c4 ?c5 ?_)
    case c1 =>
      intro j u hj
      have e : ((⟨bw, 0, none⟩ : Addr).add j) = ⟨bw, j, none⟩ := by unfold Addr.add; split <;> simp_all
      rw [e]
      exact (blk_cell HWW.out j).trans (by simpa using hj)
    case c2 =>
      intro u hu
      obtain ⟨x, _, rfl⟩ := List.mem_map.1 hu
      rfl
    case c3 => have := HLL.out; unfold maxLen; omega
    case c4 => have := HLL.out; omega
    case c5 => have := blk_lt HQ.out; have := H.out.lt; omega
    intro v' w2 hown' hgrow' _
    have hqn : some q ≠ v.ownBlock := HO.out.ne HQ.out
    have hnn : some n ≠ v.ownBlock := fun e => by have := (HO.out.lt n e.symm).1; have := H.out.lt; omega
    have hq2 : w2.heap[q]? = some (.cells #[v] 43 (0, 0)) := (hgrow'.block q (blk_lt HQ.out) hqn).trans HQ.out
    have hn2 : w2.heap[n]? = some (ruleBlk r) := (hgrow'.block n (blk_lt H.out.rb) hnn).trans H.out.rb
    have hb2 : Grows w0 w2 := Below.grown H.out.below hgrow' H.out.below.size (fun k hk => by have := (HO.out.lt k hk).1; have := H.out.ge; have := H.out.lt; omega)
    have ho2 : OwnS w2 (n + 1) v' (L ++ W) := by unfold OwnS; rw [List.length_append, List.map_append]; exact hown'
    have HP : Hid (PrSt w0 (w2.setCell ⟨q, 0, none⟩ v') n q r (L ++ W)) := Lib.hid
      ⟨blk_far (p := ⟨q, 0, none⟩) hn2 (by have := H.out.lt; show n ≠ q; omega) v', ⟨v', by simpa using blk_set hq2 0 v', ho2.far hq2⟩, H.out.lt, H.out.ge, below_set hb2 (by have := H.out.ge; have := H.out.lt; omega)⟩
    have c2 : w2.cell? ⟨q, 0, none⟩ = some v := (blk_cell hq2 0).trans rfl
    have f2 := blk_frozen hq2 0
    have ov : v'.oneCell' = true := by
      rcases hown'.2 with ⟨e, _⟩ | ⟨g, cap, cur, e, _⟩
      · rw [e]; rfl
      · rw [e]; rfl
    obtain ⟨A', n', c', rfl⟩ : ∃ A' n' c', v' = .slice A' n' c' := by
      rcases hown'.2 with ⟨e, _⟩ | ⟨g, cap, cur, e, _⟩
      · exact ⟨_, _, _, e⟩
      · exact ⟨_, _, _, e⟩
    clear hown' hgrow' hqn hnn hq2 hn2 hb2 ho2 ov
    go_wp2_with fail
    go_end0
    exact ⟨rfl, HP.out⟩
end Go.Proofs.YtomkohdlaednhaaGreatDoor
