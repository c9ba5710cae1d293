import Derived.Test.YtomkohdlaednhaaGreatDoorM
import Derived.Laws.CopyOwn
set_option linter.unusedSimpArgs false
set_option linter.unusedVariables false
namespace Go.Proofs.YtomkohdlaednhaaGreatDoor
open Go.RowKit Go.Proofs.YtomkohdlaednhaaGreatDoorW.PrintWords

def passW : ByteArray := ⟨#[112, 97, 115, 115]⟩
def blockW : ByteArray := ⟨#[98, 108, 111, 99, 107]⟩
def returnW : ByteArray := ⟨#[114, 101, 116, 117, 114, 110]⟩
def quickW : ByteArray := ⟨#[113, 117, 105, 99, 107]⟩
def onW : ByteArray := ⟨#[111, 110]⟩
def protoW : ByteArray := ⟨#[112, 114, 111, 116, 111]⟩
def fromW : ByteArray := ⟨#[102, 114, 111, 109]⟩
def toW : ByteArray := ⟨#[116, 111]⟩
def keepW : ByteArray := ⟨#[107, 101, 101, 112]⟩
def routeW : ByteArray := ⟨#[114, 111, 117, 116, 101, 45, 116, 111]⟩
def replyW : ByteArray := ⟨#[114, 101, 112, 108, 121, 45, 116, 111]⟩
def tableW : ByteArray := ⟨#[116, 97, 98, 108, 101]⟩
/-- A parse's state: the rule so far, the words that are left, whether one was none. -/
structure St where
  V : RuleV
  l : List ByteArray
  bad : Bool
def st1 (s : St) : St := ⟨{ s.V with pass := takesB s.l s.bad passW }, takesL s.l s.bad passW, s.bad⟩
def st2 (s : St) : St := if s.V.pass then ⟨s.V, s.l, false⟩ else ⟨s.V, takesL s.l s.bad blockW, !takesB s.l s.bad blockW⟩
def st3 (s : St) : St := ⟨{ s.V with ret := takesB s.l s.bad returnW }, takesL s.l s.bad returnW, s.bad⟩
def st4 (s : St) : St := ⟨{ s.V with quick := takesB s.l s.bad quickW }, takesL s.l s.bad quickW, s.bad⟩
def st5 (s : St) : St := if takesB s.l s.bad onW then ⟨{ s.V with on := nextS s.l.tail }, s.l.tail.tail, s.bad || s.l.tail.isEmpty || emptyB (nextS s.l.tail)⟩ else s
def st6 (s : St) : St := if takesB s.l s.bad protoW then ⟨{ s.V with proto := (protoR s.l.tail s.bad).1 }, s.l.tail.tail, (protoR s.l.tail s.bad).2⟩ else s
def st7 (s : St) : St := ⟨s.V, takesL s.l s.bad fromW, s.bad || !takesB s.l s.bad fromW⟩
def st8 (s : St) : St := ⟨{ s.V with src := (sideR s.l s.bad).1 }, (sideR s.l s.bad).2.1, (sideR s.l s.bad).2.2⟩
def st9 (s : St) : St := ⟨s.V, takesL s.l s.bad toW, s.bad || !takesB s.l s.bad toW⟩
def st10 (s : St) : St := ⟨{ s.V with dst := (sideR s.l s.bad).1 }, (sideR s.l s.bad).2.1, (sideR s.l s.bad).2.2⟩
def st11 (s : St) : St := ⟨lookV s.V s.l s.bad, (lookT (lookF s.l s.bad).2.1 (lookF s.l s.bad).2.2).2.1, (lookT (lookF s.l s.bad).2.1 (lookF s.l s.bad).2.2).2.2⟩
def st12 (s : St) : St := ⟨{ s.V with keep := takesB s.l s.bad keepW }, takesL s.l s.bad keepW, s.bad⟩
def st13 (s : St) : St := ⟨{ s.V with route := (pinR s.l s.bad routeW).1 }, (pinR s.l s.bad routeW).2.1, (pinR s.l s.bad routeW).2.2⟩
def st14 (s : St) : St := ⟨{ s.V with reply := (pinR s.l s.bad replyW).1 }, (pinR s.l s.bad replyW).2.1, (pinR s.l s.bad replyW).2.2⟩
def st15 (s : St) : St := if takesB s.l s.bad tableW then ⟨{ s.V with table := numV 9 (nextS s.l.tail) }, s.l.tail.tail, s.bad || s.l.tail.isEmpty || !numOk 9 (nextS s.l.tail) || decide (numV 9 (nextS s.l.tail) = 0)⟩ else s
def parseR (l : List ByteArray) : St := st15 (st14 (st13 (st12 (st11 (st10 (st9 (st8 (st7 (st6 (st5 (st4 (st3 (st2 (st1 ⟨zRule, l, false⟩))))))))))))))
/-- A text as a rule: the rule, the error. -/
def ruleOf (l : List ByteArray) : RuleV × Int := if (parseR l).bad || !(parseR l).l.isEmpty || !isB (parseR l).V then (zRule, 2) else ((parseR l).V, 0)

structure PSt (w0 w : World) (g b : Nat) (s : St) : Prop where
  ws : WS 68 w0 w g s.l s.bad
  rb : w.heap[b]? = some (ruleBlk s.V)
theorem PSt.step {w0 w w1 g b s l bad} (h : PSt w0 w g b s) (hw : WPost 68 w0 w w1 g l bad) (hne : g ≠ b) : PSt w0 w1 g b ⟨s.V, l, bad⟩ := ⟨hw.1, hw.blk h.rb hne.symm⟩
theorem PSt.put {w0 w g b s} (h : PSt w0 w g b s) (hne : g ≠ b) (hb : w0.heap.size ≤ b) (j : Nat) (v : Value) (V : RuleV) (hV : s.V.cells.setIfInBounds j v = V.cells) : PSt w0 (w.setCell ⟨b, j, none⟩ v) g b ⟨V, s.l, s.bad⟩ :=
  ⟨h.ws.far v hne hb, by
    have := blk_set (cs := s.V.cells) h.rb j v
    rw [hV] at this
    exact this⟩
theorem PSt.setBad {w0 w g b s} (h : PSt w0 w g b s) (hne : g ≠ b) (x : Bool) : PSt w0 (w.setCell ⟨g, 1, none⟩ (.bool x)) g b ⟨s.V, s.l, x⟩ := ⟨h.ws.setBad x, blk_far (p := ⟨g, 1, none⟩) h.rb hne.symm _⟩
theorem PSt.bad1 {w0 w g b s} (h : PSt w0 w g b s) : w.cell? ⟨g, 1, none⟩ = some (.bool s.bad) ∧ w.frozen? ⟨g, 1, none⟩ = false := h.ws.post.cell1

theorem words_size {s x : ByteArray} (h : x ∈ wordsS s) : x.size ≤ s.size := by
  unfold wordsS Lib.goFieldsP at h
  obtain ⟨p, _, rfl⟩ := List.mem_map.1 h
  rw [ByteArray.size_extract]
  omega

theorem rule_one (V : RuleV) : V.cells.all (·.oneCell') = true := by simp [RuleV.cells, Value.oneCell']
set_option maxRecDepth 100000 in
set_option maxHeartbeats 16000000 in
theorem parse_calls (s : ByteArray) (w : World) (hs : s.size ≤ 4294967280) (hE : Env w) :
    Calls Tryz.prog 11 #[.string s] w fun e w' => e = .returned (.tuple #[(ruleOf (wordsS s)).1.val, .int .i64 (ruleOf (wordsS s)).2]) ∧ Grows w w' := by
  have HE := Lib.hid hE
  clear hE
  obtain ⟨R, hR⟩ : ∃ R, R = ruleOf (wordsS s) := ⟨_, rfl⟩
  rw [← hR]
  have HR := Lib.hid hR
  clear hR
  go_enter Tryz.func11, Tryz.ntmps11
  go_wp2_with fail
  refine (fields_calls s _ hs).mono ?_
  rintro e w0 ⟨A, rfl, hst, hb0⟩
  have hz := blkG (heap_alloc_new w (ruleBlk zRule)) hb0
  have hgw : Grows w w0 := below_then (below_alloc (Below.refl w.heap.size w) (ruleBlk zRule)) (by simp) hb0
  obtain ⟨r, hr⟩ : ∃ r, r = w.heap.size := ⟨_, rfl⟩
  rw [← hr] at hz ⊢
  have HZ : Hid (w0.heap[r]? = some (ruleBlk zRule) ∧ w.heap.size ≤ r ∧ Grows w w0) := Lib.hid ⟨hz, by omega, hgw⟩
  clear hb0 hz hr
  have he0 := HE.out.below hgw
  clear hgw
  have hws : WS 68 w0 (w0.alloc (.cells #[.slice A (wordsS s).length (wordsS s).length, .bool false] 68)) w0.heap.size (wordsS s) false :=
    ⟨⟨A, _, heap_alloc_new w0 _, hst⟩, Nat.le_refl _, below_alloc (Below.refl _ _) _, he0, fun x hx => by have := words_size hx; omega⟩
  have h0 : PSt w0 ((w0.alloc (.cells #[.slice A (wordsS s).length (wordsS s).length, .bool false] 68)).alloc (ruleBlk zRule)) w0.heap.size (w0.heap.size + 1) ⟨zRule, wordsS s, false⟩ :=
    ⟨hws.alloc _, by simpa using heap_alloc_new (w0.alloc (.cells #[.slice A (wordsS s).length (wordsS s).length, .bool false] 68)) (ruleBlk zRule)⟩
  clear hws hst he0
  obtain ⟨s0, hs0⟩ : ∃ s0, s0 = (⟨zRule, wordsS s, false⟩ : St) := ⟨_, rfl⟩
  rw [← hs0] at h0
  have S0 := Lib.hid hs0
  clear hs0
  go_upto_region 3 with fail
  obtain ⟨g, hg⟩ : ∃ g, g = w0.heap.size := ⟨_, rfl⟩
  rw [← hg] at h0 ⊢
  obtain ⟨b, hb⟩ : ∃ b, b = g + 1 := ⟨_, rfl⟩
  rw [← hb] at h0 ⊢
  have ID : Hid (g ≠ b ∧ w0.heap.size ≤ b) := Lib.hid (by omega)
  clear hg hb
  have H0 := Lib.hid h0
  clear h0
  go_upto_region 3 with fail
  go_cut [] (fun wc => PSt w0 wc g b (st1 s0))
  case first =>
    go_wp2_with fail
    refine (takes_calls w0 _ g s0.l s0.bad passW H0.out.ws).mono ?_
    rintro e wa ⟨rfl, hw⟩
    have HA := Lib.hid (H0.out.step hw ID.out.1)
    clear hw
    have t : wa.cell? ⟨b, 0, none⟩ = some (.bool s0.V.pass) := (blk_cell HA.out.rb 0).trans rfl
    have f := blk_frozen HA.out.rb 0
    go_wp2_with fail
    go_meet
    exact HA.out.put ID.out.1 ID.out.2 0 _ { s0.V with pass := takesB s0.l s0.bad passW } rfl

  case rest =>
    obtain ⟨s1, hs1⟩ : ∃ s1, s1 = st1 s0 := ⟨_, rfl⟩
    rw [← hs1] at hcut
    have H1 := Lib.hid hcut
    have S1 := Lib.hid hs1
    clear hs1 hcut H0
    go_upto_region 4 with fail
    go_cut [] (fun wc => PSt w0 wc g b (st2 s1))
    case first =>
      have tp : wc.cell? ⟨b, 0, none⟩ = some (.bool s1.V.pass) := (blk_cell H1.out.rb 0).trans rfl
      obtain ⟨d1, d2⟩ := H1.out.bad1
      cases hp : s1.V.pass with
      | true =>
        have hp2 := hp
        go_wp2_with fail
        go_meet
        have e1 : st2 s1 = ⟨s1.V, s1.l, false⟩ := by rw [st2, if_pos hp2]
        rw [e1]
        exact H1.out.setBad ID.out.1 false
      | false =>
        have HP := Lib.hid hp
        go_wp2_with fail
        refine (takes_calls w0 _ g s1.l s1.bad blockW H1.out.ws).mono ?_
        rintro e wa ⟨rfl, hw⟩
        have HA := Lib.hid (H1.out.step hw ID.out.1)
        clear hw
        obtain ⟨x1, x2⟩ := HA.out.bad1
        go_wp2_with fail
        go_meet
        have e1 : st2 s1 = ⟨s1.V, takesL s1.l s1.bad blockW, !takesB s1.l s1.bad blockW⟩ := by rw [st2, if_neg (by rw [HP.out]; decide)]
        rw [e1]
        exact HA.out.setBad ID.out.1 _

    case rest =>
      obtain ⟨s2, hs2⟩ : ∃ s2, s2 = st2 s1 := ⟨_, rfl⟩
      rw [← hs2] at hcut
      have H2 := Lib.hid hcut
      have S2 := Lib.hid hs2
      clear hs2 hcut H1
      go_upto_region 5 with fail
      go_cut [] (fun wc => PSt w0 wc g b (st3 s2))
      case first =>
        go_wp2_with fail
        refine (takes_calls w0 _ g s2.l s2.bad returnW H2.out.ws).mono ?_
        rintro e wa ⟨rfl, hw⟩
        have HA := Lib.hid (H2.out.step hw ID.out.1)
        clear hw
        have t : wa.cell? ⟨b, 1, none⟩ = some (.bool s2.V.ret) := (blk_cell HA.out.rb 1).trans rfl
        have f := blk_frozen HA.out.rb 1
        go_wp2_with fail
        go_meet
        exact HA.out.put ID.out.1 ID.out.2 1 _ { s2.V with ret := takesB s2.l s2.bad returnW } rfl

      case rest =>
        obtain ⟨s3, hs3⟩ : ∃ s3, s3 = st3 s2 := ⟨_, rfl⟩
        rw [← hs3] at hcut
        have H3 := Lib.hid hcut
        have S3 := Lib.hid hs3
        clear hs3 hcut H2
        go_upto_region 6 with fail
        go_cut [] (fun wc => PSt w0 wc g b (st4 s3))
        case first =>
          go_wp2_with fail
          refine (takes_calls w0 _ g s3.l s3.bad quickW H3.out.ws).mono ?_
          rintro e wa ⟨rfl, hw⟩
          have HA := Lib.hid (H3.out.step hw ID.out.1)
          clear hw
          have t : wa.cell? ⟨b, 2, none⟩ = some (.bool s3.V.quick) := (blk_cell HA.out.rb 2).trans rfl
          have f := blk_frozen HA.out.rb 2
          go_wp2_with fail
          go_meet
          exact HA.out.put ID.out.1 ID.out.2 2 _ { s3.V with quick := takesB s3.l s3.bad quickW } rfl

        case rest =>
          obtain ⟨s4, hs4⟩ : ∃ s4, s4 = st4 s3 := ⟨_, rfl⟩
          rw [← hs4] at hcut
          have H4 := Lib.hid hcut
          have S4 := Lib.hid hs4
          clear hs4 hcut H3
          go_wp2_with fail
          refine (takes_calls w0 _ g s4.l s4.bad onW H4.out.ws).mono ?_
          rintro e wa ⟨rfl, hw⟩
          have HA := Lib.hid (H4.out.step hw ID.out.1)
          clear hw
          go_upto_if 31 with fail
          go_cut [] (fun wc => PSt w0 wc g b (st5 s4))
          case first =>
            cases htk : takesB s4.l s4.bad onW with
            | false =>
              have e1 : st5 s4 = s4 := by rw [st5, if_neg (by rw [htk]; decide)]
              have e2 : takesL s4.l s4.bad onW = s4.l := by rw [takesL, if_neg (by rw [htk]; decide)]
              rw [e2] at HA
              go_wp2_with fail
              go_meet
              rw [e1]
              exact HA.out
            | true =>
              have e1 : Hid (st5 s4 = ⟨{ s4.V with on := nextS s4.l.tail }, s4.l.tail.tail, s4.bad || s4.l.tail.isEmpty || emptyB (nextS s4.l.tail)⟩) := Lib.hid (by rw [st5, if_pos htk])
              have e2 : takesL s4.l s4.bad onW = s4.l.tail := by rw [takesL, if_pos htk]
              rw [e2] at HA
              clear e2
              go_wp2_with fail
              refine (next_calls w0 _ g _ _ HA.out.ws).mono ?_
              rintro e wb ⟨rfl, hw⟩
              have HB := Lib.hid (HA.out.step hw ID.out.1)
              clear hw
              have t : wb.cell? ⟨b, 3, none⟩ = some (.string s4.V.on) := (blk_cell HB.out.rb 3).trans rfl
              have f := blk_frozen HB.out.rb 3
              obtain ⟨d1, d2⟩ := HB.out.bad1
              have hne := ID.out.1
              have hne2 := ID.out.1.symm
              have hn : Hid (emptyB (nextS s4.l.tail) = (nextS s4.l.tail).toList.isEmpty) := Lib.hid rfl
              generalize nextS s4.l.tail = x at *
              generalize hq : (s4.bad || s4.l.tail.isEmpty) = q at *
              have d1 : wb.cell? ⟨g, 1, none⟩ = some (.bool q) := d1
              cases q with
              | true =>
                go_wp2_with fail
                go_meet
                rw [e1.out]
                have := (HB.out.put ID.out.1 ID.out.2 3 (.string x) { s4.V with on := x } rfl).setBad ID.out.1 true
                simpa using this
              | false =>
                cases hx : x.toList.isEmpty with
                | true =>
                  go_wp2_with fail
                  go_meet
                  rw [e1.out, hn.out]
                  have := (HB.out.put ID.out.1 ID.out.2 3 (.string x) { s4.V with on := x } rfl).setBad ID.out.1 true
                  simpa [hx] using this
                | false =>
                  go_wp2_with fail
                  go_meet
                  rw [e1.out, hn.out]
                  have := (HB.out.put ID.out.1 ID.out.2 3 (.string x) { s4.V with on := x } rfl).setBad ID.out.1 false
                  simpa [hx] using this

          case rest =>
            obtain ⟨s5, hs5⟩ : ∃ s5, s5 = st5 s4 := ⟨_, rfl⟩
            rw [← hs5] at hcut
            have H5 := Lib.hid hcut
            have S5 := Lib.hid hs5
            clear hs5 hcut H4 HA
            go_wp2_with fail
            refine (takes_calls w0 _ g s5.l s5.bad protoW H5.out.ws).mono ?_
            rintro e wa ⟨rfl, hw⟩
            have HA := Lib.hid (H5.out.step hw ID.out.1)
            clear hw
            go_upto_if 48 with fail
            go_cut [] (fun wc => PSt w0 wc g b (st6 s5))
            case first =>
              cases htk : takesB s5.l s5.bad protoW with
              | false =>
                have e1 : st6 s5 = s5 := by rw [st6, if_neg (by rw [htk]; decide)]
                have e2 : takesL s5.l s5.bad protoW = s5.l := by rw [takesL, if_neg (by rw [htk]; decide)]
                rw [e2] at HA
                go_wp2_with fail
                go_meet
                rw [e1]
                exact HA.out
              | true =>
                have e1 : Hid (st6 s5 = ⟨{ s5.V with proto := (protoR s5.l.tail s5.bad).1 }, s5.l.tail.tail, (protoR s5.l.tail s5.bad).2⟩) := Lib.hid (by rw [st6, if_pos htk])
                have e2 : takesL s5.l s5.bad protoW = s5.l.tail := by rw [takesL, if_pos htk]
                rw [e2] at HA
                clear e2
                go_wp2_with fail
                refine (proto_calls w0 _ g _ _ HA.out.ws).mono ?_
                rintro e wb ⟨rfl, hw⟩
                have HB := Lib.hid (HA.out.step hw ID.out.1)
                clear hw
                have t : wb.cell? ⟨b, 4, none⟩ = some (.int .i64 s5.V.proto) := (blk_cell HB.out.rb 4).trans rfl
                have f := blk_frozen HB.out.rb 4
                go_wp2_with fail
                go_meet
                rw [e1.out]
                exact HB.out.put ID.out.1 ID.out.2 4 _ { s5.V with proto := (protoR s5.l.tail s5.bad).1 } rfl

            case rest =>
              obtain ⟨s6, hs6⟩ : ∃ s6, s6 = st6 s5 := ⟨_, rfl⟩
              rw [← hs6] at hcut
              have H6 := Lib.hid hcut
              have S6 := Lib.hid hs6
              clear hs6 hcut H5 HA
              go_upto_region 12 with fail
              go_cut [] (fun wc => PSt w0 wc g b (st7 s6))
              case first =>
                obtain ⟨d1, d2⟩ := H6.out.bad1
                cases hb : s6.bad with
                | true =>
                  go_wp2_with fail
                  go_meet
                  have e1 : st7 s6 = ⟨s6.V, s6.l, true⟩ := by simp [st7, takesL, takesB, hb]
                  rw [e1]
                  exact H6.out.setBad ID.out.1 true
                | false =>
                  have HB := Lib.hid hb
                  go_wp2_with fail
                  refine (takes_calls w0 _ g s6.l s6.bad fromW H6.out.ws).mono ?_
                  rintro e wa ⟨rfl, hw⟩
                  have HA := Lib.hid (H6.out.step hw ID.out.1)
                  clear hw
                  obtain ⟨x1, x2⟩ := HA.out.bad1
                  go_wp2_with fail
                  go_meet
                  have e1 : st7 s6 = ⟨s6.V, takesL s6.l s6.bad fromW, !takesB s6.l false fromW⟩ := by simp [st7, HB.out]
                  rw [e1]
                  exact HA.out.setBad ID.out.1 _

              case rest =>
                obtain ⟨s7, hs7⟩ : ∃ s7, s7 = st7 s6 := ⟨_, rfl⟩
                rw [← hs7] at hcut
                have H7 := Lib.hid hcut
                have S7 := Lib.hid hs7
                clear hs7 hcut H6
                go_upto_region 13 with fail
                go_cut [] (fun wc => PSt w0 wc g b (st8 s7))
                case first =>
                  go_wp2_with fail
                  refine (side_calls w0 _ g s7.l s7.bad H7.out.ws).mono ?_
                  rintro e wa ⟨rfl, hw⟩
                  have HA := Lib.hid (H7.out.step hw ID.out.1)
                  clear hw
                  have e0 : (sideR s7.l s7.bad).1.val = .agg (sideR s7.l s7.bad).1.cells := rfl
                  rw [e0, SideV.cells]
                  clear e0
                  have t0 : wa.cell? ⟨b, 5, none⟩ = some (.bool s7.V.src.any) := (blk_cell HA.out.rb 5).trans rfl
                  have f0 := blk_frozen HA.out.rb 5
                  have t1 : wa.cell? ⟨b, 6, none⟩ = some (.string s7.V.src.table) := (blk_cell HA.out.rb 6).trans rfl
                  have f1 := blk_frozen HA.out.rb 6
                  have t2 : wa.cell? ⟨b, 7, none⟩ = some (.int .u32 s7.V.src.addr) := (blk_cell HA.out.rb 7).trans rfl
                  have f2 := blk_frozen HA.out.rb 7
                  have t3 : wa.cell? ⟨b, 8, none⟩ = some (.int .i64 s7.V.src.len) := (blk_cell HA.out.rb 8).trans rfl
                  have f3 := blk_frozen HA.out.rb 8
                  have t4 : wa.cell? ⟨b, 9, none⟩ = some (.int .i64 s7.V.src.low) := (blk_cell HA.out.rb 9).trans rfl
                  have f4 := blk_frozen HA.out.rb 9
                  have t5 : wa.cell? ⟨b, 10, none⟩ = some (.int .i64 s7.V.src.high) := (blk_cell HA.out.rb 10).trans rfl
                  have f5 := blk_frozen HA.out.rb 10
                  have hE : Hid (st8 s7 = ⟨{ s7.V with src := (sideR s7.l s7.bad).1 }, (sideR s7.l s7.bad).2.1, (sideR s7.l s7.bad).2.2⟩) := Lib.hid rfl
                  generalize sideR s7.l s7.bad = R at *
                  go_wp2_with fail
                  go_meet
                  rw [hE.out]
                  exact ((((((HA.out.put ID.out.1 ID.out.2 5 _ { s7.V with src := { s7.V.src with any := R.1.any } } rfl).put ID.out.1 ID.out.2 6 _ { s7.V with src := { s7.V.src with any := R.1.any, table := R.1.table } } rfl).put ID.out.1 ID.out.2 7 _ { s7.V with src := { s7.V.src with any := R.1.any, table := R.1.table, addr := R.1.addr } } rfl).put ID.out.1 ID.out.2 8 _ { s7.V with src := { s7.V.src with any := R.1.any, table := R.1.table, addr := R.1.addr, len := R.1.len } } rfl).put ID.out.1 ID.out.2 9 _ { s7.V with src := { s7.V.src with any := R.1.any, table := R.1.table, addr := R.1.addr, len := R.1.len, low := R.1.low } } rfl).put ID.out.1 ID.out.2 10 _ { s7.V with src := { s7.V.src with any := R.1.any, table := R.1.table, addr := R.1.addr, len := R.1.len, low := R.1.low, high := R.1.high } } rfl)

                case rest =>
                  obtain ⟨s8, hs8⟩ : ∃ s8, s8 = st8 s7 := ⟨_, rfl⟩
                  rw [← hs8] at hcut
                  have H8 := Lib.hid hcut
                  have S8 := Lib.hid hs8
                  clear hs8 hcut H7
                  go_upto_region 14 with fail
                  go_cut [] (fun wc => PSt w0 wc g b (st9 s8))
                  case first =>
                    obtain ⟨d1, d2⟩ := H8.out.bad1
                    cases hb : s8.bad with
                    | true =>
                      go_wp2_with fail
                      go_meet
                      have e1 : st9 s8 = ⟨s8.V, s8.l, true⟩ := by simp [st9, takesL, takesB, hb]
                      rw [e1]
                      exact H8.out.setBad ID.out.1 true
                    | false =>
                      have HB := Lib.hid hb
                      go_wp2_with fail
                      refine (takes_calls w0 _ g s8.l s8.bad toW H8.out.ws).mono ?_
                      rintro e wa ⟨rfl, hw⟩
                      have HA := Lib.hid (H8.out.step hw ID.out.1)
                      clear hw
                      obtain ⟨x1, x2⟩ := HA.out.bad1
                      go_wp2_with fail
                      go_meet
                      have e1 : st9 s8 = ⟨s8.V, takesL s8.l s8.bad toW, !takesB s8.l false toW⟩ := by simp [st9, HB.out]
                      rw [e1]
                      exact HA.out.setBad ID.out.1 _

                  case rest =>
                    obtain ⟨s9, hs9⟩ : ∃ s9, s9 = st9 s8 := ⟨_, rfl⟩
                    rw [← hs9] at hcut
                    have H9 := Lib.hid hcut
                    have S9 := Lib.hid hs9
                    clear hs9 hcut H8
                    go_upto_region 15 with fail
                    go_cut [] (fun wc => PSt w0 wc g b (st10 s9))
                    case first =>
                      go_wp2_with fail
                      refine (side_calls w0 _ g s9.l s9.bad H9.out.ws).mono ?_
                      rintro e wa ⟨rfl, hw⟩
                      have HA := Lib.hid (H9.out.step hw ID.out.1)
                      clear hw
                      have e0 : (sideR s9.l s9.bad).1.val = .agg (sideR s9.l s9.bad).1.cells := rfl
                      rw [e0, SideV.cells]
                      clear e0
                      have t0 : wa.cell? ⟨b, 11, none⟩ = some (.bool s9.V.dst.any) := (blk_cell HA.out.rb 11).trans rfl
                      have f0 := blk_frozen HA.out.rb 11
                      have t1 : wa.cell? ⟨b, 12, none⟩ = some (.string s9.V.dst.table) := (blk_cell HA.out.rb 12).trans rfl
                      have f1 := blk_frozen HA.out.rb 12
                      have t2 : wa.cell? ⟨b, 13, none⟩ = some (.int .u32 s9.V.dst.addr) := (blk_cell HA.out.rb 13).trans rfl
                      have f2 := blk_frozen HA.out.rb 13
                      have t3 : wa.cell? ⟨b, 14, none⟩ = some (.int .i64 s9.V.dst.len) := (blk_cell HA.out.rb 14).trans rfl
                      have f3 := blk_frozen HA.out.rb 14
                      have t4 : wa.cell? ⟨b, 15, none⟩ = some (.int .i64 s9.V.dst.low) := (blk_cell HA.out.rb 15).trans rfl
                      have f4 := blk_frozen HA.out.rb 15
                      have t5 : wa.cell? ⟨b, 16, none⟩ = some (.int .i64 s9.V.dst.high) := (blk_cell HA.out.rb 16).trans rfl
                      have f5 := blk_frozen HA.out.rb 16
                      have hE : Hid (st10 s9 = ⟨{ s9.V with dst := (sideR s9.l s9.bad).1 }, (sideR s9.l s9.bad).2.1, (sideR s9.l s9.bad).2.2⟩) := Lib.hid rfl
                      generalize sideR s9.l s9.bad = R at *
                      go_wp2_with fail
                      go_meet
                      rw [hE.out]
                      exact ((((((HA.out.put ID.out.1 ID.out.2 11 _ { s9.V with dst := { s9.V.dst with any := R.1.any } } rfl).put ID.out.1 ID.out.2 12 _ { s9.V with dst := { s9.V.dst with any := R.1.any, table := R.1.table } } rfl).put ID.out.1 ID.out.2 13 _ { s9.V with dst := { s9.V.dst with any := R.1.any, table := R.1.table, addr := R.1.addr } } rfl).put ID.out.1 ID.out.2 14 _ { s9.V with dst := { s9.V.dst with any := R.1.any, table := R.1.table, addr := R.1.addr, len := R.1.len } } rfl).put ID.out.1 ID.out.2 15 _ { s9.V with dst := { s9.V.dst with any := R.1.any, table := R.1.table, addr := R.1.addr, len := R.1.len, low := R.1.low } } rfl).put ID.out.1 ID.out.2 16 _ { s9.V with dst := { s9.V.dst with any := R.1.any, table := R.1.table, addr := R.1.addr, len := R.1.len, low := R.1.low, high := R.1.high } } rfl)

                    case rest =>
                      obtain ⟨s10, hs10⟩ : ∃ s10, s10 = st10 s9 := ⟨_, rfl⟩
                      rw [← hs10] at hcut
                      have H10 := Lib.hid hcut
                      have S10 := Lib.hid hs10
                      clear hs10 hcut H9
                      go_upto_region 16 with fail
                      go_cut [] (fun wc => PSt w0 wc g b (st11 s10))
                      case first =>
                        go_wp2_with fail
                        refine (look_calls w0 _ g b _ _ s10.V H10.out.ws H10.out.rb ID.out.1 ID.out.2).mono ?_
                        rintro e wa ⟨rfl, h1, h2, h3⟩
                        go_wp2_with fail
                        go_meet
                        exact ⟨h1, h2⟩

                      case rest =>
                        obtain ⟨s11, hs11⟩ : ∃ s11, s11 = st11 s10 := ⟨_, rfl⟩
                        rw [← hs11] at hcut
                        have H11 := Lib.hid hcut
                        have S11 := Lib.hid hs11
                        clear hs11 hcut H10
                        go_upto_region 17 with fail
                        go_cut [] (fun wc => PSt w0 wc g b (st12 s11))
                        case first =>
                          go_wp2_with fail
                          refine (takes_calls w0 _ g s11.l s11.bad keepW H11.out.ws).mono ?_
                          rintro e wa ⟨rfl, hw⟩
                          have HA := Lib.hid (H11.out.step hw ID.out.1)
                          clear hw
                          have t : wa.cell? ⟨b, 20, none⟩ = some (.bool s11.V.keep) := (blk_cell HA.out.rb 20).trans rfl
                          have f := blk_frozen HA.out.rb 20
                          go_wp2_with fail
                          go_meet
                          exact HA.out.put ID.out.1 ID.out.2 20 _ { s11.V with keep := takesB s11.l s11.bad keepW } rfl

                        case rest =>
                          obtain ⟨s12, hs12⟩ : ∃ s12, s12 = st12 s11 := ⟨_, rfl⟩
                          rw [← hs12] at hcut
                          have H12 := Lib.hid hcut
                          have S12 := Lib.hid hs12
                          clear hs12 hcut H11
                          go_upto_region 18 with fail
                          go_cut [] (fun wc => PSt w0 wc g b (st13 s12))
                          case first =>
                            go_wp2_with fail
                            refine (pin_calls w0 _ g s12.l s12.bad routeW H12.out.ws).mono ?_
                            rintro e wa ⟨rfl, hw⟩
                            have HA := Lib.hid (H12.out.step hw ID.out.1)
                            clear hw
                            have e0 : (pinR s12.l s12.bad routeW).1.val = .agg #[.bool (pinR s12.l s12.bad routeW).1.on, .string (pinR s12.l s12.bad routeW).1.iface, .int .u32 (pinR s12.l s12.bad routeW).1.gate] := rfl
                            rw [e0]
                            clear e0
                            have t0 : wa.cell? ⟨b, 21, none⟩ = some (.bool s12.V.route.on) := (blk_cell HA.out.rb 21).trans rfl
                            have f0 := blk_frozen HA.out.rb 21
                            have t1 : wa.cell? ⟨b, 22, none⟩ = some (.string s12.V.route.iface) := (blk_cell HA.out.rb 22).trans rfl
                            have f1 := blk_frozen HA.out.rb 22
                            have t2 : wa.cell? ⟨b, 23, none⟩ = some (.int .u32 s12.V.route.gate) := (blk_cell HA.out.rb 23).trans rfl
                            have f2 := blk_frozen HA.out.rb 23
                            have hE : Hid (st13 s12 = ⟨{ s12.V with route := (pinR s12.l s12.bad routeW).1 }, (pinR s12.l s12.bad routeW).2.1, (pinR s12.l s12.bad routeW).2.2⟩) := Lib.hid rfl
                            generalize pinR s12.l s12.bad routeW = R at *
                            go_wp2_with fail
                            go_meet
                            rw [hE.out]
                            exact (((HA.out.put ID.out.1 ID.out.2 21 _ { s12.V with route := { s12.V.route with on := R.1.on } } rfl).put ID.out.1 ID.out.2 22 _ { s12.V with route := { s12.V.route with on := R.1.on, iface := R.1.iface } } rfl).put ID.out.1 ID.out.2 23 _ { s12.V with route := { s12.V.route with on := R.1.on, iface := R.1.iface, gate := R.1.gate } } rfl)

                          case rest =>
                            obtain ⟨s13, hs13⟩ : ∃ s13, s13 = st13 s12 := ⟨_, rfl⟩
                            rw [← hs13] at hcut
                            have H13 := Lib.hid hcut
                            have S13 := Lib.hid hs13
                            clear hs13 hcut H12
                            go_upto_region 19 with fail
                            go_cut [] (fun wc => PSt w0 wc g b (st14 s13))
                            case first =>
                              go_wp2_with fail
                              refine (pin_calls w0 _ g s13.l s13.bad replyW H13.out.ws).mono ?_
                              rintro e wa ⟨rfl, hw⟩
                              have HA := Lib.hid (H13.out.step hw ID.out.1)
                              clear hw
                              have e0 : (pinR s13.l s13.bad replyW).1.val = .agg #[.bool (pinR s13.l s13.bad replyW).1.on, .string (pinR s13.l s13.bad replyW).1.iface, .int .u32 (pinR s13.l s13.bad replyW).1.gate] := rfl
                              rw [e0]
                              clear e0
                              have t0 : wa.cell? ⟨b, 24, none⟩ = some (.bool s13.V.reply.on) := (blk_cell HA.out.rb 24).trans rfl
                              have f0 := blk_frozen HA.out.rb 24
                              have t1 : wa.cell? ⟨b, 25, none⟩ = some (.string s13.V.reply.iface) := (blk_cell HA.out.rb 25).trans rfl
                              have f1 := blk_frozen HA.out.rb 25
                              have t2 : wa.cell? ⟨b, 26, none⟩ = some (.int .u32 s13.V.reply.gate) := (blk_cell HA.out.rb 26).trans rfl
                              have f2 := blk_frozen HA.out.rb 26
                              have hE : Hid (st14 s13 = ⟨{ s13.V with reply := (pinR s13.l s13.bad replyW).1 }, (pinR s13.l s13.bad replyW).2.1, (pinR s13.l s13.bad replyW).2.2⟩) := Lib.hid rfl
                              generalize pinR s13.l s13.bad replyW = R at *
                              go_wp2_with fail
                              go_meet
                              rw [hE.out]
                              exact (((HA.out.put ID.out.1 ID.out.2 24 _ { s13.V with reply := { s13.V.reply with on := R.1.on } } rfl).put ID.out.1 ID.out.2 25 _ { s13.V with reply := { s13.V.reply with on := R.1.on, iface := R.1.iface } } rfl).put ID.out.1 ID.out.2 26 _ { s13.V with reply := { s13.V.reply with on := R.1.on, iface := R.1.iface, gate := R.1.gate } } rfl)

                            case rest =>
                              obtain ⟨s14, hs14⟩ : ∃ s14, s14 = st14 s13 := ⟨_, rfl⟩
                              rw [← hs14] at hcut
                              have H14 := Lib.hid hcut
                              have S14 := Lib.hid hs14
                              clear hs14 hcut H13
                              go_wp2_with fail
                              refine (takes_calls w0 _ g s14.l s14.bad tableW H14.out.ws).mono ?_
                              rintro e wa ⟨rfl, hw⟩
                              have HA := Lib.hid (H14.out.step hw ID.out.1)
                              clear hw
                              go_upto_if 94 with fail
                              go_cut [] (fun wc => PSt w0 wc g b (st15 s14))
                              case first =>
                                cases htk : takesB s14.l s14.bad tableW with
                                | false =>
                                  have e1 : st15 s14 = s14 := by rw [st15, if_neg (by rw [htk]; decide)]
                                  have e2 : takesL s14.l s14.bad tableW = s14.l := by rw [takesL, if_neg (by rw [htk]; decide)]
                                  rw [e2] at HA
                                  go_wp2_with fail
                                  go_meet
                                  rw [e1]
                                  exact HA.out
                                | true =>
                                  have e1 : Hid (st15 s14 = ⟨{ s14.V with table := numV 9 (nextS s14.l.tail) }, s14.l.tail.tail, s14.bad || s14.l.tail.isEmpty || !numOk 9 (nextS s14.l.tail) || decide (numV 9 (nextS s14.l.tail) = 0)⟩) := Lib.hid (by rw [st15, if_pos htk])
                                  have e2 : takesL s14.l s14.bad tableW = s14.l.tail := by rw [takesL, if_pos htk]
                                  rw [e2] at HA
                                  clear e2
                                  go_wp2_with fail
                                  refine (next_calls w0 _ g _ _ HA.out.ws).mono ?_
                                  rintro e wb ⟨rfl, hw⟩
                                  have HB := Lib.hid (HA.out.step hw ID.out.1)
                                  clear hw
                                  go_wp2_with fail
                                  refine (number_calls w0 _ g _ _ _ HB.out.ws).mono ?_
                                  rintro e wd ⟨rfl, hw⟩
                                  have HC := Lib.hid (HB.out.step hw ID.out.1)
                                  clear hw
                                  have t : wd.cell? ⟨b, 27, none⟩ = some (.int .i64 s14.V.table) := (blk_cell HC.out.rb 27).trans rfl
                                  have f := blk_frozen HC.out.rb 27
                                  obtain ⟨d1, d2⟩ := HC.out.bad1
                                  have hne := ID.out.1
                                  have hne2 := ID.out.1.symm
                                  generalize hq : (s14.bad || s14.l.tail.isEmpty || !numOk 9 (nextS s14.l.tail)) = q at *
                                  generalize numV 9 (nextS s14.l.tail) = x at *
                                  have d1 : wd.cell? ⟨g, 1, none⟩ = some (.bool q) := d1
                                  cases q with
                                  | true =>
                                    go_wp2_with fail
                                    go_meet
                                    rw [e1.out]
                                    have := (HC.out.put ID.out.1 ID.out.2 27 (.int .i64 x) { s14.V with table := x } rfl).setBad ID.out.1 true
                                    simpa using this
                                  | false =>
                                    cases hx : (x == 0) with
                                    | true =>
                                      have hx' : x = 0 := by simpa using hx
                                      go_wp2_with fail
                                      go_meet
                                      rw [e1.out]
                                      have := (HC.out.put ID.out.1 ID.out.2 27 (.int .i64 x) { s14.V with table := x } rfl).setBad ID.out.1 true
                                      simpa [hx'] using this
                                    | false =>
                                      have hx' : ¬ x = 0 := by simpa using hx
                                      go_wp2_with fail
                                      go_meet
                                      rw [e1.out]
                                      have := (HC.out.put ID.out.1 ID.out.2 27 (.int .i64 x) { s14.V with table := x } rfl).setBad ID.out.1 false
                                      simpa [hx'] using this

                              case rest =>
                                obtain ⟨s15, hs15⟩ : ∃ s15, s15 = st15 s14 := ⟨_, rfl⟩
                                rw [← hs15] at hcut
                                have H15 := Lib.hid hcut
                                have S15 := Lib.hid hs15
                                clear hs15 hcut H14 HA
                                have hP : parseR (wordsS s) = s15 := by
                                  rw [parseR, ← S0.out, ← S1.out, ← S2.out, ← S3.out, ← S4.out, ← S5.out, ← S6.out, ← S7.out, ← S8.out, ← S9.out, ← S10.out, ← S11.out, ← S12.out, ← S13.out, ← S14.out, ← S15.out]
                                have HPR : Hid (R = if s15.bad || !s15.l.isEmpty || !isB s15.V then (zRule, 2) else (s15.V, 0)) := Lib.hid (by rw [HR.out, ruleOf, hP])
                                clear hP S0 S1 S2 S3 S4 S5 S6 S7 S8 S9 S10 S11 S12 S13 S14 S15 HR
                                obtain ⟨A15, c15, hg15, -⟩ := H15.out.ws.blk
                                have t0 : wc.cell? ⟨g, 0, none⟩ = some (.slice A15 s15.l.length c15) := (blk_cell hg15 0).trans rfl
                                obtain ⟨d1, d2⟩ := H15.out.bad1
                                have HG0 : Hid (Grows w wc) := Lib.hid (below_then HZ.out.2.2 HZ.out.2.2.size H15.out.ws.below)
                                have HZ1 : Hid (wc.heap[r]? = some (ruleBlk zRule)) := Lib.hid (blkG HZ.out.1 H15.out.ws.below)
                                clear hg15
                                cases hbad : s15.bad with
                                | true =>
                                  have HR2 : Hid (R = (zRule, 2)) := Lib.hid (by rw [HPR.out, hbad]; rfl)
                                  go_wp2_with (refine wpList_store_row rfl 32 (.tmp 2) (.tmp 129) rfl r zRule.cells rfl rfl 32 zRule.cells HZ1.out (by kernel_rfl) rfl (rule_one _) ?_)
                                  have hrow : (World.setRow wc r zRule.cells).heap[r]? = some (.cells zRule.cells 32 (0, 0)) := setRow_heap wc r zRule.cells zRule.cells 32 (0, 0) HZ1.out
                                  refine bodyPost_ret (v := .tuple #[.agg zRule.cells, .int .i64 2]) (by simp [results, Tryz.results11, asAddr, run_loadVar_row _ r 32 32 zRule.cells (0, 0) _ hrow Tryz.underlying32 rfl (by kernel_rfl)]) rfl ⟨by rw [HR2.out]; rfl, ?_⟩
                                  exact below_setRow HG0.out HZ.out.2.1 _

                                | false =>
                                  have HBAD := Lib.hid hbad
                                  cases hl : s15.l with
                                  | cons x l =>
                                    have HR2 : Hid (R = (zRule, 2)) := Lib.hid (by rw [HPR.out, HBAD.out, hl]; rfl)
                                    rw [hl] at t0
                                    simp only [List.length_cons] at t0
                                    go_wp2_with (refine wpList_store_row rfl 32 (.tmp 2) (.tmp 129) rfl r zRule.cells rfl rfl 32 zRule.cells HZ1.out (by kernel_rfl) rfl (rule_one _) ?_)
                                    have hrow : (World.setRow wc r zRule.cells).heap[r]? = some (.cells zRule.cells 32 (0, 0)) := setRow_heap wc r zRule.cells zRule.cells 32 (0, 0) HZ1.out
                                    refine bodyPost_ret (v := .tuple #[.agg zRule.cells, .int .i64 2]) (by simp [results, Tryz.results11, asAddr, run_loadVar_row _ r 32 32 zRule.cells (0, 0) _ hrow Tryz.underlying32 rfl (by kernel_rfl)]) rfl ⟨by rw [HR2.out]; rfl, ?_⟩
                                    exact below_setRow HG0.out HZ.out.2.1 _

                                  | nil =>
                                    have HR2 : Hid (R = if isB s15.V then (s15.V, 0) else (zRule, 2)) := Lib.hid (by rw [HPR.out, HBAD.out, hl]; cases isB s15.V <;> rfl)
                                    rw [hl] at t0
                                    simp only [List.length_nil] at t0
                                    go_wp2_with (refine Go.BigFrame.wpList_want (by go_simp) fun K hK => wp_load_row 32 (.tmp 5) rfl b rfl 32 s15.V.cells (0, 0) _ H15.out.rb Tryz.underlying32 rfl (by kernel_rfl) (hK _ _ ?_))
                                    refine (is_calls' s15.V wc).mono ?_
                                    rintro e w16 ⟨rfl, hb16⟩
                                    have HG1 : Hid (Grows w w16) := Lib.hid (below_then HG0.out HG0.out.size hb16)
                                    have HZ2 := Lib.hid (blkG HZ1.out hb16)
                                    have HB16 := Lib.hid (blkG H15.out.rb hb16)
                                    clear hb16 t0 d1 d2
                                    cases hI : isB s15.V with
                                    | false =>
                                      have HR3 : Hid (R = (zRule, 2)) := Lib.hid (by rw [HR2.out, hI]; rfl)
                                      go_wp2_with (refine wpList_store_row rfl 32 (.tmp 2) (.tmp 129) rfl r zRule.cells rfl rfl 32 zRule.cells HZ2.out (by kernel_rfl) rfl (rule_one _) ?_)
                                      have hrow : (World.setRow w16 r zRule.cells).heap[r]? = some (.cells zRule.cells 32 (0, 0)) := setRow_heap w16 r zRule.cells zRule.cells 32 (0, 0) HZ2.out
                                      refine bodyPost_ret (v := .tuple #[.agg zRule.cells, .int .i64 2]) (by simp [results, Tryz.results11, asAddr, run_loadVar_row _ r 32 32 zRule.cells (0, 0) _ hrow Tryz.underlying32 rfl (by kernel_rfl)]) rfl ⟨by rw [HR3.out]; rfl, ?_⟩
                                      exact below_setRow HG1.out HZ.out.2.1 _

                                    | true =>
                                      have HR3 : Hid (R = (s15.V, 0)) := Lib.hid (by rw [HR2.out, hI]; rfl)
                                      go_wp2_with (first | (refine wpList_load_row rfl 32 (.tmp 5) rfl b rfl 32 s15.V.cells (0, 0) _ HB16.out Tryz.underlying32 rfl (by kernel_rfl) ?_) | (refine wpList_store_row rfl 32 (.tmp 2) (.tmp 130) rfl r s15.V.cells rfl rfl 32 zRule.cells HZ2.out (by kernel_rfl) rfl (rule_one _) ?_))
                                      have hrow : (World.setRow w16 r s15.V.cells).heap[r]? = some (.cells s15.V.cells 32 (0, 0)) := setRow_heap w16 r zRule.cells s15.V.cells 32 (0, 0) HZ2.out
                                      refine bodyPost_ret (v := .tuple #[.agg s15.V.cells, .int .i64 0]) (by simp [results, Tryz.results11, asAddr, run_loadVar_row _ r 32 32 s15.V.cells (0, 0) _ hrow Tryz.underlying32 rfl (by kernel_rfl)]) rfl ⟨by rw [HR3.out]; rfl, ?_⟩
                                      exact below_setRow HG1.out HZ.out.2.1 _

end Go.Proofs.YtomkohdlaednhaaGreatDoor
