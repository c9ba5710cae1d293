import Derived.Test.YtomkohdlaednhaaGreatDoorAB
import Derived.Test.YtomkohdlaednhaaGreatDoorBD
import Derived.Laws.CopyOwn
import Derived.Deep.RegionHeld3
set_option linter.unusedSimpArgs false
set_option linter.unusedVariables false
namespace Go.Proofs.YtomkohdlaednhaaGreatDoor
open Go.RowKit Go.Proofs.YtomkohdlaednhaaGreatDoorW.PrintWords

structure QSt (w0 w : World) (g b : Nat) (s : St) : Prop where
  ws : WS 78 w0 w g s.l s.bad
  rb : w.heap[b]? = some (ruleBlk s.V)
theorem QSt.step {w0 w w1 g b s l bad} (h : QSt w0 w g b s) (hw : WPost 78 w0 w w1 g l bad) (hne : g ≠ b) : QSt w0 w1 g b ⟨s.V, l, bad⟩ := ⟨hw.1, hw.blk h.rb hne.symm⟩
theorem QSt.put {w0 w g b s} (h : QSt w0 w g b s) (hne : g ≠ b) (hb : w0.heap.size ≤ b) (j : Nat) (v : Value) (V : RuleV) (hV : s.V.cells.setIfInBounds j v = V.cells) : QSt w0 (w.setCell ⟨b, j, none⟩ v) g b ⟨V, s.l, s.bad⟩ :=
  ⟨h.ws.far v hne hb, by
    have := blk_set (cs := s.V.cells) h.rb j v
    rw [hV] at this
    exact this⟩
theorem QSt.setBad {w0 w g b s} (h : QSt w0 w g b s) (hne : g ≠ b) (x : Bool) : QSt w0 (w.setCell ⟨g, 1, none⟩ (.bool x)) g b ⟨s.V, s.l, x⟩ := ⟨h.ws.setBad x, blk_far (p := ⟨g, 1, none⟩) h.rb hne.symm _⟩
theorem QSt.bad1 {w0 w g b s} (h : QSt w0 w g b s) : w.cell? ⟨g, 1, none⟩ = some (.bool s.bad) ∧ w.frozen? ⟨g, 1, none⟩ = false := h.ws.post.cell1
theorem QSt.grow {w0 w w1 g b s} (h : QSt w0 w g b s) (hb : Grows w w1) : QSt w0 w1 g b s := ⟨h.ws.grow hb, blkG h.rb hb⟩
theorem flagsR_no (w : ByteArray) (h : (splitS 47 w).length ≠ 2) : flagsR w = (0, 0, true) := by
  unfold flagsR
  split
  · rename_i heq; rw [heq] at h; simp at h
  · rfl
theorem flagsR_two (w x y : ByteArray) (h : splitS 47 w = [x, y]) : flagsR w = (bitsV x, bitsV y, (bitsF x).isNone || (bitsF y).isNone || decide (bitsV y = 0)) := by rw [flagsR, h]
def Sets (s : St) : Int × Int := (s.V.set, s.V.mask)
theorem sets5 (s : St) : Sets (ref5 s) = Sets s := by unfold ref5; split <;> rfl
theorem sets6 (s : St) : Sets (ref6 s) = Sets s := by unfold ref6; split <;> rfl
theorem zero9 (l : List ByteArray) : Sets (ref10 (ref9 (ref8 (ref7 (ref6 (ref5 (ref4 (ref3 (ref1 ⟨zRef, l, false⟩))))))))) = (0, 0) := by
  show Sets (ref6 _) = _
  rw [sets6, sets5]; rfl
set_option maxRecDepth 100000 in
set_option maxHeartbeats 16000000 in
theorem rparse_calls (s : ByteArray) (w : World) (hs : s.size ≤ 4294967280) (hE : Env w) :
    Calls Tryz.prog 12 #[.string s] w fun e w' => e = .returned (.tuple #[(rruleOf (wordsS s)).1.val, .int .i64 (rruleOf (wordsS s)).2]) ∧ Grows w w' := by
  have HE := Lib.hid hE
  clear hE
  obtain ⟨R, hR⟩ : ∃ R, R = rruleOf (wordsS s) := ⟨_, rfl⟩
  rw [← hR]
  have HR := Lib.hid hR
  clear hR
  go_enter Tryz.func12, Tryz.ntmps12
  go_wp2_with fail
  refine (rwords_calls s _ hs).mono ?_
  rintro e w0 ⟨A, n0, rfl, hst, hb0⟩
  have hz := blkG (heap_alloc_new w (ruleBlk zRule)) hb0
  have hgw : Grows w w0 := below_then (below_alloc (Below.refl w.heap.size w) (ruleBlk zRule)) (by simp) hb0
  obtain ⟨r, hr⟩ : ∃ r, r = w.heap.size := ⟨_, rfl⟩
  rw [← hr] at hz ⊢
  have HZ : Hid (w0.heap[r]? = some (ruleBlk zRule) ∧ w.heap.size ≤ r ∧ Grows w w0) := Lib.hid ⟨hz, by omega, hgw⟩
  clear hb0 hz hr
  have he0 := HE.out.below hgw
  clear hgw
  have hws : WS 78 w0 (w0.alloc (.cells #[.slice A (wordsS s).length n0, .bool false] 78)) w0.heap.size (wordsS s) false :=
    ⟨⟨A, _, heap_alloc_new w0 _, hst⟩, Nat.le_refl _, below_alloc (Below.refl _ _) _, he0, fun x hx => by have := words_size hx; omega⟩
  have h00 : QSt w0 ((w0.alloc (.cells #[.slice A (wordsS s).length n0, .bool false] 78)).alloc (ruleBlk zRule)) w0.heap.size (w0.heap.size + 1) ⟨zRule, wordsS s, false⟩ :=
    ⟨hws.alloc _, by simpa using heap_alloc_new (w0.alloc (.cells #[.slice A (wordsS s).length n0, .bool false] 78)) (ruleBlk zRule)⟩
  have HWS := Lib.hid hws
  have H00 := Lib.hid h00
  clear hws hst he0 h00
  obtain ⟨s0, hs0⟩ : ∃ s0, s0 = (⟨zRef, wordsS s, false⟩ : St) := ⟨_, rfl⟩
  have S0 := Lib.hid hs0
  clear hs0
  go_upto_region 3 with (refine wpList_store_row rfl 32 (.tmp 5) (.tmp 11) rfl (w0.heap.size + 1) zRef.cells rfl rfl 32 zRule.cells H00.out.rb (by kernel_rfl) rfl (rule_one _) ?_)
  have h0 : QSt w0 (World.setRow ((w0.alloc (.cells #[.slice A (wordsS s).length n0, .bool false] 78)).alloc (ruleBlk zRule)) (w0.heap.size + 1) zRef.cells) w0.heap.size (w0.heap.size + 1) s0 := by
    rw [S0.out]
    exact ⟨HWS.out.grow (below_setRow (below_alloc (Below.refl _ _) _) (by simp) _), setRow_heap _ _ zRule.cells zRef.cells 32 (0, 0) H00.out.rb⟩
  obtain ⟨g, hg⟩ : ∃ g, g = w0.heap.size := ⟨_, rfl⟩
  rw [← hg] at h0 ⊢
  obtain ⟨b, hb⟩ : ∃ b, b = g + 1 := ⟨_, rfl⟩
  rw [← hb] at h0 ⊢
  have ID : Hid (g ≠ b ∧ w0.heap.size ≤ b) := Lib.hid (by omega)
  clear hg hb
  have H0 := Lib.hid h0
  clear h0 HWS H00
  go_wp2_with fail
  refine (rnext_calls w0 _ g _ _ H0.out.ws).mono ?_
  rintro e wa ⟨rfl, hw⟩
  have HA := Lib.hid (H0.out.step hw ID.out.1)
  clear hw
  go_upto_block 0 with fail
  go_cut [] (fun wc => QSt w0 wc g b (ref1 s0))
  case first =>
    as_aux_lemma =>
    have t : wa.cell? ⟨b, 0, none⟩ = some (.bool s0.V.pass) := (blk_cell HA.out.rb 0).trans rfl
    have f := blk_frozen HA.out.rb 0
    obtain ⟨d1, d2⟩ := HA.out.bad1
    have hE : Hid (ref1 s0 = ⟨{ s0.V with pass := decide (nextS s0.l = passW) }, s0.l.tail, s0.bad || s0.l.isEmpty || (!decide (nextS s0.l = passW) && !decide (nextS s0.l = blockW))⟩) := Lib.hid rfl
    have hV : Hid (s0.V.pass = false ∧ s0.bad = false) := Lib.hid (by rw [S0.out]; exact ⟨rfl, rfl⟩)
    generalize nextS s0.l = x at *
    cases h1 : (x.toList == [112, 97, 115, 115]) with
    | true =>
      have h1' : x = passW := lit_yes h1
      have E1 := Lib.hid h1'
      clear h1'
      go_wp2_with fail
      go_meet
      rw [hE.out]
      have := HA.out.put ID.out.1 ID.out.2 0 (.bool true) { s0.V with pass := true } rfl
      simpa [E1.out] using this
    | false =>
      have h1' : ¬ x = passW := lit_no h1
      have E1 := Lib.hid h1'
      clear h1'
      cases h2 : (x.toList == [98, 108, 111, 99, 107]) with
      | true =>
        have h2' : x = blockW := lit_yes h2
        have E2 := Lib.hid h2'
        clear h2'
        go_wp2_with fail
        go_meet
        rw [hE.out]
        have := HA.out
        have ev : ({ s0.V with pass := false } : RuleV) = s0.V := by
          have := hV.out.1
          cases hv : s0.V
          rw [hv] at this
          simp only at this
          simp only [this]
        simp only [E2.out, show ¬ blockW = passW from by decide, decide_false, decide_true, Bool.not_true, Bool.and_false, Bool.or_false]
        rw [ev]
        exact HA.out
      | false =>
        have h2' : ¬ x = blockW := lit_no h2
        have E2 := Lib.hid h2'
        clear h2'
        go_wp2_with fail
        go_meet
        rw [hE.out]
        have ev : ({ s0.V with pass := false } : RuleV) = s0.V := by
          have := hV.out.1
          cases hv : s0.V
          rw [hv] at this
          simp only at this
          simp only [this]
        simp only [E1.out, E2.out, decide_false, Bool.not_false, Bool.and_true, Bool.or_true]
        rw [ev]
        exact HA.out.setBad ID.out.1 true

  case rest =>
    as_aux_lemma =>
    obtain ⟨s1, hs1⟩ : ∃ s1, s1 = ref1 s0 := ⟨_, rfl⟩
    rw [← hs1] at hcut
    have H1 := Lib.hid hcut
    have S1 := Lib.hid hs1
    clear hs1 hcut H0 HA
    go_upto_region 8 with fail
    go_cut [] (fun wc => QSt w0 wc g b (ref3 s1))
    case first =>
      as_aux_lemma =>
      go_wp2_with fail
      refine (is_calls w0 _ g s1.l s1.bad returnW H1.out.ws).mono ?_
      rintro e wa ⟨rfl, hw⟩
      have HA := Lib.hid (H1.out.step hw ID.out.1)
      clear hw
      have t : wa.cell? ⟨b, 1, none⟩ = some (.bool s1.V.ret) := (blk_cell HA.out.rb 1).trans rfl
      have f := blk_frozen HA.out.rb 1
      go_wp2_with fail
      go_meet
      exact HA.out.put ID.out.1 ID.out.2 1 _ { s1.V with ret := takesB s1.l false returnW } rfl

    case rest =>
      as_aux_lemma =>
      obtain ⟨s2, hs2⟩ : ∃ s2, s2 = ref3 s1 := ⟨_, rfl⟩
      rw [← hs2] at hcut
      have H2 := Lib.hid hcut
      have S2 := Lib.hid hs2
      clear hs2 hcut H1
      go_upto_region 9 with fail
      go_cut [] (fun wc => QSt w0 wc g b (ref4 s2))
      case first =>
        as_aux_lemma =>
        go_wp2_with fail
        refine (is_calls w0 _ g s2.l s2.bad quickW H2.out.ws).mono ?_
        rintro e wa ⟨rfl, hw⟩
        have HA := Lib.hid (H2.out.step hw ID.out.1)
        clear hw
        have t : wa.cell? ⟨b, 2, none⟩ = some (.bool s2.V.quick) := (blk_cell HA.out.rb 2).trans rfl
        have f := blk_frozen HA.out.rb 2
        go_wp2_with fail
        go_meet
        exact HA.out.put ID.out.1 ID.out.2 2 _ { s2.V with quick := takesB s2.l false quickW } rfl

      case rest =>
        as_aux_lemma =>
        obtain ⟨s3, hs3⟩ : ∃ s3, s3 = ref4 s2 := ⟨_, rfl⟩
        rw [← hs3] at hcut
        have H3 := Lib.hid hcut
        have S3 := Lib.hid hs3
        clear hs3 hcut H2
        go_wp2_with fail
        refine (is_calls w0 _ g s3.l s3.bad onW H3.out.ws).mono ?_
        rintro e wa ⟨rfl, hw⟩
        have HA := Lib.hid (H3.out.step hw ID.out.1)
        clear hw
        go_upto_if 29 with fail
        go_cut [] (fun wc => QSt w0 wc g b (ref5 s3))
        case first =>
          as_aux_lemma =>
          cases htk : takesB s3.l false onW with
          | false =>
            have e1 : ref5 s3 = s3 := by rw [ref5, isW, if_neg (by rw [htk]; decide)]
            have e2 : takesL s3.l false onW = s3.l := by rw [takesL, if_neg (by rw [htk]; decide)]
            rw [e2] at HA
            go_wp2_with fail
            go_meet
            rw [e1]
            exact HA.out
          | true =>
            have e2 : takesL s3.l false onW = s3.l.tail := by rw [takesL, if_pos htk]
            rw [e2] at HA
            clear e2
            have e1 : Hid (ref5 s3 = ⟨{ s3.V with on := nextS s3.l.tail }, s3.l.tail.tail, s3.bad || s3.l.tail.isEmpty || emptyB (nextS s3.l.tail)⟩) := Lib.hid (by rw [ref5, isW, if_pos htk])
            go_wp2_with fail
            refine (rnext_calls w0 _ g _ _ HA.out.ws).mono ?_
            rintro e wb ⟨rfl, hw⟩
            have HB := Lib.hid (HA.out.step hw ID.out.1)
            clear hw
            have t : wb.cell? ⟨b, 3, none⟩ = some (.string s3.V.on) := (blk_cell HB.out.rb 3).trans rfl
            have f := blk_frozen HB.out.rb 3
            obtain ⟨d1, d2⟩ := HB.out.bad1
            have hne := ID.out.1
            have hne2 := ID.out.1.symm
            have hn : Hid (emptyB (nextS s3.l.tail) = (nextS s3.l.tail).toList.isEmpty) := Lib.hid rfl
            generalize nextS s3.l.tail = x at *
            generalize hq : (s3.bad || s3.l.tail.isEmpty) = q at *
            have d1 : wb.cell? ⟨g, 1, none⟩ = some (.bool q) := d1
            cases q with
            | true =>
              go_wp2_with fail
              go_meet
              rw [e1.out]
              have := (HB.out.put ID.out.1 ID.out.2 3 (.string x) { s3.V with on := x } rfl).setBad ID.out.1 true
              simpa using this
            | false =>
              cases hx : x.toList.isEmpty with
              | true =>
                go_wp2_with fail
                go_meet
                rw [e1.out, hn.out]
                have := (HB.out.put ID.out.1 ID.out.2 3 (.string x) { s3.V with on := x } rfl).setBad ID.out.1 true
                simpa [hx] using this
              | false =>
                go_wp2_with fail
                go_meet
                rw [e1.out, hn.out]
                have := (HB.out.put ID.out.1 ID.out.2 3 (.string x) { s3.V with on := x } rfl).setBad ID.out.1 false
                simpa [hx] using this

        case rest =>
          as_aux_lemma =>
          obtain ⟨s4, hs4⟩ : ∃ s4, s4 = ref5 s3 := ⟨_, rfl⟩
          rw [← hs4] at hcut
          have H4 := Lib.hid hcut
          have S4 := Lib.hid hs4
          clear hs4 hcut H3 HA
          go_wp2_with fail
          refine (is_calls w0 _ g s4.l s4.bad protoW H4.out.ws).mono ?_
          rintro e wa ⟨rfl, hw⟩
          have HA := Lib.hid (H4.out.step hw ID.out.1)
          clear hw
          go_upto_if 46 with fail
          go_cut [] (fun wc => QSt w0 wc g b (ref6 s4))
          case first =>
            as_aux_lemma =>
            cases htk : takesB s4.l false protoW with
            | false =>
              have e1 : ref6 s4 = s4 := by rw [ref6, isW, if_neg (by rw [htk]; decide)]
              have e2 : takesL s4.l false protoW = s4.l := by rw [takesL, if_neg (by rw [htk]; decide)]
              rw [e2] at HA
              go_wp2_with fail
              go_meet
              rw [e1]
              exact HA.out
            | true =>
              have e2 : takesL s4.l false protoW = s4.l.tail := by rw [takesL, if_pos htk]
              rw [e2] at HA
              clear e2
              have e1 : Hid (ref6 s4 = ⟨{ s4.V with proto := (rprotoR (nextS s4.l.tail)).1 }, s4.l.tail.tail, s4.bad || s4.l.tail.isEmpty || (rprotoR (nextS s4.l.tail)).2⟩) := Lib.hid (by rw [ref6, isW, if_pos htk])
              go_wp2_with fail
              refine (rproto_calls w0 _ g _ _ HA.out.ws).mono ?_
              rintro e wb ⟨rfl, hw⟩
              have HB := Lib.hid (HA.out.step hw ID.out.1)
              clear hw
              have t : wb.cell? ⟨b, 4, none⟩ = some (.int .i64 s4.V.proto) := (blk_cell HB.out.rb 4).trans rfl
              have f := blk_frozen HB.out.rb 4
              go_wp2_with fail
              go_meet
              rw [e1.out]
              exact HB.out.put ID.out.1 ID.out.2 4 _ { s4.V with proto := (rprotoR (nextS s4.l.tail)).1 } rfl

          case rest =>
            as_aux_lemma =>
            obtain ⟨s5, hs5⟩ : ∃ s5, s5 = ref6 s4 := ⟨_, rfl⟩
            rw [← hs5] at hcut
            have H5 := Lib.hid hcut
            have S5 := Lib.hid hs5
            clear hs5 hcut H4 HA
            go_upto_region 15 with fail
            go_cut [] (fun wc => QSt w0 wc g b (ref7 s5))
            case first =>
              as_aux_lemma =>
              go_wp2_with fail
              refine (is_calls w0 _ g s5.l s5.bad fromW H5.out.ws).mono ?_
              rintro e wa ⟨rfl, hw⟩
              have HA := Lib.hid (H5.out.step hw ID.out.1)
              clear hw
              obtain ⟨d1, d2⟩ := HA.out.bad1
              have hE : Hid (ref7 s5 = ⟨s5.V, takesL s5.l false fromW, !takesB s5.l false fromW || s5.bad⟩) := Lib.hid rfl
              have d1 : wa.cell? ⟨g, 1, none⟩ = some (.bool s5.bad) := d1
              cases htk : takesB s5.l false fromW with
              | true =>
                go_wp2_with fail
                go_meet
                rw [hE.out, htk]
                have := HA.out.setBad ID.out.1 s5.bad
                simpa using this
              | false =>
                go_wp2_with fail
                go_meet
                rw [hE.out, htk]
                have := HA.out.setBad ID.out.1 true
                simpa using this

            case rest =>
              as_aux_lemma =>
              obtain ⟨s6, hs6⟩ : ∃ s6, s6 = ref7 s5 := ⟨_, rfl⟩
              rw [← hs6] at hcut
              have H6 := Lib.hid hcut
              have S6 := Lib.hid hs6
              clear hs6 hcut H5
              go_upto_region 16 with fail
              go_cut [] (fun wc => QSt w0 wc g b (ref8 s6))
              case first =>
                as_aux_lemma =>
                go_wp2_with fail
                refine (end_calls w0 _ g s6.l s6.bad H6.out.ws).mono ?_
                rintro e wa ⟨rfl, hw⟩
                have HA := Lib.hid (H6.out.step hw ID.out.1)
                clear hw
                have e0 : (endR s6.l s6.bad).1.val = .agg (endR s6.l s6.bad).1.cells := rfl
                rw [e0, SideV.cells]
                clear e0
                have t0 : wa.cell? ⟨b, 5, none⟩ = some (.bool s6.V.src.any) := (blk_cell HA.out.rb 5).trans rfl
                have f0 := blk_frozen HA.out.rb 5
                have t1 : wa.cell? ⟨b, 6, none⟩ = some (.string s6.V.src.table) := (blk_cell HA.out.rb 6).trans rfl
                have f1 := blk_frozen HA.out.rb 6
                have t2 : wa.cell? ⟨b, 7, none⟩ = some (.int .u32 s6.V.src.addr) := (blk_cell HA.out.rb 7).trans rfl
                have f2 := blk_frozen HA.out.rb 7
                have t3 : wa.cell? ⟨b, 8, none⟩ = some (.int .i64 s6.V.src.len) := (blk_cell HA.out.rb 8).trans rfl
                have f3 := blk_frozen HA.out.rb 8
                have t4 : wa.cell? ⟨b, 9, none⟩ = some (.int .i64 s6.V.src.low) := (blk_cell HA.out.rb 9).trans rfl
                have f4 := blk_frozen HA.out.rb 9
                have t5 : wa.cell? ⟨b, 10, none⟩ = some (.int .i64 s6.V.src.high) := (blk_cell HA.out.rb 10).trans rfl
                have f5 := blk_frozen HA.out.rb 10
                have hE : Hid (ref8 s6 = ⟨{ s6.V with src := (endR s6.l s6.bad).1 }, (endR s6.l s6.bad).2.1, (endR s6.l s6.bad).2.2⟩) := Lib.hid rfl
                generalize endR s6.l s6.bad = R at *
                go_wp2_with fail
                go_meet
                rw [hE.out]
                exact ((((((HA.out.put ID.out.1 ID.out.2 5 _ { s6.V with src := { s6.V.src with any := R.1.any } } rfl).put ID.out.1 ID.out.2 6 _ { s6.V with src := { s6.V.src with any := R.1.any, table := R.1.table } } rfl).put ID.out.1 ID.out.2 7 _ { s6.V with src := { s6.V.src with any := R.1.any, table := R.1.table, addr := R.1.addr } } rfl).put ID.out.1 ID.out.2 8 _ { s6.V with src := { s6.V.src with any := R.1.any, table := R.1.table, addr := R.1.addr, len := R.1.len } } rfl).put ID.out.1 ID.out.2 9 _ { s6.V with src := { s6.V.src with any := R.1.any, table := R.1.table, addr := R.1.addr, len := R.1.len, low := R.1.low } } rfl).put ID.out.1 ID.out.2 10 _ { s6.V with src := { s6.V.src with any := R.1.any, table := R.1.table, addr := R.1.addr, len := R.1.len, low := R.1.low, high := R.1.high } } rfl)

              case rest =>
                as_aux_lemma =>
                obtain ⟨s7, hs7⟩ : ∃ s7, s7 = ref8 s6 := ⟨_, rfl⟩
                rw [← hs7] at hcut
                have H7 := Lib.hid hcut
                have S7 := Lib.hid hs7
                clear hs7 hcut H6
                go_upto_region 17 with fail
                go_cut [] (fun wc => QSt w0 wc g b (ref9 s7))
                case first =>
                  as_aux_lemma =>
                  go_wp2_with fail
                  refine (is_calls w0 _ g s7.l s7.bad toW H7.out.ws).mono ?_
                  rintro e wa ⟨rfl, hw⟩
                  have HA := Lib.hid (H7.out.step hw ID.out.1)
                  clear hw
                  obtain ⟨d1, d2⟩ := HA.out.bad1
                  have hE : Hid (ref9 s7 = ⟨s7.V, takesL s7.l false toW, !takesB s7.l false toW || s7.bad⟩) := Lib.hid rfl
                  have d1 : wa.cell? ⟨g, 1, none⟩ = some (.bool s7.bad) := d1
                  cases htk : takesB s7.l false toW with
                  | true =>
                    go_wp2_with fail
                    go_meet
                    rw [hE.out, htk]
                    have := HA.out.setBad ID.out.1 s7.bad
                    simpa using this
                  | false =>
                    go_wp2_with fail
                    go_meet
                    rw [hE.out, htk]
                    have := HA.out.setBad ID.out.1 true
                    simpa using this

                case rest =>
                  as_aux_lemma =>
                  obtain ⟨s8, hs8⟩ : ∃ s8, s8 = ref9 s7 := ⟨_, rfl⟩
                  rw [← hs8] at hcut
                  have H8 := Lib.hid hcut
                  have S8 := Lib.hid hs8
                  clear hs8 hcut H7
                  go_upto_region 18 with fail
                  go_cut [] (fun wc => QSt w0 wc g b (ref10 s8))
                  case first =>
                    as_aux_lemma =>
                    go_wp2_with fail
                    refine (end_calls w0 _ g s8.l s8.bad H8.out.ws).mono ?_
                    rintro e wa ⟨rfl, hw⟩
                    have HA := Lib.hid (H8.out.step hw ID.out.1)
                    clear hw
                    have e0 : (endR s8.l s8.bad).1.val = .agg (endR s8.l s8.bad).1.cells := rfl
                    rw [e0, SideV.cells]
                    clear e0
                    have t0 : wa.cell? ⟨b, 11, none⟩ = some (.bool s8.V.dst.any) := (blk_cell HA.out.rb 11).trans rfl
                    have f0 := blk_frozen HA.out.rb 11
                    have t1 : wa.cell? ⟨b, 12, none⟩ = some (.string s8.V.dst.table) := (blk_cell HA.out.rb 12).trans rfl
                    have f1 := blk_frozen HA.out.rb 12
                    have t2 : wa.cell? ⟨b, 13, none⟩ = some (.int .u32 s8.V.dst.addr) := (blk_cell HA.out.rb 13).trans rfl
                    have f2 := blk_frozen HA.out.rb 13
                    have t3 : wa.cell? ⟨b, 14, none⟩ = some (.int .i64 s8.V.dst.len) := (blk_cell HA.out.rb 14).trans rfl
                    have f3 := blk_frozen HA.out.rb 14
                    have t4 : wa.cell? ⟨b, 15, none⟩ = some (.int .i64 s8.V.dst.low) := (blk_cell HA.out.rb 15).trans rfl
                    have f4 := blk_frozen HA.out.rb 15
                    have t5 : wa.cell? ⟨b, 16, none⟩ = some (.int .i64 s8.V.dst.high) := (blk_cell HA.out.rb 16).trans rfl
                    have f5 := blk_frozen HA.out.rb 16
                    have hE : Hid (ref10 s8 = ⟨{ s8.V with dst := (endR s8.l s8.bad).1 }, (endR s8.l s8.bad).2.1, (endR s8.l s8.bad).2.2⟩) := Lib.hid rfl
                    generalize endR s8.l s8.bad = R at *
                    go_wp2_with fail
                    go_meet
                    rw [hE.out]
                    exact ((((((HA.out.put ID.out.1 ID.out.2 11 _ { s8.V with dst := { s8.V.dst with any := R.1.any } } rfl).put ID.out.1 ID.out.2 12 _ { s8.V with dst := { s8.V.dst with any := R.1.any, table := R.1.table } } rfl).put ID.out.1 ID.out.2 13 _ { s8.V with dst := { s8.V.dst with any := R.1.any, table := R.1.table, addr := R.1.addr } } rfl).put ID.out.1 ID.out.2 14 _ { s8.V with dst := { s8.V.dst with any := R.1.any, table := R.1.table, addr := R.1.addr, len := R.1.len } } rfl).put ID.out.1 ID.out.2 15 _ { s8.V with dst := { s8.V.dst with any := R.1.any, table := R.1.table, addr := R.1.addr, len := R.1.len, low := R.1.low } } rfl).put ID.out.1 ID.out.2 16 _ { s8.V with dst := { s8.V.dst with any := R.1.any, table := R.1.table, addr := R.1.addr, len := R.1.len, low := R.1.low, high := R.1.high } } rfl)

                  case rest =>
                    as_aux_lemma =>
                    obtain ⟨s9, hs9⟩ : ∃ s9, s9 = ref10 s8 := ⟨_, rfl⟩
                    rw [← hs9] at hcut
                    have H9 := Lib.hid hcut
                    have S9 := Lib.hid hs9
                    clear hs9 hcut H8
                    go_wp2_with fail
                    refine (is_calls w0 _ g s9.l s9.bad flagsW H9.out.ws).mono ?_
                    rintro e wa ⟨rfl, hw⟩
                    have HA := Lib.hid (H9.out.step hw ID.out.1)
                    clear hw
                    go_upto_if 81 with fail
                    go_cut [] (fun wc => QSt w0 wc g b (ref11 s9))
                    case first =>
                      as_aux_lemma =>
                      cases htk : takesB s9.l false flagsW with
                      | false =>
                        have e1 : ref11 s9 = s9 := by rw [ref11, isW, if_neg (by rw [htk]; decide)]
                        have e2 : takesL s9.l false flagsW = s9.l := by rw [takesL, if_neg (by rw [htk]; decide)]
                        rw [e2] at HA
                        go_wp2_with fail
                        go_meet
                        rw [e1]
                        exact HA.out
                      | true =>
                        have e2 : takesL s9.l false flagsW = s9.l.tail := by rw [takesL, if_pos htk]
                        rw [e2] at HA
                        clear e2
                        have e1 : Hid (ref11 s9 = ⟨{ s9.V with set := (flagsR (nextS s9.l.tail)).1, mask := (flagsR (nextS s9.l.tail)).2.1 }, s9.l.tail.tail, s9.bad || s9.l.tail.isEmpty || (flagsR (nextS s9.l.tail)).2.2⟩) := Lib.hid (by rw [ref11, isW, if_pos htk])
                        have hzz : Hid (s9.V.set = 0 ∧ s9.V.mask = 0) := Lib.hid (by
                          have := zero9 (wordsS s)
                          rw [← S0.out, ← S1.out, ← S2.out, ← S3.out, ← S4.out, ← S5.out, ← S6.out, ← S7.out, ← S8.out, ← S9.out] at this
                          exact Prod.mk.inj this)
                        go_wp2_with fail
                        refine (rnext_calls w0 _ g _ _ HA.out.ws).mono ?_
                        rintro e wb ⟨rfl, hw⟩
                        have HB := Lib.hid (HA.out.step hw ID.out.1)
                        clear hw
                        have hsz := HA.out.ws.next_sz
                        go_wp2_with fail
                        refine (rsplit_calls _ 47 wb (by have : (nextS s9.l.tail).size < 4294967281 := hsz; omega)).mono ?_
                        rintro e wd ⟨b5, n5, o5, rfl, hn5, hb5, ho5, hc5, hg5⟩
                        have HC := Lib.hid (HB.out.grow hg5)
                        have l1 := HB.out.ws.lt
                        have l2 := blk_lt HB.out.rb
                        have H5 : Hid (b5 ≠ g ∧ b5 ≠ b) := Lib.hid (by omega)
                        have HO := Lib.hid ho5
                        have HC5 := Lib.hid hc5
                        clear hg5 l1 l2 hb5 ho5 hc5
                        have hno := flagsR_no (nextS s9.l.tail)
                        have htwo := flagsR_two (nextS s9.l.tail)
                        generalize flagsR (nextS s9.l.tail) = F at *
                        generalize splitS 47 (nextS s9.l.tail) = L at *
                        obtain ⟨m, hm⟩ : ∃ m, m = L.length := ⟨_, rfl⟩
                        rw [← hm] at hno hn5 ⊢
                        have HM := Lib.hid hm
                        have HNO := Lib.hid hno
                        have HTWO := Lib.hid htwo
                        clear hm hno htwo
                        obtain ⟨d1, d2⟩ := HC.out.bad1
                        have hne := ID.out.1
                        have hne2 := ID.out.1.symm
                        generalize hq : (s9.bad || s9.l.tail.isEmpty) = q at *
                        have d1 : wd.cell? ⟨g, 1, none⟩ = some (.bool q) := d1
                        have t17 : wd.cell? ⟨b, 17, none⟩ = some (.int .i64 s9.V.set) := (blk_cell HC.out.rb 17).trans rfl
                        have t18 : wd.cell? ⟨b, 18, none⟩ = some (.int .i64 s9.V.mask) := (blk_cell HC.out.rb 18).trans rfl
                        have f17 := blk_frozen HC.out.rb 17
                        have f18 := blk_frozen HC.out.rb 18
                        cases hm2 : ((m : Int) == 2) with
                        | false =>
                          have hz : (s9.V.mask == 0) = true := by rw [hzz.out.2]; rfl
                          have hF : F = (0, 0, true) := HNO.out (fun e => by rw [e] at hm2; exact absurd hm2 (by decide))
                          have E2 : Hid (ref11 s9 = ⟨s9.V, s9.l.tail.tail, true⟩) := Lib.hid (by
                            rw [e1.out, hF]
                            have ev : ({ s9.V with set := 0, mask := 0 } : RuleV) = s9.V := by
                              have h1 := hzz.out.1
                              have h2 := hzz.out.2
                              cases hv : s9.V
                              rw [hv] at h1 h2
                              simp only at h1 h2
                              simp only [h1, h2]
                            simp only [Bool.or_true]
                            rw [ev])
                          clear hF
                          cases q with
                          | true =>
                            go_wp2_with fail
                            go_meet
                            rw [E2.out]
                            exact HC.out.setBad ID.out.1 true
                          | false =>
                            go_wp2_with fail
                            go_meet
                            rw [E2.out]
                            exact HC.out.setBad ID.out.1 true
                        | true =>
                          have hm3 : m = 2 := by rw [beq_iff_eq] at hm2; omega
                          subst hm3
                          obtain ⟨x, y, hxy⟩ : ∃ x y, L = [x, y] := by
                            have := HM.out
                            match L, this with
                            | [x, y], _ => exact ⟨x, y, rfl⟩
                          have hF := HTWO.out x y hxy
                          subst hxy
                          have E2 : Hid (ref11 s9 = ⟨{ s9.V with set := bitsV x, mask := bitsV y }, s9.l.tail.tail, q || (bitsF x).isNone || (bitsF y).isNone || decide (bitsV y = 0)⟩) := Lib.hid (by rw [e1.out, hF]; simp only [Bool.or_assoc])
                          clear hF HTWO HNO HM
                          have p0 : wd.cell? ⟨b5, 0, none⟩ = some (.string x) := HC5.out wd HO.out 0 x rfl
                          have p1 : wd.cell? ⟨b5, 1, none⟩ = some (.string y) := HC5.out wd HO.out 1 y rfl
                          clear hm2 d1 d2 t17 t18 f17 f18
                          have HCd : Hid (QSt w0 wd.drew g b ⟨s9.V, s9.l.tail.tail, q⟩) := Lib.hid (HC.out.grow (below_drew (Below.refl _ _)))
                          have HOd : Hid (wd.drew.heap[b5]? = some o5) := Lib.hid HO.out
                          have HQ := Lib.hid hq
                          clear hq
                          have hn1 : b5 ≠ b := H5.out.2
                          have hn2 : b ≠ b5 := H5.out.2.symm
                          go_wp2_with fail
                          go_region_held3 (fun W => W.cell? ⟨b5, 0, none⟩ = some (.string x) ∧ W.cell? ⟨b5, 1, none⟩ = some (.string y)) (go_keep) (first
                            | (go_at_call 46; (with_reducible refine (rflags_calls w0 wd.drew g _ _ x HCd.out.ws).mono ?_); rintro e w2 ⟨rfl, hw2⟩; have HO2 := Lib.hid (hw2.blk HOd.out H5.out.1); have HD := Lib.hid (HCd.out.step hw2 ID.out.1); have p20 : w2.cell? ⟨b5, 0, none⟩ = some (.string x) := HC5.out w2 HO2.out 0 x rfl; have p21 : w2.cell? ⟨b5, 1, none⟩ = some (.string y) := HC5.out w2 HO2.out 1 y rfl; clear hw2)
                            | (go_at_call 46; (with_reducible refine (rflags_calls w0 w2 g _ _ y HD.out.ws).mono ?_); rintro e w3 ⟨rfl, hw3⟩; have HE := Lib.hid (HD.out.step hw3 ID.out.1); have HO3 := Lib.hid (hw3.blk HO2.out H5.out.1); have p30 : w3.cell? ⟨b5, 0, none⟩ = some (.string x) := HC5.out w3 HO3.out 0 x rfl; have p31 : w3.cell? ⟨b5, 1, none⟩ = some (.string y) := HC5.out w3 HO3.out 1 y rfl; have t17 : w3.cell? ⟨b, 17, none⟩ = some (.int .i64 s9.V.set) := (blk_cell HE.out.rb 17).trans rfl; have t18 : w3.cell? ⟨b, 18, none⟩ = some (.int .i64 s9.V.mask) := (blk_cell HE.out.rb 18).trans rfl; have f17 := blk_frozen HE.out.rb 17; have f18 := blk_frozen HE.out.rb 18; clear hw3; obtain ⟨d1, d2⟩ := HE.out.bad1))
                          clear p0 p1 p20 p21 p30 p31 hn1 hn2
                          generalize hB : (q || (bitsF x).isNone || (bitsF y).isNone) = B at *
                          have d1 : w3.cell? ⟨g, 1, none⟩ = some (.bool B) := d1
                          clear hB
                          cases B with
                          | true =>
                            go_wp2_with fail
                            go_meet
                            rw [E2.out]
                            have := ((HE.out.put ID.out.1 ID.out.2 17 (.int .i64 (bitsV x)) { s9.V with set := bitsV x } rfl).put ID.out.1 ID.out.2 18 (.int .i64 (bitsV y)) { s9.V with set := bitsV x, mask := bitsV y } rfl).setBad ID.out.1 true
                            simpa using this
                          | false =>
                            cases hz : (bitsV y == 0) with
                            | true =>
                              have hz' : bitsV y = 0 := by simpa using hz
                              go_wp2_with fail
                              go_meet
                              rw [E2.out]
                              have := ((HE.out.put ID.out.1 ID.out.2 17 (.int .i64 (bitsV x)) { s9.V with set := bitsV x } rfl).put ID.out.1 ID.out.2 18 (.int .i64 (bitsV y)) { s9.V with set := bitsV x, mask := bitsV y } rfl).setBad ID.out.1 true
                              simpa [hz'] using this
                            | false =>
                              have hz' : ¬ bitsV y = 0 := by simpa using hz
                              go_wp2_with fail
                              go_meet
                              rw [E2.out]
                              have := ((HE.out.put ID.out.1 ID.out.2 17 (.int .i64 (bitsV x)) { s9.V with set := bitsV x } rfl).put ID.out.1 ID.out.2 18 (.int .i64 (bitsV y)) { s9.V with set := bitsV x, mask := bitsV y } rfl).setBad ID.out.1 false
                              simpa [hz'] using this

                    case rest =>
                      as_aux_lemma =>
                      obtain ⟨s10, hs10⟩ : ∃ s10, s10 = ref11 s9 := ⟨_, rfl⟩
                      rw [← hs10] at hcut
                      have H10 := Lib.hid hcut
                      have S10 := Lib.hid hs10
                      clear hs10 hcut H9 HA
                      go_wp2_with fail
                      refine (is_calls w0 _ g s10.l s10.bad typeW H10.out.ws).mono ?_
                      rintro e wa ⟨rfl, hw⟩
                      have HA := Lib.hid (H10.out.step hw ID.out.1)
                      clear hw
                      go_upto_if 113 with fail
                      go_cut [] (fun wc => QSt w0 wc g b (ref12 s10))
                      case first =>
                        as_aux_lemma =>
                        cases htk : takesB s10.l false typeW with
                        | false =>
                          have e1 : ref12 s10 = s10 := by rw [ref12, isW, if_neg (by rw [htk]; decide)]
                          have e2 : takesL s10.l false typeW = s10.l := by rw [takesL, if_neg (by rw [htk]; decide)]
                          rw [e2] at HA
                          go_wp2_with fail
                          go_meet
                          rw [e1]
                          exact HA.out
                        | true =>
                          have e2 : takesL s10.l false typeW = s10.l.tail := by rw [takesL, if_pos htk]
                          rw [e2] at HA
                          clear e2
                          have e1 : Hid (ref12 s10 = ⟨{ s10.V with type := (numR 9 255 (nextS s10.l.tail)).1 }, s10.l.tail.tail, s10.bad || s10.l.tail.isEmpty || !(numR 9 255 (nextS s10.l.tail)).2⟩) := Lib.hid (by rw [ref12, isW, if_pos htk])
                          go_wp2_with fail
                          refine (rnext_calls w0 _ g _ _ HA.out.ws).mono ?_
                          rintro e wb ⟨rfl, hw⟩
                          have HB := Lib.hid (HA.out.step hw ID.out.1)
                          clear hw
                          go_wp2_with fail
                          refine (rnum_calls w0 _ g _ _ _ 255 HB.out.ws).mono ?_
                          rintro e wd ⟨rfl, hw⟩
                          have HC := Lib.hid (HB.out.step hw ID.out.1)
                          clear hw
                          have t : wd.cell? ⟨b, 19, none⟩ = some (.int .i64 s10.V.type) := (blk_cell HC.out.rb 19).trans rfl
                          have f := blk_frozen HC.out.rb 19
                          go_wp2_with fail
                          go_meet
                          rw [e1.out]
                          exact HC.out.put ID.out.1 ID.out.2 19 _ { s10.V with type := (numR 9 255 (nextS s10.l.tail)).1 } rfl

                      case rest =>
                        as_aux_lemma =>
                        obtain ⟨s11, hs11⟩ : ∃ s11, s11 = ref12 s10 := ⟨_, rfl⟩
                        rw [← hs11] at hcut
                        have H11 := Lib.hid hcut
                        have S11 := Lib.hid hs11
                        clear hs11 hcut H10 HA
                        go_upto_region 26 with fail
                        go_cut [] (fun wc => QSt w0 wc g b (ref13 s11))
                        case first =>
                          as_aux_lemma =>
                          go_wp2_with fail
                          refine (is_calls w0 _ g s11.l s11.bad keepW H11.out.ws).mono ?_
                          rintro e wa ⟨rfl, hw⟩
                          have HA := Lib.hid (H11.out.step hw ID.out.1)
                          clear hw
                          have t : wa.cell? ⟨b, 20, none⟩ = some (.bool s11.V.keep) := (blk_cell HA.out.rb 20).trans rfl
                          have f := blk_frozen HA.out.rb 20
                          go_wp2_with fail
                          go_meet
                          exact HA.out.put ID.out.1 ID.out.2 20 _ { s11.V with keep := takesB s11.l false keepW } rfl

                        case rest =>
                          as_aux_lemma =>
                          obtain ⟨s12, hs12⟩ : ∃ s12, s12 = ref13 s11 := ⟨_, rfl⟩
                          rw [← hs12] at hcut
                          have H12 := Lib.hid hcut
                          have S12 := Lib.hid hs12
                          clear hs12 hcut H11
                          go_wp2_with fail
                          refine (is_calls w0 _ g s12.l s12.bad routeW H12.out.ws).mono ?_
                          rintro e wa ⟨rfl, hw⟩
                          have HA := Lib.hid (H12.out.step hw ID.out.1)
                          clear hw
                          go_upto_if 123 with fail
                          go_cut [] (fun wc => QSt w0 wc g b (ref14 s12))
                          case first =>
                            as_aux_lemma =>
                            cases htk : takesB s12.l false routeW with
                            | false =>
                              have e1 : ref14 s12 = s12 := by rw [ref14, isW, if_neg (by rw [htk]; decide)]
                              have e2 : takesL s12.l false routeW = s12.l := by rw [takesL, if_neg (by rw [htk]; decide)]
                              rw [e2] at HA
                              go_wp2_with fail
                              go_meet
                              rw [e1]
                              exact HA.out
                            | true =>
                              have e2 : takesL s12.l false routeW = s12.l.tail := by rw [takesL, if_pos htk]
                              rw [e2] at HA
                              clear e2
                              have e1 : Hid (ref14 s12 = ⟨{ s12.V with route := (rpinR s12.l.tail s12.bad).1 }, (rpinR s12.l.tail s12.bad).2.1, (rpinR s12.l.tail s12.bad).2.2⟩) := Lib.hid (by rw [ref14, isW, if_pos htk])
                              go_wp2_with fail
                              refine (rpin_calls w0 _ g _ _ HA.out.ws).mono ?_
                              rintro e wb ⟨rfl, hw⟩
                              have HB := Lib.hid (HA.out.step hw ID.out.1)
                              clear hw
                              have e0 : (rpinR s12.l.tail s12.bad).1.val = .agg #[.bool (rpinR s12.l.tail s12.bad).1.on, .string (rpinR s12.l.tail s12.bad).1.iface, .int .u32 (rpinR s12.l.tail s12.bad).1.gate] := rfl
                              rw [e0]
                              clear e0
                              have t0 : wb.cell? ⟨b, 21, none⟩ = some (.bool s12.V.route.on) := (blk_cell HB.out.rb 21).trans rfl
                              have f0 := blk_frozen HB.out.rb 21
                              have t1 : wb.cell? ⟨b, 22, none⟩ = some (.string s12.V.route.iface) := (blk_cell HB.out.rb 22).trans rfl
                              have f1 := blk_frozen HB.out.rb 22
                              have t2 : wb.cell? ⟨b, 23, none⟩ = some (.int .u32 s12.V.route.gate) := (blk_cell HB.out.rb 23).trans rfl
                              have f2 := blk_frozen HB.out.rb 23
                              generalize rpinR s12.l.tail s12.bad = R at *
                              go_wp2_with fail
                              go_meet
                              rw [e1.out]
                              exact (((HB.out.put ID.out.1 ID.out.2 21 _ { s12.V with route := { s12.V.route with on := R.1.on } } rfl).put ID.out.1 ID.out.2 22 _ { s12.V with route := { s12.V.route with on := R.1.on, iface := R.1.iface } } rfl).put ID.out.1 ID.out.2 23 _ { s12.V with route := { s12.V.route with on := R.1.on, iface := R.1.iface, gate := R.1.gate } } rfl)

                          case rest =>
                            as_aux_lemma =>
                            obtain ⟨s13, hs13⟩ : ∃ s13, s13 = ref14 s12 := ⟨_, rfl⟩
                            rw [← hs13] at hcut
                            have H13 := Lib.hid hcut
                            have S13 := Lib.hid hs13
                            clear hs13 hcut H12 HA
                            go_wp2_with fail
                            refine (is_calls w0 _ g s13.l s13.bad replyW H13.out.ws).mono ?_
                            rintro e wa ⟨rfl, hw⟩
                            have HA := Lib.hid (H13.out.step hw ID.out.1)
                            clear hw
                            go_upto_if 128 with fail
                            go_cut [] (fun wc => QSt w0 wc g b (ref15 s13))
                            case first =>
                              as_aux_lemma =>
                              cases htk : takesB s13.l false replyW with
                              | false =>
                                have e1 : ref15 s13 = s13 := by rw [ref15, isW, if_neg (by rw [htk]; decide)]
                                have e2 : takesL s13.l false replyW = s13.l := by rw [takesL, if_neg (by rw [htk]; decide)]
                                rw [e2] at HA
                                go_wp2_with fail
                                go_meet
                                rw [e1]
                                exact HA.out
                              | true =>
                                have e2 : takesL s13.l false replyW = s13.l.tail := by rw [takesL, if_pos htk]
                                rw [e2] at HA
                                clear e2
                                have e1 : Hid (ref15 s13 = ⟨{ s13.V with reply := (rpinR s13.l.tail s13.bad).1 }, (rpinR s13.l.tail s13.bad).2.1, (rpinR s13.l.tail s13.bad).2.2⟩) := Lib.hid (by rw [ref15, isW, if_pos htk])
                                go_wp2_with fail
                                refine (rpin_calls w0 _ g _ _ HA.out.ws).mono ?_
                                rintro e wb ⟨rfl, hw⟩
                                have HB := Lib.hid (HA.out.step hw ID.out.1)
                                clear hw
                                have e0 : (rpinR s13.l.tail s13.bad).1.val = .agg #[.bool (rpinR s13.l.tail s13.bad).1.on, .string (rpinR s13.l.tail s13.bad).1.iface, .int .u32 (rpinR s13.l.tail s13.bad).1.gate] := rfl
                                rw [e0]
                                clear e0
                                have t0 : wb.cell? ⟨b, 24, none⟩ = some (.bool s13.V.reply.on) := (blk_cell HB.out.rb 24).trans rfl
                                have f0 := blk_frozen HB.out.rb 24
                                have t1 : wb.cell? ⟨b, 25, none⟩ = some (.string s13.V.reply.iface) := (blk_cell HB.out.rb 25).trans rfl
                                have f1 := blk_frozen HB.out.rb 25
                                have t2 : wb.cell? ⟨b, 26, none⟩ = some (.int .u32 s13.V.reply.gate) := (blk_cell HB.out.rb 26).trans rfl
                                have f2 := blk_frozen HB.out.rb 26
                                generalize rpinR s13.l.tail s13.bad = R at *
                                go_wp2_with fail
                                go_meet
                                rw [e1.out]
                                exact (((HB.out.put ID.out.1 ID.out.2 24 _ { s13.V with reply := { s13.V.reply with on := R.1.on } } rfl).put ID.out.1 ID.out.2 25 _ { s13.V with reply := { s13.V.reply with on := R.1.on, iface := R.1.iface } } rfl).put ID.out.1 ID.out.2 26 _ { s13.V with reply := { s13.V.reply with on := R.1.on, iface := R.1.iface, gate := R.1.gate } } rfl)

                            case rest =>
                              as_aux_lemma =>
                              obtain ⟨s14, hs14⟩ : ∃ s14, s14 = ref15 s13 := ⟨_, rfl⟩
                              rw [← hs14] at hcut
                              have H14 := Lib.hid hcut
                              have S14 := Lib.hid hs14
                              clear hs14 hcut H13 HA
                              go_wp2_with fail
                              refine (is_calls w0 _ g s14.l s14.bad tableW H14.out.ws).mono ?_
                              rintro e wa ⟨rfl, hw⟩
                              have HA := Lib.hid (H14.out.step hw ID.out.1)
                              clear hw
                              go_upto_if 133 with fail
                              go_cut [] (fun wc => QSt w0 wc g b (ref16 s14))
                              case first =>
                                as_aux_lemma =>
                                cases htk : takesB s14.l false tableW with
                                | false =>
                                  have e1 : ref16 s14 = s14 := by rw [ref16, isW, if_neg (by rw [htk]; decide)]
                                  have e2 : takesL s14.l false tableW = s14.l := by rw [takesL, if_neg (by rw [htk]; decide)]
                                  rw [e2] at HA
                                  go_wp2_with fail
                                  go_meet
                                  rw [e1]
                                  exact HA.out
                                | true =>
                                  have e2 : takesL s14.l false tableW = s14.l.tail := by rw [takesL, if_pos htk]
                                  rw [e2] at HA
                                  clear e2
                                  have e1 : Hid (ref16 s14 = ⟨{ s14.V with table := (numR 9 3 (nextS s14.l.tail)).1 }, s14.l.tail.tail, s14.bad || s14.l.tail.isEmpty || !(numR 9 3 (nextS s14.l.tail)).2 || decide ((numR 9 3 (nextS s14.l.tail)).1 = 0)⟩) := Lib.hid (by rw [ref16, isW, if_pos htk])
                                  go_wp2_with fail
                                  refine (rnext_calls w0 _ g _ _ HA.out.ws).mono ?_
                                  rintro e wb ⟨rfl, hw⟩
                                  have HB := Lib.hid (HA.out.step hw ID.out.1)
                                  clear hw
                                  go_wp2_with fail
                                  refine (rnum_calls w0 _ g _ _ _ 3 HB.out.ws).mono ?_
                                  rintro e wd ⟨rfl, hw⟩
                                  have HC := Lib.hid (HB.out.step hw ID.out.1)
                                  clear hw
                                  have t : wd.cell? ⟨b, 27, none⟩ = some (.int .i64 s14.V.table) := (blk_cell HC.out.rb 27).trans rfl
                                  have f := blk_frozen HC.out.rb 27
                                  obtain ⟨d1, d2⟩ := HC.out.bad1
                                  have hne := ID.out.1
                                  have hne2 := ID.out.1.symm
                                  generalize hq : (s14.bad || s14.l.tail.isEmpty || !(numR 9 3 (nextS s14.l.tail)).2) = q at *
                                  generalize (numR 9 3 (nextS s14.l.tail)).1 = x at *
                                  have d1 : wd.cell? ⟨g, 1, none⟩ = some (.bool q) := d1
                                  cases q with
                                  | true =>
                                    go_wp2_with fail
                                    go_meet
                                    rw [e1.out]
                                    have := (HC.out.put ID.out.1 ID.out.2 27 (.int .i64 x) { s14.V with table := x } rfl).setBad ID.out.1 true
                                    simpa using this
                                  | false =>
                                    cases hx : (x == 0) with
                                    | true =>
                                      have hx' : x = 0 := by simpa using hx
                                      go_wp2_with fail
                                      go_meet
                                      rw [e1.out]
                                      have := (HC.out.put ID.out.1 ID.out.2 27 (.int .i64 x) { s14.V with table := x } rfl).setBad ID.out.1 true
                                      simpa [hx'] using this
                                    | false =>
                                      have hx' : ¬ x = 0 := by simpa using hx
                                      go_wp2_with fail
                                      go_meet
                                      rw [e1.out]
                                      have := (HC.out.put ID.out.1 ID.out.2 27 (.int .i64 x) { s14.V with table := x } rfl).setBad ID.out.1 false
                                      simpa [hx'] using this

                              case rest =>
                                as_aux_lemma =>
                                obtain ⟨s15, hs15⟩ : ∃ s15, s15 = ref16 s14 := ⟨_, rfl⟩
                                rw [← hs15] at hcut
                                have H15 := Lib.hid hcut
                                have S15 := Lib.hid hs15
                                clear hs15 hcut H14 HA
                                have hP : rparseR (wordsS s) = s15 := by
                                  rw [rparseR, ← S0.out, ← S1.out, ← S2.out, ← S3.out, ← S4.out, ← S5.out, ← S6.out, ← S7.out, ← S8.out, ← S9.out, ← S10.out, ← S11.out, ← S12.out, ← S13.out, ← S14.out, ← S15.out]
                                have HPR : Hid (R = if s15.bad || !s15.l.isEmpty || !rIsB s15.V then (zRule, 2) else (s15.V, 0)) := Lib.hid (by rw [HR.out, rruleOf, hP])
                                have HSM : Hid (Small s15.V) := Lib.hid (by rw [← hP]; exact rparse_small _ (fun x hx => by have := words_size hx; show x.size < 4294967281; omega))
                                clear hP S0 S1 S2 S3 S4 S5 S6 S7 S8 S9 S10 S11 S12 S13 S14 S15 HR
                                obtain ⟨A15, c15, hg15, -⟩ := H15.out.ws.blk
                                have t0 : wc.cell? ⟨g, 0, none⟩ = some (.slice A15 s15.l.length c15) := (blk_cell hg15 0).trans rfl
                                obtain ⟨d1, d2⟩ := H15.out.bad1
                                have HG0 : Hid (Grows w wc) := Lib.hid (below_then HZ.out.2.2 HZ.out.2.2.size H15.out.ws.below)
                                have HZ1 : Hid (wc.heap[r]? = some (ruleBlk zRule)) := Lib.hid (blkG HZ.out.1 H15.out.ws.below)
                                clear hg15
                                cases hbad : s15.bad with
                                | true =>
                                  have HR2 : Hid (R = (zRule, 2)) := Lib.hid (by rw [HPR.out, hbad]; rfl)
                                  go_wp2_with (refine wpList_store_row rfl 32 (.tmp 2) (.tmp 168) rfl r zRule.cells rfl rfl 32 zRule.cells HZ1.out (by kernel_rfl) rfl (rule_one _) ?_)
                                  have hrow : (World.setRow wc r zRule.cells).heap[r]? = some (.cells zRule.cells 32 (0, 0)) := setRow_heap wc r zRule.cells zRule.cells 32 (0, 0) HZ1.out
                                  refine bodyPost_ret (v := .tuple #[.agg zRule.cells, .int .i64 2]) (by simp [results, Tryz.results12, asAddr, run_loadVar_row _ r 32 32 zRule.cells (0, 0) _ hrow Tryz.underlying32 rfl (by kernel_rfl)]) rfl ⟨by rw [HR2.out]; rfl, ?_⟩
                                  exact below_setRow HG0.out HZ.out.2.1 _

                                | false =>
                                  have HBAD := Lib.hid hbad
                                  cases hl : s15.l with
                                  | cons x l =>
                                    have HR2 : Hid (R = (zRule, 2)) := Lib.hid (by rw [HPR.out, HBAD.out, hl]; rfl)
                                    rw [hl] at t0
                                    simp only [List.length_cons] at t0
                                    go_wp2_with (refine wpList_store_row rfl 32 (.tmp 2) (.tmp 168) rfl r zRule.cells rfl rfl 32 zRule.cells HZ1.out (by kernel_rfl) rfl (rule_one _) ?_)
                                    have hrow : (World.setRow wc r zRule.cells).heap[r]? = some (.cells zRule.cells 32 (0, 0)) := setRow_heap wc r zRule.cells zRule.cells 32 (0, 0) HZ1.out
                                    refine bodyPost_ret (v := .tuple #[.agg zRule.cells, .int .i64 2]) (by simp [results, Tryz.results12, asAddr, run_loadVar_row _ r 32 32 zRule.cells (0, 0) _ hrow Tryz.underlying32 rfl (by kernel_rfl)]) rfl ⟨by rw [HR2.out]; rfl, ?_⟩
                                    exact below_setRow HG0.out HZ.out.2.1 _

                                  | nil =>
                                    have HR2 : Hid (R = if rIsB s15.V then (s15.V, 0) else (zRule, 2)) := Lib.hid (by rw [HPR.out, HBAD.out, hl]; cases rIsB s15.V <;> rfl)
                                    rw [hl] at t0
                                    simp only [List.length_nil] at t0
                                    go_wp2_with (refine Go.BigFrame.wpList_want (by go_simp) fun K hK => wp_load_row 32 (.tmp 5) rfl b rfl 32 s15.V.cells (0, 0) _ H15.out.rb Tryz.underlying32 rfl (by kernel_rfl) (hK _ _ ?_))
                                    refine (rIs_calls s15.V wc HSM.out).mono ?_
                                    rintro e w16 ⟨rfl, hb16⟩
                                    have HG1 : Hid (Grows w w16) := Lib.hid (below_then HG0.out HG0.out.size hb16)
                                    have HZ2 := Lib.hid (blkG HZ1.out hb16)
                                    have HB16 := Lib.hid (blkG H15.out.rb hb16)
                                    clear hb16 t0 d1 d2
                                    cases hI : rIsB s15.V with
                                    | false =>
                                      have HR3 : Hid (R = (zRule, 2)) := Lib.hid (by rw [HR2.out, hI]; rfl)
                                      go_wp2_with (refine wpList_store_row rfl 32 (.tmp 2) (.tmp 168) rfl r zRule.cells rfl rfl 32 zRule.cells HZ2.out (by kernel_rfl) rfl (rule_one _) ?_)
                                      have hrow : (World.setRow w16 r zRule.cells).heap[r]? = some (.cells zRule.cells 32 (0, 0)) := setRow_heap w16 r zRule.cells zRule.cells 32 (0, 0) HZ2.out
                                      refine bodyPost_ret (v := .tuple #[.agg zRule.cells, .int .i64 2]) (by simp [results, Tryz.results12, asAddr, run_loadVar_row _ r 32 32 zRule.cells (0, 0) _ hrow Tryz.underlying32 rfl (by kernel_rfl)]) rfl ⟨by rw [HR3.out]; rfl, ?_⟩
                                      exact below_setRow HG1.out HZ.out.2.1 _

                                    | true =>
                                      have HR3 : Hid (R = (s15.V, 0)) := Lib.hid (by rw [HR2.out, hI]; rfl)
                                      go_wp2_with (first | (refine wpList_load_row rfl 32 (.tmp 5) rfl b rfl 32 s15.V.cells (0, 0) _ HB16.out Tryz.underlying32 rfl (by kernel_rfl) ?_) | (refine wpList_store_row rfl 32 (.tmp 2) (.tmp 169) rfl r s15.V.cells rfl rfl 32 zRule.cells HZ2.out (by kernel_rfl) rfl (rule_one _) ?_))
                                      have hrow : (World.setRow w16 r s15.V.cells).heap[r]? = some (.cells s15.V.cells 32 (0, 0)) := setRow_heap w16 r zRule.cells s15.V.cells 32 (0, 0) HZ2.out
                                      refine bodyPost_ret (v := .tuple #[.agg s15.V.cells, .int .i64 0]) (by simp [results, Tryz.results12, asAddr, run_loadVar_row _ r 32 32 s15.V.cells (0, 0) _ hrow Tryz.underlying32 rfl (by kernel_rfl)]) rfl ⟨by rw [HR3.out]; rfl, ?_⟩
                                      exact below_setRow HG1.out HZ.out.2.1 _

end Go.Proofs.YtomkohdlaednhaaGreatDoor
