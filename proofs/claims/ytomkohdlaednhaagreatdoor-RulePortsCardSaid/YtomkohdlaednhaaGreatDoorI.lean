import Derived.Test.YtomkohdlaednhaaGreatDoorH
set_option linter.unusedSimpArgs false
set_option linter.unusedVariables false
namespace Go.Proofs.YtomkohdlaednhaaGreatDoor
open Go.RowKit Go.Proofs.YtomkohdlaednhaaGreatDoorW.PrintWords

structure RuleV where
  pass : Bool
  ret : Bool
  quick : Bool
  on : ByteArray
  proto : Int
  src : SideV
  dst : SideV
  set : Int
  mask : Int
  type : Int
  keep : Bool
  route : PinV
  reply : PinV
  table : Int
def RuleV.cells (r : RuleV) : Array Value := #[.bool r.pass, .bool r.ret, .bool r.quick, .string r.on, .int .i64 r.proto,
  .bool r.src.any, .string r.src.table, .int .u32 r.src.addr, .int .i64 r.src.len, .int .i64 r.src.low, .int .i64 r.src.high,
  .bool r.dst.any, .string r.dst.table, .int .u32 r.dst.addr, .int .i64 r.dst.len, .int .i64 r.dst.low, .int .i64 r.dst.high,
  .int .i64 r.set, .int .i64 r.mask, .int .i64 r.type, .bool r.keep,
  .bool r.route.on, .string r.route.iface, .int .u32 r.route.gate, .bool r.reply.on, .string r.reply.iface, .int .u32 r.reply.gate, .int .i64 r.table]
def RuleV.val (r : RuleV) : Value := .agg r.cells
def ruleBlk (r : RuleV) : Obj := .cells r.cells 32
def zRule : RuleV := ⟨false, false, false, ⟨#[]⟩, 0, zSide, zSide, 0, 0, 0, false, noPin, noPin, 0⟩

/-- All blocks that were there are as they were, but for some. -/
def Keeps (S : Nat → Prop) (w w' : World) : Prop := w.heap.size ≤ w'.heap.size ∧ ∀ i, i < w.heap.size → ¬ S i → w'.heap[i]? = w.heap[i]?
theorem Keeps.refl (S : Nat → Prop) (w : World) : Keeps S w w := ⟨Nat.le_refl _, fun _ _ _ => rfl⟩
theorem Keeps.of_but {S : Nat → Prop} {w w1 : World} {g : Nat} (h : KeepBut w w1 g none) (hg : S g) : Keeps S w w1 := ⟨h.1, fun i hi hs => h.2 i hi (fun e => hs (e ▸ hg)) (by simp)⟩
theorem Keeps.of_grows {S : Nat → Prop} {w w1 : World} (h : Grows w w1) : Keeps S w w1 := ⟨h.size, fun i hi _ => h.block i hi⟩
theorem Keeps.trans {S : Nat → Prop} {w w1 w2 : World} (h : Keeps S w w1) (k : Keeps S w1 w2) : Keeps S w w2 :=
  ⟨Nat.le_trans h.1 k.1, fun i hi hs => (k.2 i (Nat.lt_of_lt_of_le hi h.1) hs).trans (h.2 i hi hs)⟩
theorem Keeps.set {S : Nat → Prop} {w w1 : World} (h : Keeps S w w1) {b j : Nat} (v : Value) (hb : S b ∨ w.heap.size ≤ b) : Keeps S w (w1.setCell ⟨b, j, none⟩ v) :=
  ⟨by have := h.1; simpa [World.setCell] using this, fun i hi hs => by
    rw [← h.2 i hi hs]
    simp only [World.setCell]
    rw [Array.getElem?_modify]
    rw [if_neg]
    show ¬ b = i
    rintro rfl
    rcases hb with hb | hb
    · exact hs hb
    · omega⟩
theorem Keeps.blk {S : Nat → Prop} {w w1 : World} {b : Nat} {o : Obj} (h : Keeps S w w1) (hb : w.heap[b]? = some o) (hs : ¬ S b) : w1.heap[b]? = some o := (h.2 b (blk_lt hb) hs).trans hb

def flagsW : ByteArray := ⟨#[102, 108, 97, 103, 115]⟩
def typeW : ByteArray := ⟨#[116, 121, 112, 101]⟩
/-- What the flags' part tells: whether it is there, the flags, the mask; the words behind it, and whether one was none. -/
def lookF (l : List ByteArray) (bad : Bool) : Option (Int × Int) × List ByteArray × Bool :=
  if takesB l bad flagsW then
    (some (bitsV (cutS (nextS l.tail) slashS).1, bitsV (cutS (nextS l.tail) slashS).2.1), l.tail.tail,
      bad || l.tail.isEmpty || (bitsF (cutS (nextS l.tail) slashS).1).isNone || (bitsF (cutS (nextS l.tail) slashS).2.1).isNone || decide (bitsV (cutS (nextS l.tail) slashS).2.1 = 0))
  else (none, l, bad)
def lookT (l : List ByteArray) (bad : Bool) : Int × List ByteArray × Bool :=
  if takesB l bad typeW then (numV 9 (nextS l.tail), l.tail.tail, bad || l.tail.isEmpty || !numOk 9 (nextS l.tail)) else (-1, l, bad)
def lookV (r : RuleV) (l : List ByteArray) (bad : Bool) : RuleV :=
  { r with type := (lookT (lookF l bad).2.1 (lookF l bad).2.2).1, set := match (lookF l bad).1 with | some p => p.1 | none => r.set, mask := match (lookF l bad).1 with | some p => p.2 | none => r.mask }
theorem rule_type {w : World} {b : Nat} {V : RuleV} (h : w.heap[b]? = some (ruleBlk V)) (n : Int) : (w.setCell ⟨b, 19, none⟩ (.int .i64 n)).heap[b]? = some (ruleBlk { V with type := n }) := blk_set (cs := V.cells) h 19 (.int .i64 n)
theorem rule_set {w : World} {b : Nat} {V : RuleV} (h : w.heap[b]? = some (ruleBlk V)) (n : Int) : (w.setCell ⟨b, 17, none⟩ (.int .i64 n)).heap[b]? = some (ruleBlk { V with set := n }) := blk_set (cs := V.cells) h 17 (.int .i64 n)
theorem rule_mask {w : World} {b : Nat} {V : RuleV} (h : w.heap[b]? = some (ruleBlk V)) (n : Int) : (w.setCell ⟨b, 18, none⟩ (.int .i64 n)).heap[b]? = some (ruleBlk { V with mask := n }) := blk_set (cs := V.cells) h 18 (.int .i64 n)

set_option maxHeartbeats 2000000 in
theorem look_calls (w0 w : World) (g b : Nat) (l : List ByteArray) (bad : Bool) (V : RuleV) (h : WS 68 w0 w g l bad) (hr : w.heap[b]? = some (ruleBlk V)) (hne : g ≠ b) (hb : w0.heap.size ≤ b) :
    Calls Tryz.prog 38 #[.pointer (some ⟨g, 0, none⟩), .pointer (some ⟨b, 0, none⟩)] w fun e w' => e = .returned (.tuple #[]) ∧ WS 68 w0 w' g (lookT (lookF l bad).2.1 (lookF l bad).2.2).2.1 (lookT (lookF l bad).2.1 (lookF l bad).2.2).2.2 ∧
      w'.heap[b]? = some (ruleBlk (lookV V l bad)) ∧ Keeps (fun i => i = g ∨ i = b) w w' := by
  have t0 : w.cell? ⟨b, 19, none⟩ = some (.int .i64 V.type) := (blk_cell hr 19).trans rfl
  have f0 := blk_frozen hr 19
  have HB : Hid (g ≠ b ∧ w0.heap.size ≤ b) := Lib.hid ⟨hne, hb⟩
  have H0 := Lib.hid (h.far (b := b) (j := 19) (.int .i64 (-1)) hne hb)
  have HR0 := Lib.hid (rule_type hr (-1))
  have HK0 : Hid (Keeps (fun i => i = g ∨ i = b) w (w.setCell ⟨b, 19, none⟩ (.int .i64 (-1)))) := Lib.hid ((Keeps.refl _ w).set _ (.inl (.inr rfl)))
  clear h hr hb
  go_enter Tryz.func38, Tryz.ntmps38
  go_wp2_with fail
  refine (takes_calls w0 _ g l bad flagsW H0.out).mono ?_
  rintro e w1 ⟨rfl, hw1⟩
  have HR1 := Lib.hid (hw1.blk HR0.out hne.symm)
  have HK1 := Lib.hid (HK0.out.trans (Keeps.of_but hw1.2 (.inl rfl)))
  have H1 := Lib.hid hw1.1
  clear hw1 t0 f0
  generalize htk : takesB l bad flagsW = tk at *
  have HTK := Lib.hid htk
  clear htk
  go_upto_if 11 with fail
  go_cut [] (fun wc => WS 68 w0 wc g (lookF l bad).2.1 (lookF l bad).2.2 ∧ wc.heap[b]? = some (ruleBlk { V with type := -1, set := match (lookF l bad).1 with | some p => p.1 | none => V.set, mask := match (lookF l bad).1 with | some p => p.2 | none => V.mask }) ∧ Keeps (fun i => i = g ∨ i = b) w wc)
  case first =>
    cases tk with
    | false =>
      go_wp2_with fail
      go_meet
      have e1 : lookF l bad = (none, l, bad) := by rw [lookF, if_neg (by rw [HTK.out]; decide)]
      have e2 : takesL l bad flagsW = l := by rw [takesL, if_neg (by rw [HTK.out]; decide)]
      rw [e1]
      rw [e2] at H1
      exact ⟨H1.out, HR1.out, HK1.out⟩
    | true =>
      have e2 : takesL l bad flagsW = l.tail := by rw [takesL, if_pos HTK.out]
      rw [e2] at H1
      clear e2
      go_wp2_with fail
      refine (next_calls w0 _ g _ _ H1.out).mono ?_
      rintro e w2 ⟨rfl, hw2⟩
      have HR2 := Lib.hid (hw2.blk HR1.out hne.symm)
      have HK2 := Lib.hid (HK1.out.trans (Keeps.of_but hw2.2 (.inl rfl)))
      have H2 := Lib.hid hw2.1
      have hsz := H1.out.next_sz
      clear hw2
      go_wp2_with fail
      refine (cut_calls _ slashS _ H2.out.envNow hsz).mono ?_
      rintro e w3 ⟨rfl, hb3⟩
      have HR3 := Lib.hid (blkG HR2.out hb3)
      have HK3 := Lib.hid (HK2.out.trans (Keeps.of_grows hb3))
      have H3 := Lib.hid (H2.out.grow hb3)
      clear hb3 hsz
      generalize hc : cutS (nextS l.tail) slashS = c at *
      have HC := Lib.hid hc
      clear hc
      go_wp2_with fail
      refine (bits_calls w0 _ g _ _ c.1 H3.out).mono ?_
      rintro e w4 ⟨rfl, hw4⟩
      have HR4 := Lib.hid (hw4.blk HR3.out hne.symm)
      have HK4 := Lib.hid (HK3.out.trans (Keeps.of_but hw4.2 (.inl rfl)))
      have H4 := Lib.hid hw4.1
      clear hw4
      go_wp2_with fail
      refine (bits_calls w0 _ g _ _ c.2.1 H4.out).mono ?_
      rintro e w5 ⟨rfl, hw5⟩
      have hr5 := hw5.blk HR4.out hne.symm
      have HK5 := Lib.hid (HK4.out.trans (Keeps.of_but hw5.2 (.inl rfl)))
      have H5 := Lib.hid hw5.1
      clear hw5
      have t17 : w5.cell? ⟨b, 17, none⟩ = some (.int .i64 V.set) := (blk_cell hr5 17).trans rfl
      have t18 : w5.cell? ⟨b, 18, none⟩ = some (.int .i64 V.mask) := (blk_cell hr5 18).trans rfl
      have f17 := blk_frozen hr5 17
      have f18 := blk_frozen hr5 18
      obtain ⟨d1, d2⟩ := H5.out.post.cell1
      have HR5 := Lib.hid hr5
      have hne2 := hne.symm
      clear hr5
      have e1 : Hid (lookF l bad = (some (bitsV c.1, bitsV c.2.1), l.tail.tail, bad || l.tail.isEmpty || (bitsF c.1).isNone || (bitsF c.2.1).isNone || decide (bitsV c.2.1 = 0))) := Lib.hid (by rw [lookF, if_pos HTK.out, HC.out])
      generalize (bad || l.tail.isEmpty || (bitsF c.1).isNone || (bitsF c.2.1).isNone) = B at *
      cases B with
      | true =>
        go_wp2_with fail
        go_meet
        rw [e1.out]
        refine ⟨?_, blk_far (p := ⟨g, 1, none⟩) (rule_mask (rule_set HR5.out _) _) hne.symm _, ((HK5.out.set _ (.inl (.inr rfl))).set _ (.inl (.inr rfl))).set _ (.inl (.inl rfl))⟩
        have e2 : WS 68 w0 _ g l.tail.tail true := ((H5.out.far (j := 17) (.int .i64 (bitsV c.1)) hne HB.out.2).far (j := 18) (.int .i64 (bitsV c.2.1)) hne HB.out.2).setBad true
        simpa using e2
      | false =>
        cases hz : (bitsV c.2.1 == 0) with
        | true =>
          go_wp2_with fail
          go_meet
          rw [e1.out]
          refine ⟨?_, blk_far (p := ⟨g, 1, none⟩) (rule_mask (rule_set HR5.out _) _) hne.symm _, ((HK5.out.set _ (.inl (.inr rfl))).set _ (.inl (.inr rfl))).set _ (.inl (.inl rfl))⟩
          have e2 : WS 68 w0 _ g l.tail.tail true := ((H5.out.far (j := 17) (.int .i64 (bitsV c.1)) hne HB.out.2).far (j := 18) (.int .i64 (bitsV c.2.1)) hne HB.out.2).setBad true
          simpa [show bitsV c.2.1 = 0 from by simpa using hz] using e2
        | false =>
          go_wp2_with fail
          go_meet
          rw [e1.out]
          refine ⟨?_, blk_far (p := ⟨g, 1, none⟩) (rule_mask (rule_set HR5.out _) _) hne.symm _, ((HK5.out.set _ (.inl (.inr rfl))).set _ (.inl (.inr rfl))).set _ (.inl (.inl rfl))⟩
          have e2 : WS 68 w0 _ g l.tail.tail false := ((H5.out.far (j := 17) (.int .i64 (bitsV c.1)) hne HB.out.2).far (j := 18) (.int .i64 (bitsV c.2.1)) hne HB.out.2).setBad false
          simpa [show ¬ bitsV c.2.1 = 0 from by simpa using hz] using e2
  case rest =>
    obtain ⟨h6, hr6, hk6⟩ := hcut
    have HE : Hid (lookV V l bad = { ({ V with type := -1, set := match (lookF l bad).1 with | some p => p.1 | none => V.set, mask := match (lookF l bad).1 with | some p => p.2 | none => V.mask } : RuleV) with type := (lookT (lookF l bad).2.1 (lookF l bad).2.2).1 }) := Lib.hid rfl
    have hv : (({ V with type := -1, set := match (lookF l bad).1 with | some p => p.1 | none => V.set, mask := match (lookF l bad).1 with | some p => p.2 | none => V.mask } : RuleV)).type = -1 := rfl
    generalize ({ V with type := -1, set := match (lookF l bad).1 with | some p => p.1 | none => V.set, mask := match (lookF l bad).1 with | some p => p.2 | none => V.mask } : RuleV) = U at *
    obtain ⟨m, hm⟩ : ∃ m, m = (lookF l bad).2.1 := ⟨_, rfl⟩
    obtain ⟨b2, hb2⟩ : ∃ b2, b2 = (lookF l bad).2.2 := ⟨_, rfl⟩
    rw [← hm, ← hb2] at h6
    rw [← hm, ← hb2] at HE
    have HM := Lib.hid hm
    have HB2 := Lib.hid hb2
    clear hm hb2
    have H6 := Lib.hid h6
    have HR6 := Lib.hid hr6
    have HK6 := Lib.hid hk6
    have HV := Lib.hid hv
    clear h6 hr6 hk6 hv H1 HR1 HK1 HTK
    go_wp2_with fail
    refine (takes_calls w0 _ g m b2 typeW H6.out).mono ?_
    rintro e w7 ⟨rfl, hw7⟩
    have HR7 := Lib.hid (hw7.blk HR6.out hne.symm)
    have HK7 := Lib.hid (HK6.out.trans (Keeps.of_but hw7.2 (.inl rfl)))
    have H7 := Lib.hid hw7.1
    clear hw7
    cases htk2 : takesB m b2 typeW with
    | false =>
      have e1 : Hid (lookT m b2 = (-1, m, b2)) := Lib.hid (by rw [lookT, if_neg (by rw [htk2]; decide)])
      have e2 : takesL m b2 typeW = m := by rw [takesL, if_neg (by rw [htk2]; decide)]
      rw [e2] at H7
      clear e2
      go_wp2_with fail
      go_end0
      refine ⟨rfl, ?_, ?_, HK7.out⟩
      · rw [← HM.out, ← HB2.out, e1.out]; exact H7.out
      · rw [HE.out, e1.out]
        have : ({ U with type := -1 } : RuleV) = U := by
          have := HV.out
          cases U
          simp only at this
          rw [this]
        exact HR7.out.trans (by rw [this])
    | true =>
      have e1 : Hid (lookT m b2 = (numV 9 (nextS m.tail), m.tail.tail, b2 || m.tail.isEmpty || !numOk 9 (nextS m.tail))) := Lib.hid (by rw [lookT, if_pos htk2])
      have e2 : takesL m b2 typeW = m.tail := by rw [takesL, if_pos htk2]
      rw [e2] at H7
      clear e2
      go_wp2_with fail
      refine (next_calls w0 _ g _ _ H7.out).mono ?_
      rintro e w8 ⟨rfl, hw8⟩
      have HR8 := Lib.hid (hw8.blk HR7.out hne.symm)
      have HK8 := Lib.hid (HK7.out.trans (Keeps.of_but hw8.2 (.inl rfl)))
      have H8 := Lib.hid hw8.1
      clear hw8
      go_wp2_with fail
      refine (number_calls w0 _ g _ _ _ H8.out).mono ?_
      rintro e w9 ⟨rfl, hw9⟩
      have hr9 := hw9.blk HR8.out hne.symm
      have HK9 := Lib.hid (HK8.out.trans (Keeps.of_but hw9.2 (.inl rfl)))
      have H9 := Lib.hid hw9.1
      have t19 : w9.cell? ⟨b, 19, none⟩ = some (.int .i64 U.type) := (blk_cell hr9 19).trans rfl
      have f19 := blk_frozen hr9 19
      have HR9 := Lib.hid hr9
      clear hw9 hr9
      go_wp2_with fail
      go_end0
      refine ⟨rfl, ?_, ?_, HK9.out.set _ (.inl (.inr rfl))⟩
      · rw [← HM.out, ← HB2.out, e1.out]; exact H9.out.far _ hne HB.out.2
      · rw [HE.out, e1.out]; exact rule_type HR9.out _
end Go.Proofs.YtomkohdlaednhaaGreatDoor
