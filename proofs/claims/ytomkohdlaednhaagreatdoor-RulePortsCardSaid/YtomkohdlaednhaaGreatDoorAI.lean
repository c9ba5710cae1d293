import Derived.Test.YtomkohdlaednhaaGreatDoorAH
import Derived.BigFrame
import Derived.Laws.Tables
import Derived.Laws.CopyOwn
set_option linter.unusedSimpArgs false
set_option linter.unusedVariables false
namespace Go.Proofs.YtomkohdlaednhaaGreatDoor
open Go.RowKit Go.Proofs.YtomkohdlaednhaaGreatDoorW.PrintWords PConfParses

/-- The words that Print makes, one after another. -/
def p0 (r : RuleV) : List ByteArray := [if r.pass then passW else blockW]
def p1 (r : RuleV) : List ByteArray := p0 r ++ opt r.ret [returnW]
def p2 (r : RuleV) : List ByteArray := p1 r ++ opt r.quick [quickW]
def p3 (r : RuleV) : List ByteArray := p2 r ++ opt (!emptyB r.on) [onW, r.on]
def p4 (r : RuleV) : List ByteArray := p3 r ++ opt (!(r.proto == 0)) [protoW, protoS r.proto]
def p5 (r : RuleV) : List ByteArray := p4 r ++ opt true [fromW, sideP r.src, toW, sideP r.dst]
def p6 (r : RuleV) : List ByteArray := p5 r ++ opt (!(r.mask == 0)) [flagsW, flagsP r]
def p7 (r : RuleV) : List ByteArray := p6 r ++ opt (!(r.type == -1)) [typeW, itoaS r.type]
def p8 (r : RuleV) : List ByteArray := p7 r ++ opt r.keep [keepW]
def p9 (r : RuleV) : List ByteArray := p8 r ++ opt r.route.on [routeW, r.route.iface, addrP r.route.gate]
def p10 (r : RuleV) : List ByteArray := p9 r ++ opt r.reply.on [replyW, r.reply.iface, addrP r.reply.gate]
def p11 (r : RuleV) : List ByteArray := p10 r ++ opt (!(r.table == 0)) [tableW, itoaS r.table]
/-- What a rule that may be gives. -/
structure IsR (r : RuleV) : Prop where
  proto : 0 ≤ r.proto ∧ r.proto ≤ 255
  set : 0 ≤ r.set ∧ r.set ≤ 63
  mask : 0 ≤ r.mask ∧ r.mask ≤ 63
  type : -1 ≤ r.type ∧ r.type ≤ 255
  table : 0 ≤ r.table ∧ r.table < 4
  src : SideOk r.src
  dst : SideOk r.dst
  on : r.on.size ≤ 8
  route : r.route.iface.size ≤ 8
  reply : r.reply.iface.size ≤ 8
theorem nameB_size {s : ByteArray} (h : nameB s = true) : s.size ≤ 8 := by
  simp only [nameB, Bool.and_eq_true, decide_eq_true_eq] at h
  omega
theorem side_ok {s : SideV} {p : Int} (h : sideB s p = true) (ha : 0 ≤ s.addr ∧ s.addr < 4294967296) : SideOk s := by
  rw [sideB_ad, Bool.and_eq_true] at h
  have h2 := h.2
  simp only [portsB, Bool.and_eq_true, decide_eq_true_eq] at h2
  refine ⟨?_, ha, by omega, by omega⟩
  have h1 := h.1
  unfold adB at h1
  have hE : emptyB s.table = true → Sm s.table := fun e => by rw [(emptyB_iff _).1 e]; exact Sm.nil
  split at h1
  · rw [Bool.and_eq_true] at h1; exact hE h1.1
  · split at h1
    · rename_i e; exact hE e
    · rw [Bool.and_eq_true] at h1
      have := nameB_size h1.1
      show s.table.size < 4294967281
      omega
theorem pin_size {p : PinV} (h : pinB p = true) : p.iface.size ≤ 8 := by
  simp only [pinB, Bool.or_eq_true, Bool.and_eq_true, decide_eq_true_eq] at h
  rcases h with h | h
  · exact nameB_size h.2
  · rw [h.1.2]; decide
theorem isB_R {r : RuleV} (h : isB r = true) (hk : Kinds r) (hs : -9223372036854775808 ≤ r.set) (hs1 : r.set ≤ 9223372036854775807) : IsR r := by
  simp only [isB, lookB, typeB, flagB, Bool.and_eq_true, decide_eq_true_eq] at h
  obtain ⟨⟨⟨⟨⟨⟨⟨⟨⟨hpr, hps⟩, hon⟩, ⟨⟨⟨p0, p1⟩, ⟨⟨⟨m0, m1⟩, mb⟩, mp⟩⟩, ⟨⟨y0, y1⟩, yp⟩⟩⟩, hsrc⟩, hdst⟩, hro⟩, hre⟩, b0⟩, b1⟩ := h
  obtain ⟨s0, s1⟩ := andNot_flags _ _ m0 m1 hs hs1 mb
  have s2 : r.set ≤ 63 := andNot_le _ _ m0 m1 hs hs1 mb
  refine ⟨⟨p0, p1⟩, ⟨s0, s2⟩, ⟨m0, m1⟩, ⟨y0, y1⟩, ⟨b0, b1⟩, side_ok hsrc hk.src, side_ok hdst hk.dst, ?_, pin_size hro, pin_size hre⟩
  rw [Bool.or_eq_true] at hon
  rcases hon with e | e
  · rw [(emptyB_iff _).1 e]; decide
  · exact nameB_size e
theorem len_opt (b : Bool) (l : List ByteArray) : (opt b l).length ≤ l.length := by
  unfold opt; split
  · exact Nat.le_refl _
  · simp
theorem pl0 (r : RuleV) : (p0 r).length ≤ 1 := by simp [p0]
theorem pl1 (r : RuleV) : (p1 r).length ≤ 2 := by have := pl0 r; have := len_opt r.ret [returnW]; simp only [p1, List.length_append, List.length_cons, List.length_nil] at *; omega
theorem pl2 (r : RuleV) : (p2 r).length ≤ 3 := by have := pl1 r; have := len_opt r.quick [quickW]; simp only [p2, List.length_append, List.length_cons, List.length_nil] at *; omega
theorem pl3 (r : RuleV) : (p3 r).length ≤ 5 := by have := pl2 r; have := len_opt (!emptyB r.on) [onW, r.on]; simp only [p3, List.length_append, List.length_cons, List.length_nil] at *; omega
theorem pl4 (r : RuleV) : (p4 r).length ≤ 7 := by have := pl3 r; have := len_opt (!(r.proto == 0)) [protoW, protoS r.proto]; simp only [p4, List.length_append, List.length_cons, List.length_nil] at *; omega
theorem pl5 (r : RuleV) : (p5 r).length ≤ 11 := by have := pl4 r; have := len_opt true [fromW, sideP r.src, toW, sideP r.dst]; simp only [p5, List.length_append, List.length_cons, List.length_nil] at *; omega
theorem pl6 (r : RuleV) : (p6 r).length ≤ 13 := by have := pl5 r; have := len_opt (!(r.mask == 0)) [flagsW, flagsP r]; simp only [p6, List.length_append, List.length_cons, List.length_nil] at *; omega
theorem pl7 (r : RuleV) : (p7 r).length ≤ 15 := by have := pl6 r; have := len_opt (!(r.type == -1)) [typeW, itoaS r.type]; simp only [p7, List.length_append, List.length_cons, List.length_nil] at *; omega
theorem pl8 (r : RuleV) : (p8 r).length ≤ 16 := by have := pl7 r; have := len_opt r.keep [keepW]; simp only [p8, List.length_append, List.length_cons, List.length_nil] at *; omega
theorem pl9 (r : RuleV) : (p9 r).length ≤ 19 := by have := pl8 r; have := len_opt r.route.on [routeW, r.route.iface, addrP r.route.gate]; simp only [p9, List.length_append, List.length_cons, List.length_nil] at *; omega
theorem pl10 (r : RuleV) : (p10 r).length ≤ 22 := by have := pl9 r; have := len_opt r.reply.on [replyW, r.reply.iface, addrP r.reply.gate]; simp only [p10, List.length_append, List.length_cons, List.length_nil] at *; omega
theorem pl11 (r : RuleV) : (p11 r).length ≤ 24 := by have := pl10 r; have := len_opt (!(r.table == 0)) [tableW, itoaS r.table]; simp only [p11, List.length_append, List.length_cons, List.length_nil] at *; omega
theorem own_one {w : World} {g base : Nat} {x : ByteArray} (h : w.heap[g]? = some (.cells #[.string x] 9 (0, 0))) (hb : base ≤ g) : OwnS w base (.slice (some ⟨g, 0, none⟩) 1 1) [x] :=
  ⟨rfl, .inr ⟨g, 1, #[.string x], rfl, hb, h, Nat.le_refl _, by decide, rfl, rfl⟩⟩
theorem psideC (s : SideV) (w : World) (he : Env w) (ho : SideOk s) :
    Calls Tryz.prog 54 #[.agg #[.bool s.any, .string s.table, .int .u32 s.addr, .int .i64 s.len, .int .i64 s.low, .int .i64 s.high]] w fun e w' => e = .returned (.string (sideP s)) ∧ Grows w w' := pside_calls s w he ho
theorem flagsI_calls (z : Int) (w : World) (h0 : 0 ≤ z) (h1 : z ≤ 63) :
    Calls Tryz.prog 55 #[.int .i64 z] w fun e w' => e = .returned (.string (flagsS z)) ∧ Grows w w' := by
  obtain ⟨u, rfl⟩ := Int.eq_ofNat_of_zero_le h0
  exact flags_calls u (by omega) w
theorem flagsS_len : ∀ n : Fin 64, (flagsS (n.val : Int)).size ≤ 6 := by decide +kernel
theorem flagsI_len (z : Int) (h0 : 0 ≤ z) (h1 : z ≤ 63) : (flagsS z).size ≤ 6 := by
  obtain ⟨u, rfl⟩ := Int.eq_ofNat_of_zero_le h0
  exact flagsS_len ⟨u, by omega⟩
theorem flagsP_eq (r : RuleV) : flagsP r = flagsS r.set ++ ⟨#[47]⟩ ++ flagsS r.mask := by
  rw [flagsP, ← app3, mkB_eta, mkB_eta]
/-! ### words as a text -/
def tailL (L : List ByteArray) : List UInt8 := (L.map (fun x => 32 :: x.data.toList)).flatten
theorem tailL_app (A B : List ByteArray) : tailL (A ++ B) = tailL A ++ tailL B := by simp [tailL]
theorem tailL_cons (x : ByteArray) (B : List ByteArray) : tailL (x :: B) = 32 :: (x.data.toList ++ tailL B) := by simp [tailL]
theorem join_tail : ∀ (x : ByteArray) (L : List ByteArray), Lib.join (datas (x :: L)) [32] = x.data.toList ++ tailL L
  | x, [] => by rw [datas, List.map_singleton, join_one]; simp [tailL]
  | x, y :: L => by
    have := join_tail y L
    rw [datas, List.map_cons] at this
    rw [datas, List.map_cons, List.map_cons, join_two, this, tailL_cons]
theorem tail_side (s : SideV) (L : List ByteArray) : tailL (sideP s :: L) = tailL (sideT s ++ L) := by
  rw [tailL_cons, sideP, textOf, sideT, join_tail, mkB_data, List.cons_append, tailL_cons, tailL_app]
  simp
theorem join_p11 (r : RuleV) : Lib.join (datas (p11 r)) [32] = Lib.join (datas (toks r)) [32] := by
  have e1 : p11 r = (if r.pass then passW else blockW) :: (opt r.ret [returnW] ++ (opt r.quick [quickW] ++ (opt (!emptyB r.on) [onW, r.on] ++ (opt (!(r.proto == 0)) [protoW, protoS r.proto] ++ (fromW :: sideP r.src :: toW :: sideP r.dst :: t11 r))))) := by
    simp only [p11, p10, p9, p8, p7, p6, p5, p4, p3, p2, p1, p0, t11, t12, t13, t14, t15, t16, List.append_assoc, List.cons_append, List.nil_append]
    rfl
  have e2 : toks r = (if r.pass then passW else blockW) :: (opt r.ret [returnW] ++ (opt r.quick [quickW] ++ (opt (!emptyB r.on) [onW, r.on] ++ (opt (!(r.proto == 0)) [protoW, protoS r.proto] ++ (fromW :: (sideT r.src ++ (toW :: (sideT r.dst ++ t11 r)))))))) := by
    simp only [toks, t3, t4, t5, t6, t7, t8, t9, t10]
  rw [e1, e2, join_tail, join_tail]
  simp only [tailL_app]
  rw [tailL_cons fromW, tail_side, tailL_app, tailL_cons toW, tail_side, tailL_cons fromW, tailL_app (sideT r.src), tailL_cons toW]
theorem join_len : ∀ (L : List (List UInt8)) (M : Nat), (∀ x ∈ L, x.length ≤ M) → (Lib.join L [32]).length ≤ L.length * (M + 1)
  | [], M, _ => by simp [Lib.join, List.intercalate]
  | [x], M, h => by
    have := h x (by simp)
    rw [join_one]; simp; omega
  | x :: y :: L, M, h => by
    have h1 := h x (by simp)
    have h2 := join_len (y :: L) M (fun z hz => h z (List.mem_cons_of_mem _ hz))
    rw [join_two, List.length_append, List.length_cons]
    simp only [List.length_cons] at h2 ⊢
    have e : (L.length + 1 + 1) * (M + 1) = (L.length + 1) * (M + 1) + (M + 1) := by rw [Nat.add_mul (L.length + 1) 1, Nat.one_mul]
    rw [e]
    omega
theorem mem_opt {x : ByteArray} {b : Bool} {l : List ByteArray} (h : x ∈ opt b l) : x ∈ l := by
  unfold opt at h; split at h
  · exact h
  · simp at h
theorem sideP_len (s : SideV) (h : SideOk s) : (sideP s).size ≤ 4294967400 := by
  have h1 := headP_len s h.tab
  cases ha : allPorts s with
  | true => rw [sideP_all s ha]; omega
  | false =>
    have l1 := itoaS_len s.low h.low.1 h.low.2
    have l2 := itoaS_len s.high h.high.1 h.high.2
    rw [itoaS, mkB_size] at l1 l2
    rw [Lib.size_eq] at h1
    rw [sideP_some s ha, mkB_size, rangeL]
    simp only [List.length_append, List.length_cons, List.length_nil]
    split
    · simp only [List.length_cons]; omega
    · simp only [List.length_nil]; omega
theorem protoS_len : ∀ n : Fin 256, (protoS (n.val : Int)).size ≤ 4 := by decide +kernel
theorem p11_small (r : RuleV) (h : IsR r) : ∀ x ∈ p11 r, x.size ≤ 4294967400 := by
  intro x hx
  have lits : ∀ y ∈ [passW, blockW, returnW, quickW, onW, protoW, fromW, toW, flagsW, typeW, keepW, routeW, replyW, tableW], y.size ≤ 4294967400 := by
    simp only [List.forall_mem_cons]
    refine ⟨by decide, by decide, by decide, by decide, by decide, by decide, by decide, by decide, by decide, by decide, by decide, by decide, by decide, by decide, by simp⟩
  simp only [p11, p10, p9, p8, p7, p6, p5, p4, p3, p2, p1, p0, List.mem_append] at hx
  have hL : ∀ {b l}, x ∈ opt b l → x ∈ l := mem_opt
  have hproto : (protoS r.proto).size ≤ 4294967400 := by
    obtain ⟨u, hu⟩ := Int.eq_ofNat_of_zero_le h.proto.1
    have := protoS_len ⟨u, by have := h.proto.2; omega⟩
    rw [hu]
    simp only at this
    omega
  have hflags : (flagsP r).size ≤ 4294967400 := by
    have a := flagsI_len r.set h.set.1 h.set.2
    have b := flagsI_len r.mask h.mask.1 h.mask.2
    rw [Lib.size_eq] at a b
    rw [flagsP, mkB_size]
    simp only [List.length_append, List.length_cons]; omega
  have haddr : ∀ a, (addrP a).size ≤ 4294967400 := fun a => by have := addr_len a; rw [addrP, mkB_size]; omega
  have hit : ∀ z : Int, -1 ≤ z → z ≤ 255 → (itoaS z).size ≤ 4294967400 := fun z h0 h1 => by have := itoaS_len z (by omega) (by omega); omega
  rcases hx with ((((((((((hx | hx) | hx) | hx) | hx) | hx) | hx) | hx) | hx) | hx) | hx) | hx
  · simp only [List.mem_singleton] at hx
    subst hx
    split
    · exact lits _ (by simp)
    · exact lits _ (by simp)
  all_goals
    replace hx := hL hx
    simp only [List.mem_cons, List.not_mem_nil, or_false] at hx
  · subst hx; exact lits _ (by simp)
  · subst hx; exact lits _ (by simp)
  · rcases hx with rfl | rfl
    · exact lits _ (by simp)
    · have := h.on; omega
  · rcases hx with rfl | rfl
    · exact lits _ (by simp)
    · exact hproto
  · rcases hx with rfl | rfl | rfl | rfl
    · exact lits _ (by simp)
    · exact sideP_len _ h.src
    · exact lits _ (by simp)
    · exact sideP_len _ h.dst
  · rcases hx with rfl | rfl
    · exact lits _ (by simp)
    · exact hflags
  · rcases hx with rfl | rfl
    · exact lits _ (by simp)
    · exact hit _ h.type.1 h.type.2
  · subst hx; exact lits _ (by simp)
  · rcases hx with rfl | rfl | rfl
    · exact lits _ (by simp)
    · have := h.route; omega
    · exact haddr _
  · rcases hx with rfl | rfl | rfl
    · exact lits _ (by simp)
    · have := h.reply; omega
    · exact haddr _
  · rcases hx with rfl | rfl
    · exact lits _ (by simp)
    · exact hit _ (by have := h.table.1; omega) (by have := h.table.2; omega)
theorem join_small (r : RuleV) (h : IsR r) : (Lib.join (datas (p11 r)) [32]).length ≤ 140737488355328 := by
  have h1 := join_len (datas (p11 r)) 4294967400 (fun x hx => by
    obtain ⟨y, hy, rfl⟩ := List.mem_map.1 hx
    have := p11_small r h y hy
    rw [Lib.size_eq] at this
    exact this)
  have h2 := pl11 r
  have h3 : (datas (p11 r)).length = (p11 r).length := by simp [datas]
  rw [h3] at h1
  have : (p11 r).length * (4294967400 + 1) ≤ 24 * (4294967400 + 1) := Nat.mul_le_mul_right _ h2
  omega
def printR (r : RuleV) : ByteArray := if isB r then textOf (toks r) else ⟨#[]⟩
set_option maxRecDepth 100000 in
set_option maxHeartbeats 16000000 in
theorem print_calls (r : RuleV) (w : World) (he : Env w) (hk : Kinds r) (hs : -9223372036854775808 ≤ r.set ∧ r.set ≤ 9223372036854775807) :
    Calls Tryz.prog 19 #[r.val] w fun e w' => e = .returned (.string (printR r)) ∧ Grows w w' := by
  have HE := Lib.hid he
  have HK := Lib.hid hk
  have HS := Lib.hid hs
  clear he hk hs
  obtain ⟨R, hR⟩ : ∃ R, R = printR r := ⟨_, rfl⟩
  rw [← hR]
  have HR := Lib.hid hR
  clear hR
  have he : r.val = .agg r.cells := rfl
  rw [he, RuleV.cells]
  clear he
  obtain ⟨n, hn⟩ : ∃ n, n = w.heap.size := ⟨_, rfl⟩
  have HN := Lib.hid hn
  clear hn
  go_enter Tryz.func19, Tryz.ntmps19
  go_upto_region 0 with fail
  go_cut [2, 1, 0] (fun s2 s1 _ wc => s2 = .string ⟨#[]⟩ ∧ s1 = .pointer (some ⟨n, 0, none⟩) ∧ wc.heap[n]? = some (ruleBlk r) ∧ Grows w wc)
  case first =>
    go_wp2_with fail
    go_meet
    exact ⟨rfl, by rw [HN.out], by rw [HN.out]; exact heap_alloc_new w (ruleBlk r), below_alloc (Below.refl _ _) _⟩
  case rest =>
  obtain ⟨rfl, rfl, hg, hw⟩ := hcut
  have HG0 := Lib.hid hg
  have HW0 := Lib.hid hw
  clear hg hw
  go_wp2_with (refine Go.BigFrame.wpList_want (by go_simp) fun K hK => wp_load_row 32 (.tmp 1) rfl n rfl 32 r.cells (0, 0) _ HG0.out Tryz.underlying32 rfl (by kernel_rfl) (hK _ _ ?_))
  refine (is_calls' r wc).mono ?_
  rintro e w2 ⟨rfl, hb2⟩
  have HG2 := Lib.hid (blkG HG0.out hb2)
  have HW2 : Hid (Grows w w2) := Lib.hid (below_then HW0.out HW0.out.size hb2)
  clear hb2
  cases hI : isB r with
  | false =>
    have HI := Lib.hid hI
    go_wp2_with fail
    go_ret
    exact ⟨ret_str (by rw [HR.out, printR, HI.out]; rfl), HW2.out⟩
  | true =>
  have HI := Lib.hid hI
  have HI2 := Lib.hid (isB_R hI HK.out HS.out.1 HS.out.2)
  clear hI
  go_upto_region 4 with fail
  obtain ⟨w3, hw3⟩ : ∃ w3, w3 = (w2.alloc (.cells #[.string ⟨#[98, 108, 111, 99, 107]⟩] 9)).alloc (.cells #[.slice (some ⟨w2.heap.size, 0, none⟩) 1 1] 43) := ⟨_, rfl⟩
  rw [← hw3]
  obtain ⟨q, hq⟩ : ∃ q, q = w2.heap.size + 1 := ⟨_, rfl⟩
  rw [← hq]
  obtain ⟨g, hg⟩ : ∃ g, g = w2.heap.size := ⟨_, rfl⟩
  rw [← hg]
  have hgb : w3.heap[g]? = some (.cells #[.string blockW] 9 (0, 0)) := by rw [hw3, hg]; exact blkG (heap_alloc_new w2 _) (below_alloc (Below.refl _ _) _)
  have hqb : w3.heap[q]? = some (.cells #[.slice (some ⟨g, 0, none⟩) 1 1] 43 (0, 0)) := by rw [hw3, hq, hg]; simpa using heap_alloc_new (w2.alloc (.cells #[.string ⟨#[98, 108, 111, 99, 107]⟩] 9)) (.cells #[.slice (some ⟨w2.heap.size, 0, none⟩) 1 1] 43)
  have hgw : Grows w2 w3 := by rw [hw3]; exact below_alloc (below_alloc (Below.refl _ _) _) _
  have hnb : w3.heap[n]? = some (ruleBlk r) := blkG HG2.out hgw
  have HNN : Hid (n < g ∧ g < q ∧ w.heap.size ≤ n) := Lib.hid (by have := blk_lt HG2.out; have := HN.out; omega)
  have HGB := Lib.hid hgb
  have HQB := Lib.hid hqb
  have HNB := Lib.hid hnb
  have HGW : Hid (Grows w w3) := Lib.hid (below_then HW2.out HW2.out.size hgw)
  clear hw3 hq hg hgb hqb hgw hnb
  have c0 : w3.cell? ⟨n, 0, none⟩ = some (.bool r.pass) := (blk_cell HNB.out 0).trans rfl
  have d0 : w3.cell? ⟨q, 0, none⟩ = some (.slice (some ⟨g, 0, none⟩) 1 1) := (blk_cell HQB.out 0).trans rfl
  have d1 : w3.cell? ⟨g, 0, none⟩ = some (.string blockW) := (blk_cell HGB.out 0).trans rfl
  have d2 := blk_frozen HGB.out 0
  have hp0 : Hid (p0 r = [if r.pass then passW else blockW]) := Lib.hid rfl
  go_upto_if 10 with fail
  go_cut [] (fun wc => PrSt w wc n q r (p0 r))
  case first =>
    cases hp : r.pass with
    | true =>
      have HP := Lib.hid hp
      go_wp2_with fail
      go_meet
      rw [hp0.out, HP.out]
      have hg3 : (w3.setCell ⟨g, 0, none⟩ (.string passW)).heap[g]? = some (.cells #[.string passW] 9 (0, 0)) := by simpa using blk_set HGB.out 0 (.string passW)
      exact ⟨blk_far (p := ⟨g, 0, none⟩) HNB.out (by have := HNN.out; show n ≠ g; omega) _, ⟨_, blk_far (p := ⟨g, 0, none⟩) HQB.out (by have := HNN.out; show q ≠ g; omega) _, own_one hg3 HNN.out.1⟩, by have := HNN.out; omega, HNN.out.2.2, below_set HGW.out (by have := HNN.out; omega)⟩
    | false =>
      have HP := Lib.hid hp
      go_wp2_with fail
      go_meet
      rw [hp0.out, HP.out]
      exact ⟨HNB.out, ⟨_, HQB.out, own_one HGB.out HNN.out.1⟩, by have := HNN.out; omega, HNN.out.2.2, HGW.out⟩
  case rest =>
  have H0 := Lib.hid hcut
  clear hcut HGB HQB HNB HGW hp0 c0 d0 d1 d2
  -- region 7
  go_upto_region 7 with fail
  go_cut [] (fun wc => PrSt w wc n q r (p1 r))
  case first =>
    as_aux_lemma =>
    have c1 : wc.cell? ⟨n, 1, none⟩ = some (.bool r.ret) := (blk_cell H0.out.rb 1).trans rfl
    go_wp2_with fail
    refine (add_calls w _ n q _ r (p0 r) [returnW] r.ret (H0.out.grow (below_alloc (Below.refl _ _) _)) (heap_alloc_new wc _) (by have := pl0 r; simp only [List.length_cons, List.length_nil]; omega)).mono ?_
    rintro e w5 ⟨rfl, h5⟩
    have H5 := Lib.hid h5
    clear h5
    go_wp2_with fail
    go_meet
    exact H5.out
  case rest =>
  as_aux_lemma =>
  have H1 := Lib.hid hcut
  clear hcut H0
  -- region 8
  go_upto_region 8 with fail
  go_cut [] (fun wc => PrSt w wc n q r (p2 r))
  case first =>
    as_aux_lemma =>
    have c2 : wc.cell? ⟨n, 2, none⟩ = some (.bool r.quick) := (blk_cell H1.out.rb 2).trans rfl
    go_wp2_with fail
    refine (add_calls w _ n q _ r (p1 r) [quickW] r.quick (H1.out.grow (below_alloc (Below.refl _ _) _)) (heap_alloc_new wc _) (by have := pl1 r; simp only [List.length_cons, List.length_nil]; omega)).mono ?_
    rintro e w5 ⟨rfl, h5⟩
    have H5 := Lib.hid h5
    clear h5
    go_wp2_with fail
    go_meet
    exact H5.out
  case rest =>
  as_aux_lemma =>
  have H2 := Lib.hid hcut
  clear hcut H1
  -- region 9
  go_upto_region 9 with fail
  go_cut [] (fun wc => PrSt w wc n q r (p3 r))
  case first =>
    as_aux_lemma =>
    have hw3 : Hid (p3 r = p2 r ++ opt (!emptyB r.on) [onW, r.on]) := Lib.hid rfl
    have c3 : wc.cell? ⟨n, 3, none⟩ = some (.string r.on) := (blk_cell H2.out.rb 3).trans rfl
    cases hE : emptyB r.on with
    | true =>
      have hE2 : r.on.toList.isEmpty = true := hE
      have HEE := Lib.hid hE
      clear hE
      go_wp2_with fail
      refine (add_calls w _ n q _ r (p2 r) [onW, r.on] false (H2.out.grow (below_alloc (Below.refl _ _) _)) (heap_alloc_new wc _) (by have := pl2 r; simp only [List.length_cons, List.length_nil]; omega)).mono ?_
      rintro e w5 ⟨rfl, h5⟩
      have H5 := Lib.hid h5
      clear h5
      go_wp2_with fail
      go_meet
      rw [hw3.out, HEE.out]
      exact H5.out
    | false =>
      have hE2 : r.on.toList.isEmpty = false := hE
      have HEE := Lib.hid hE
      clear hE
      go_wp2_with fail
      refine (add_calls w _ n q _ r (p2 r) [onW, r.on] true (H2.out.grow (below_alloc (Below.refl _ _) _)) (heap_alloc_new wc _) (by have := pl2 r; simp only [List.length_cons, List.length_nil]; omega)).mono ?_
      rintro e w5 ⟨rfl, h5⟩
      have H5 := Lib.hid h5
      clear h5
      go_wp2_with fail
      go_meet
      rw [hw3.out, HEE.out]
      exact H5.out
  case rest =>
  as_aux_lemma =>
  have H3 := Lib.hid hcut
  clear hcut H2
  -- region 10
  go_upto_region 10 with fail
  go_cut [] (fun wc => PrSt w wc n q r (p4 r))
  case first =>
    as_aux_lemma =>
    have hw : Hid (p4 r = p3 r ++ opt (!(r.proto == 0)) [protoW, protoS r.proto]) := Lib.hid rfl
    cases hq : (r.proto == 0) with
    | true =>
      have hq2 : (r.proto != 0) = false := by rw [bne, hq]; rfl
      have HQ2 := Lib.hid hq
      have c4 : wc.cell? ⟨n, 4, none⟩ = some (.int .i64 r.proto) := (blk_cell H3.out.rb 4).trans rfl
      have HD : Hid (PrSt w wc.drew n q r (p3 r)) := Lib.hid (H3.out.grow (below_drew (Below.refl _ _)))
      have hlt := blk_lt HD.out.rb
      go_region_held3 (fun W => W.cell? ⟨n, 4, none⟩ = some (.int .i64 r.proto)) (go_keep) (first
        | (go_at_call 53; ((with_reducible refine (protoS_calls r.proto wc.drew (by have := HI2.out.proto; omega) (by have := HI2.out.proto; omega) (HE.out.below HD.out.below)).mono ?_)); rintro e wa0 ⟨rfl, hb⟩; have HA0 := Lib.hid (HD.out.grow hb); have hlt0 := blk_lt HA0.out.rb; have k0_4 : wa0.cell? ⟨n, 4, none⟩ = some (.int .i64 r.proto) := (blk_cell HA0.out.rb 4).trans rfl; clear hb)
        | (go_at_call 52; refine (add_calls w _ n q _ r (p3 r) [protoW, protoS r.proto] false (HA0.out.grow (below_alloc (Below.refl _ _) _)) (heap_alloc_new wa0 _) (by have := pl3 r; simp only [List.length_cons, List.length_nil]; omega)).mono ?_; rintro e w5 ⟨rfl, h5⟩; have H5 := Lib.hid h5; have y4 : w5.cell? ⟨n, 4, none⟩ = some (.int .i64 r.proto) := (blk_cell H5.out.rb 4).trans rfl; clear h5))
      go_wp2_with fail
      go_meet
      rw [hw.out, HQ2.out]
      exact H5.out
    | false =>
      have hq2 : (r.proto != 0) = true := by rw [bne, hq]; rfl
      have HQ2 := Lib.hid hq
      have c4 : wc.cell? ⟨n, 4, none⟩ = some (.int .i64 r.proto) := (blk_cell H3.out.rb 4).trans rfl
      have HD : Hid (PrSt w wc.drew n q r (p3 r)) := Lib.hid (H3.out.grow (below_drew (Below.refl _ _)))
      have hlt := blk_lt HD.out.rb
      go_region_held3 (fun W => W.cell? ⟨n, 4, none⟩ = some (.int .i64 r.proto)) (go_keep) (first
        | (go_at_call 53; ((with_reducible refine (protoS_calls r.proto wc.drew (by have := HI2.out.proto; omega) (by have := HI2.out.proto; omega) (HE.out.below HD.out.below)).mono ?_)); rintro e wa0 ⟨rfl, hb⟩; have HA0 := Lib.hid (HD.out.grow hb); have hlt0 := blk_lt HA0.out.rb; have k0_4 : wa0.cell? ⟨n, 4, none⟩ = some (.int .i64 r.proto) := (blk_cell HA0.out.rb 4).trans rfl; clear hb)
        | (go_at_call 52; refine (add_calls w _ n q _ r (p3 r) [protoW, protoS r.proto] true (HA0.out.grow (below_alloc (Below.refl _ _) _)) (heap_alloc_new wa0 _) (by have := pl3 r; simp only [List.length_cons, List.length_nil]; omega)).mono ?_; rintro e w5 ⟨rfl, h5⟩; have H5 := Lib.hid h5; have y4 : w5.cell? ⟨n, 4, none⟩ = some (.int .i64 r.proto) := (blk_cell H5.out.rb 4).trans rfl; clear h5))
      go_wp2_with fail
      go_meet
      rw [hw.out, HQ2.out]
      exact H5.out
  case rest =>
  as_aux_lemma =>
  have H4 := Lib.hid hcut
  clear hcut H3
  -- region 11
  go_upto_region 11 with fail
  go_cut [] (fun wc => PrSt w wc n q r (p5 r))
  case first =>
    as_aux_lemma =>
    have hw : Hid (p5 r = p4 r ++ opt true [fromW, sideP r.src, toW, sideP r.dst]) := Lib.hid rfl
    have c5 : wc.cell? ⟨n, 5, none⟩ = some (.bool r.src.any) := (blk_cell H4.out.rb 5).trans rfl
    have c6 : wc.cell? ⟨n, 6, none⟩ = some (.string r.src.table) := (blk_cell H4.out.rb 6).trans rfl
    have c7 : wc.cell? ⟨n, 7, none⟩ = some (.int .u32 r.src.addr) := (blk_cell H4.out.rb 7).trans rfl
    have c8 : wc.cell? ⟨n, 8, none⟩ = some (.int .i64 r.src.len) := (blk_cell H4.out.rb 8).trans rfl
    have c9 : wc.cell? ⟨n, 9, none⟩ = some (.int .i64 r.src.low) := (blk_cell H4.out.rb 9).trans rfl
    have c10 : wc.cell? ⟨n, 10, none⟩ = some (.int .i64 r.src.high) := (blk_cell H4.out.rb 10).trans rfl
    have c11 : wc.cell? ⟨n, 11, none⟩ = some (.bool r.dst.any) := (blk_cell H4.out.rb 11).trans rfl
    have c12 : wc.cell? ⟨n, 12, none⟩ = some (.string r.dst.table) := (blk_cell H4.out.rb 12).trans rfl
    have c13 : wc.cell? ⟨n, 13, none⟩ = some (.int .u32 r.dst.addr) := (blk_cell H4.out.rb 13).trans rfl
    have c14 : wc.cell? ⟨n, 14, none⟩ = some (.int .i64 r.dst.len) := (blk_cell H4.out.rb 14).trans rfl
    have c15 : wc.cell? ⟨n, 15, none⟩ = some (.int .i64 r.dst.low) := (blk_cell H4.out.rb 15).trans rfl
    have c16 : wc.cell? ⟨n, 16, none⟩ = some (.int .i64 r.dst.high) := (blk_cell H4.out.rb 16).trans rfl
    have HD : Hid (PrSt w wc.drew n q r (p4 r)) := Lib.hid (H4.out.grow (below_drew (Below.refl _ _)))
    have hlt := blk_lt HD.out.rb
    go_region_held3 (fun W => W.cell? ⟨n, 5, none⟩ = some (.bool r.src.any) ∧ W.cell? ⟨n, 6, none⟩ = some (.string r.src.table) ∧ W.cell? ⟨n, 7, none⟩ = some (.int .u32 r.src.addr) ∧ W.cell? ⟨n, 8, none⟩ = some (.int .i64 r.src.len) ∧ W.cell? ⟨n, 9, none⟩ = some (.int .i64 r.src.low) ∧ W.cell? ⟨n, 10, none⟩ = some (.int .i64 r.src.high) ∧ W.cell? ⟨n, 11, none⟩ = some (.bool r.dst.any) ∧ W.cell? ⟨n, 12, none⟩ = some (.string r.dst.table) ∧ W.cell? ⟨n, 13, none⟩ = some (.int .u32 r.dst.addr) ∧ W.cell? ⟨n, 14, none⟩ = some (.int .i64 r.dst.len) ∧ W.cell? ⟨n, 15, none⟩ = some (.int .i64 r.dst.low) ∧ W.cell? ⟨n, 16, none⟩ = some (.int .i64 r.dst.high)) (go_keep) (first
      | (go_at_call 54; ((with_reducible refine (psideC r.src wc.drew (HE.out.below HD.out.below) HI2.out.src).mono ?_)); rintro e wa0 ⟨rfl, hb⟩; have HA0 := Lib.hid (HD.out.grow hb); have hlt0 := blk_lt HA0.out.rb; have k0_5 : wa0.cell? ⟨n, 5, none⟩ = some (.bool r.src.any) := (blk_cell HA0.out.rb 5).trans rfl; have k0_6 : wa0.cell? ⟨n, 6, none⟩ = some (.string r.src.table) := (blk_cell HA0.out.rb 6).trans rfl; have k0_7 : wa0.cell? ⟨n, 7, none⟩ = some (.int .u32 r.src.addr) := (blk_cell HA0.out.rb 7).trans rfl; have k0_8 : wa0.cell? ⟨n, 8, none⟩ = some (.int .i64 r.src.len) := (blk_cell HA0.out.rb 8).trans rfl; have k0_9 : wa0.cell? ⟨n, 9, none⟩ = some (.int .i64 r.src.low) := (blk_cell HA0.out.rb 9).trans rfl; have k0_10 : wa0.cell? ⟨n, 10, none⟩ = some (.int .i64 r.src.high) := (blk_cell HA0.out.rb 10).trans rfl; have k0_11 : wa0.cell? ⟨n, 11, none⟩ = some (.bool r.dst.any) := (blk_cell HA0.out.rb 11).trans rfl; have k0_12 : wa0.cell? ⟨n, 12, none⟩ = some (.string r.dst.table) := (blk_cell HA0.out.rb 12).trans rfl; have k0_13 : wa0.cell? ⟨n, 13, none⟩ = some (.int .u32 r.dst.addr) := (blk_cell HA0.out.rb 13).trans rfl; have k0_14 : wa0.cell? ⟨n, 14, none⟩ = some (.int .i64 r.dst.len) := (blk_cell HA0.out.rb 14).trans rfl; have k0_15 : wa0.cell? ⟨n, 15, none⟩ = some (.int .i64 r.dst.low) := (blk_cell HA0.out.rb 15).trans rfl; have k0_16 : wa0.cell? ⟨n, 16, none⟩ = some (.int .i64 r.dst.high) := (blk_cell HA0.out.rb 16).trans rfl; clear hb)
      | (go_at_call 54; ((with_reducible refine (psideC r.dst wa0 (HE.out.below HA0.out.below) HI2.out.dst).mono ?_)); rintro e wa1 ⟨rfl, hb⟩; have HA1 := Lib.hid (HA0.out.grow hb); have hlt1 := blk_lt HA1.out.rb; have k1_5 : wa1.cell? ⟨n, 5, none⟩ = some (.bool r.src.any) := (blk_cell HA1.out.rb 5).trans rfl; have k1_6 : wa1.cell? ⟨n, 6, none⟩ = some (.string r.src.table) := (blk_cell HA1.out.rb 6).trans rfl; have k1_7 : wa1.cell? ⟨n, 7, none⟩ = some (.int .u32 r.src.addr) := (blk_cell HA1.out.rb 7).trans rfl; have k1_8 : wa1.cell? ⟨n, 8, none⟩ = some (.int .i64 r.src.len) := (blk_cell HA1.out.rb 8).trans rfl; have k1_9 : wa1.cell? ⟨n, 9, none⟩ = some (.int .i64 r.src.low) := (blk_cell HA1.out.rb 9).trans rfl; have k1_10 : wa1.cell? ⟨n, 10, none⟩ = some (.int .i64 r.src.high) := (blk_cell HA1.out.rb 10).trans rfl; have k1_11 : wa1.cell? ⟨n, 11, none⟩ = some (.bool r.dst.any) := (blk_cell HA1.out.rb 11).trans rfl; have k1_12 : wa1.cell? ⟨n, 12, none⟩ = some (.string r.dst.table) := (blk_cell HA1.out.rb 12).trans rfl; have k1_13 : wa1.cell? ⟨n, 13, none⟩ = some (.int .u32 r.dst.addr) := (blk_cell HA1.out.rb 13).trans rfl; have k1_14 : wa1.cell? ⟨n, 14, none⟩ = some (.int .i64 r.dst.len) := (blk_cell HA1.out.rb 14).trans rfl; have k1_15 : wa1.cell? ⟨n, 15, none⟩ = some (.int .i64 r.dst.low) := (blk_cell HA1.out.rb 15).trans rfl; have k1_16 : wa1.cell? ⟨n, 16, none⟩ = some (.int .i64 r.dst.high) := (blk_cell HA1.out.rb 16).trans rfl; clear hb)
      | (go_at_call 52; refine (add_calls w _ n q _ r (p4 r) [fromW, sideP r.src, toW, sideP r.dst] true (HA1.out.grow (below_alloc (Below.refl _ _) _)) (heap_alloc_new wa1 _) (by have := pl4 r; simp only [List.length_cons, List.length_nil]; omega)).mono ?_; rintro e w5 ⟨rfl, h5⟩; have H5 := Lib.hid h5; have y5 : w5.cell? ⟨n, 5, none⟩ = some (.bool r.src.any) := (blk_cell H5.out.rb 5).trans rfl; have y6 : w5.cell? ⟨n, 6, none⟩ = some (.string r.src.table) := (blk_cell H5.out.rb 6).trans rfl; have y7 : w5.cell? ⟨n, 7, none⟩ = some (.int .u32 r.src.addr) := (blk_cell H5.out.rb 7).trans rfl; have y8 : w5.cell? ⟨n, 8, none⟩ = some (.int .i64 r.src.len) := (blk_cell H5.out.rb 8).trans rfl; have y9 : w5.cell? ⟨n, 9, none⟩ = some (.int .i64 r.src.low) := (blk_cell H5.out.rb 9).trans rfl; have y10 : w5.cell? ⟨n, 10, none⟩ = some (.int .i64 r.src.high) := (blk_cell H5.out.rb 10).trans rfl; have y11 : w5.cell? ⟨n, 11, none⟩ = some (.bool r.dst.any) := (blk_cell H5.out.rb 11).trans rfl; have y12 : w5.cell? ⟨n, 12, none⟩ = some (.string r.dst.table) := (blk_cell H5.out.rb 12).trans rfl; have y13 : w5.cell? ⟨n, 13, none⟩ = some (.int .u32 r.dst.addr) := (blk_cell H5.out.rb 13).trans rfl; have y14 : w5.cell? ⟨n, 14, none⟩ = some (.int .i64 r.dst.len) := (blk_cell H5.out.rb 14).trans rfl; have y15 : w5.cell? ⟨n, 15, none⟩ = some (.int .i64 r.dst.low) := (blk_cell H5.out.rb 15).trans rfl; have y16 : w5.cell? ⟨n, 16, none⟩ = some (.int .i64 r.dst.high) := (blk_cell H5.out.rb 16).trans rfl; clear h5))
    go_wp2_with fail
    go_meet
    rw [hw.out]
    exact H5.out
  case rest =>
  as_aux_lemma =>
  have H5 := Lib.hid hcut
  clear hcut H4
  -- region 12
  go_upto_region 12 with fail
  go_cut [] (fun wc => PrSt w wc n q r (p6 r))
  case first =>
    as_aux_lemma =>
    have hw : Hid (p6 r = p5 r ++ opt (!(r.mask == 0)) [flagsW, flagsS r.set ++ ⟨#[47]⟩ ++ flagsS r.mask]) := Lib.hid (by rw [← flagsP_eq]; rfl)
    have y1 := flagsI_len r.set HI2.out.set.1 HI2.out.set.2
    have y2 := flagsI_len r.mask HI2.out.mask.1 HI2.out.mask.2
    have z1 : ¬ 9223372036854775807 < (flagsS r.set).size + 1 := by omega
    have z2 : ¬ 9223372036854775807 < (flagsS r.set).size + 1 + (flagsS r.mask).size := by omega
    clear y1 y2
    cases hq : (r.mask == 0) with
    | true =>
      have hq2 : (r.mask != 0) = false := by rw [bne, hq]; rfl
      have HQ2 := Lib.hid hq
      have c17 : wc.cell? ⟨n, 17, none⟩ = some (.int .i64 r.set) := (blk_cell H5.out.rb 17).trans rfl
      have c18 : wc.cell? ⟨n, 18, none⟩ = some (.int .i64 r.mask) := (blk_cell H5.out.rb 18).trans rfl
      have HD : Hid (PrSt w wc.drew n q r (p5 r)) := Lib.hid (H5.out.grow (below_drew (Below.refl _ _)))
      have hlt := blk_lt HD.out.rb
      go_region_held3 (fun W => W.cell? ⟨n, 17, none⟩ = some (.int .i64 r.set) ∧ W.cell? ⟨n, 18, none⟩ = some (.int .i64 r.mask)) (go_keep) (first
        | (go_at_call 55; ((with_reducible refine (flagsI_calls r.set wc.drew HI2.out.set.1 HI2.out.set.2).mono ?_)); rintro e wa0 ⟨rfl, hb⟩; have HA0 := Lib.hid (HD.out.grow hb); have hlt0 := blk_lt HA0.out.rb; have k0_17 : wa0.cell? ⟨n, 17, none⟩ = some (.int .i64 r.set) := (blk_cell HA0.out.rb 17).trans rfl; have k0_18 : wa0.cell? ⟨n, 18, none⟩ = some (.int .i64 r.mask) := (blk_cell HA0.out.rb 18).trans rfl; clear hb)
        | (go_at_call 55; ((with_reducible refine (flagsI_calls r.mask wa0 HI2.out.mask.1 HI2.out.mask.2).mono ?_)); rintro e wa1 ⟨rfl, hb⟩; have HA1 := Lib.hid (HA0.out.grow hb); have hlt1 := blk_lt HA1.out.rb; have k1_17 : wa1.cell? ⟨n, 17, none⟩ = some (.int .i64 r.set) := (blk_cell HA1.out.rb 17).trans rfl; have k1_18 : wa1.cell? ⟨n, 18, none⟩ = some (.int .i64 r.mask) := (blk_cell HA1.out.rb 18).trans rfl; clear hb)
        | (go_at_call 52; refine (add_calls w _ n q _ r (p5 r) [flagsW, flagsS r.set ++ ⟨#[47]⟩ ++ flagsS r.mask] false (HA1.out.grow (below_alloc (Below.refl _ _) _)) (heap_alloc_new wa1 _) (by have := pl5 r; simp only [List.length_cons, List.length_nil]; omega)).mono ?_; rintro e w5 ⟨rfl, h5⟩; have H5 := Lib.hid h5; have y17 : w5.cell? ⟨n, 17, none⟩ = some (.int .i64 r.set) := (blk_cell H5.out.rb 17).trans rfl; have y18 : w5.cell? ⟨n, 18, none⟩ = some (.int .i64 r.mask) := (blk_cell H5.out.rb 18).trans rfl; clear h5))
      go_wp2_with fail
      go_meet
      rw [hw.out, HQ2.out]
      exact H5.out
    | false =>
      have hq2 : (r.mask != 0) = true := by rw [bne, hq]; rfl
      have HQ2 := Lib.hid hq
      have c17 : wc.cell? ⟨n, 17, none⟩ = some (.int .i64 r.set) := (blk_cell H5.out.rb 17).trans rfl
      have c18 : wc.cell? ⟨n, 18, none⟩ = some (.int .i64 r.mask) := (blk_cell H5.out.rb 18).trans rfl
      have HD : Hid (PrSt w wc.drew n q r (p5 r)) := Lib.hid (H5.out.grow (below_drew (Below.refl _ _)))
      have hlt := blk_lt HD.out.rb
      go_region_held3 (fun W => W.cell? ⟨n, 17, none⟩ = some (.int .i64 r.set) ∧ W.cell? ⟨n, 18, none⟩ = some (.int .i64 r.mask)) (go_keep) (first
        | (go_at_call 55; ((with_reducible refine (flagsI_calls r.set wc.drew HI2.out.set.1 HI2.out.set.2).mono ?_)); rintro e wa0 ⟨rfl, hb⟩; have HA0 := Lib.hid (HD.out.grow hb); have hlt0 := blk_lt HA0.out.rb; have k0_17 : wa0.cell? ⟨n, 17, none⟩ = some (.int .i64 r.set) := (blk_cell HA0.out.rb 17).trans rfl; have k0_18 : wa0.cell? ⟨n, 18, none⟩ = some (.int .i64 r.mask) := (blk_cell HA0.out.rb 18).trans rfl; clear hb)
        | (go_at_call 55; ((with_reducible refine (flagsI_calls r.mask wa0 HI2.out.mask.1 HI2.out.mask.2).mono ?_)); rintro e wa1 ⟨rfl, hb⟩; have HA1 := Lib.hid (HA0.out.grow hb); have hlt1 := blk_lt HA1.out.rb; have k1_17 : wa1.cell? ⟨n, 17, none⟩ = some (.int .i64 r.set) := (blk_cell HA1.out.rb 17).trans rfl; have k1_18 : wa1.cell? ⟨n, 18, none⟩ = some (.int .i64 r.mask) := (blk_cell HA1.out.rb 18).trans rfl; clear hb)
        | (go_at_call 52; refine (add_calls w _ n q _ r (p5 r) [flagsW, flagsS r.set ++ ⟨#[47]⟩ ++ flagsS r.mask] true (HA1.out.grow (below_alloc (Below.refl _ _) _)) (heap_alloc_new wa1 _) (by have := pl5 r; simp only [List.length_cons, List.length_nil]; omega)).mono ?_; rintro e w5 ⟨rfl, h5⟩; have H5 := Lib.hid h5; have y17 : w5.cell? ⟨n, 17, none⟩ = some (.int .i64 r.set) := (blk_cell H5.out.rb 17).trans rfl; have y18 : w5.cell? ⟨n, 18, none⟩ = some (.int .i64 r.mask) := (blk_cell H5.out.rb 18).trans rfl; clear h5))
      go_wp2_with fail
      go_meet
      rw [hw.out, HQ2.out]
      exact H5.out
  case rest =>
  as_aux_lemma =>
  have H6 := Lib.hid hcut
  clear hcut H5
  -- region 13
  go_upto_region 13 with fail
  go_cut [] (fun wc => PrSt w wc n q r (p7 r))
  case first =>
    as_aux_lemma =>
    have hw : Hid (p7 r = p6 r ++ opt (!(r.type == -1)) [typeW, itoaS r.type]) := Lib.hid rfl
    cases hq : (r.type == -1) with
    | true =>
      have hq2 : (r.type != -1) = false := by rw [bne, hq]; rfl
      have HQ2 := Lib.hid hq
      have c19 : wc.cell? ⟨n, 19, none⟩ = some (.int .i64 r.type) := (blk_cell H6.out.rb 19).trans rfl
      have HD : Hid (PrSt w wc.drew n q r (p6 r)) := Lib.hid (H6.out.grow (below_drew (Below.refl _ _)))
      have hlt := blk_lt HD.out.rb
      go_region_held3 (fun W => W.cell? ⟨n, 19, none⟩ = some (.int .i64 r.type)) (go_keep) (first
        | (go_at_call 56; ((with_reducible refine (itoaI_calls r.type wc.drew (by have := HI2.out.type; omega) (by have := HI2.out.type; omega) (HE.out.below HD.out.below)).mono ?_)); rintro e wa0 ⟨rfl, hb⟩; have HA0 := Lib.hid (HD.out.grow hb); have hlt0 := blk_lt HA0.out.rb; have k0_19 : wa0.cell? ⟨n, 19, none⟩ = some (.int .i64 r.type) := (blk_cell HA0.out.rb 19).trans rfl; clear hb)
        | (go_at_call 52; refine (add_calls w _ n q _ r (p6 r) [typeW, itoaS r.type] false (HA0.out.grow (below_alloc (Below.refl _ _) _)) (heap_alloc_new wa0 _) (by have := pl6 r; simp only [List.length_cons, List.length_nil]; omega)).mono ?_; rintro e w5 ⟨rfl, h5⟩; have H5 := Lib.hid h5; have y19 : w5.cell? ⟨n, 19, none⟩ = some (.int .i64 r.type) := (blk_cell H5.out.rb 19).trans rfl; clear h5))
      go_wp2_with fail
      go_meet
      rw [hw.out, HQ2.out]
      exact H5.out
    | false =>
      have hq2 : (r.type != -1) = true := by rw [bne, hq]; rfl
      have HQ2 := Lib.hid hq
      have c19 : wc.cell? ⟨n, 19, none⟩ = some (.int .i64 r.type) := (blk_cell H6.out.rb 19).trans rfl
      have HD : Hid (PrSt w wc.drew n q r (p6 r)) := Lib.hid (H6.out.grow (below_drew (Below.refl _ _)))
      have hlt := blk_lt HD.out.rb
      go_region_held3 (fun W => W.cell? ⟨n, 19, none⟩ = some (.int .i64 r.type)) (go_keep) (first
        | (go_at_call 56; ((with_reducible refine (itoaI_calls r.type wc.drew (by have := HI2.out.type; omega) (by have := HI2.out.type; omega) (HE.out.below HD.out.below)).mono ?_)); rintro e wa0 ⟨rfl, hb⟩; have HA0 := Lib.hid (HD.out.grow hb); have hlt0 := blk_lt HA0.out.rb; have k0_19 : wa0.cell? ⟨n, 19, none⟩ = some (.int .i64 r.type) := (blk_cell HA0.out.rb 19).trans rfl; clear hb)
        | (go_at_call 52; refine (add_calls w _ n q _ r (p6 r) [typeW, itoaS r.type] true (HA0.out.grow (below_alloc (Below.refl _ _) _)) (heap_alloc_new wa0 _) (by have := pl6 r; simp only [List.length_cons, List.length_nil]; omega)).mono ?_; rintro e w5 ⟨rfl, h5⟩; have H5 := Lib.hid h5; have y19 : w5.cell? ⟨n, 19, none⟩ = some (.int .i64 r.type) := (blk_cell H5.out.rb 19).trans rfl; clear h5))
      go_wp2_with fail
      go_meet
      rw [hw.out, HQ2.out]
      exact H5.out
  case rest =>
  as_aux_lemma =>
  have H7 := Lib.hid hcut
  clear hcut H6
  -- region 14
  go_upto_region 14 with fail
  go_cut [] (fun wc => PrSt w wc n q r (p8 r))
  case first =>
    as_aux_lemma =>
    have c20 : wc.cell? ⟨n, 20, none⟩ = some (.bool r.keep) := (blk_cell H7.out.rb 20).trans rfl
    go_wp2_with fail
    refine (add_calls w _ n q _ r (p7 r) [keepW] r.keep (H7.out.grow (below_alloc (Below.refl _ _) _)) (heap_alloc_new wc _) (by have := pl7 r; simp only [List.length_cons, List.length_nil]; omega)).mono ?_
    rintro e w5 ⟨rfl, h5⟩
    have H5 := Lib.hid h5
    clear h5
    go_wp2_with fail
    go_meet
    exact H5.out
  case rest =>
  as_aux_lemma =>
  have H8 := Lib.hid hcut
  clear hcut H7
  -- region 15
  go_upto_region 15 with fail
  go_cut [] (fun wc => PrSt w wc n q r (p9 r))
  case first =>
    as_aux_lemma =>
    have hw : Hid (p9 r = p8 r ++ opt r.route.on [routeW, r.route.iface, addrP r.route.gate]) := Lib.hid rfl
    have c21 : wc.cell? ⟨n, 21, none⟩ = some (.bool r.route.on) := (blk_cell H8.out.rb 21).trans rfl
    have c22 : wc.cell? ⟨n, 22, none⟩ = some (.string r.route.iface) := (blk_cell H8.out.rb 22).trans rfl
    have c23 : wc.cell? ⟨n, 23, none⟩ = some (.int .u32 r.route.gate) := (blk_cell H8.out.rb 23).trans rfl
    have HD : Hid (PrSt w wc.drew n q r (p8 r)) := Lib.hid (H8.out.grow (below_drew (Below.refl _ _)))
    have hlt := blk_lt HD.out.rb
    go_region_held3 (fun W => W.cell? ⟨n, 21, none⟩ = some (.bool r.route.on) ∧ W.cell? ⟨n, 22, none⟩ = some (.string r.route.iface) ∧ W.cell? ⟨n, 23, none⟩ = some (.int .u32 r.route.gate)) (go_keep) (first
      | (go_at_call 57; ((with_reducible refine (aprint_calls r.route.gate wc.drew (HE.out.below HD.out.below) HK.out.route.1 HK.out.route.2).mono ?_)); rintro e wa0 ⟨rfl, hb⟩; have HA0 := Lib.hid (HD.out.grow hb); have hlt0 := blk_lt HA0.out.rb; have k0_21 : wa0.cell? ⟨n, 21, none⟩ = some (.bool r.route.on) := (blk_cell HA0.out.rb 21).trans rfl; have k0_22 : wa0.cell? ⟨n, 22, none⟩ = some (.string r.route.iface) := (blk_cell HA0.out.rb 22).trans rfl; have k0_23 : wa0.cell? ⟨n, 23, none⟩ = some (.int .u32 r.route.gate) := (blk_cell HA0.out.rb 23).trans rfl; clear hb)
      | (go_at_call 52; refine (add_calls w _ n q _ r (p8 r) [routeW, r.route.iface, addrP r.route.gate] r.route.on (HA0.out.grow (below_alloc (Below.refl _ _) _)) (heap_alloc_new wa0 _) (by have := pl8 r; simp only [List.length_cons, List.length_nil]; omega)).mono ?_; rintro e w5 ⟨rfl, h5⟩; have H5 := Lib.hid h5; have y21 : w5.cell? ⟨n, 21, none⟩ = some (.bool r.route.on) := (blk_cell H5.out.rb 21).trans rfl; have y22 : w5.cell? ⟨n, 22, none⟩ = some (.string r.route.iface) := (blk_cell H5.out.rb 22).trans rfl; have y23 : w5.cell? ⟨n, 23, none⟩ = some (.int .u32 r.route.gate) := (blk_cell H5.out.rb 23).trans rfl; clear h5))
    go_wp2_with fail
    go_meet
    rw [hw.out]
    exact H5.out
  case rest =>
  as_aux_lemma =>
  have H9 := Lib.hid hcut
  clear hcut H8
  -- region 16
  go_upto_region 16 with fail
  go_cut [] (fun wc => PrSt w wc n q r (p10 r))
  case first =>
    as_aux_lemma =>
    have hw : Hid (p10 r = p9 r ++ opt r.reply.on [replyW, r.reply.iface, addrP r.reply.gate]) := Lib.hid rfl
    have c24 : wc.cell? ⟨n, 24, none⟩ = some (.bool r.reply.on) := (blk_cell H9.out.rb 24).trans rfl
    have c25 : wc.cell? ⟨n, 25, none⟩ = some (.string r.reply.iface) := (blk_cell H9.out.rb 25).trans rfl
    have c26 : wc.cell? ⟨n, 26, none⟩ = some (.int .u32 r.reply.gate) := (blk_cell H9.out.rb 26).trans rfl
    have HD : Hid (PrSt w wc.drew n q r (p9 r)) := Lib.hid (H9.out.grow (below_drew (Below.refl _ _)))
    have hlt := blk_lt HD.out.rb
    go_region_held3 (fun W => W.cell? ⟨n, 24, none⟩ = some (.bool r.reply.on) ∧ W.cell? ⟨n, 25, none⟩ = some (.string r.reply.iface) ∧ W.cell? ⟨n, 26, none⟩ = some (.int .u32 r.reply.gate)) (go_keep) (first
      | (go_at_call 57; ((with_reducible refine (aprint_calls r.reply.gate wc.drew (HE.out.below HD.out.below) HK.out.reply.1 HK.out.reply.2).mono ?_)); rintro e wa0 ⟨rfl, hb⟩; have HA0 := Lib.hid (HD.out.grow hb); have hlt0 := blk_lt HA0.out.rb; have k0_24 : wa0.cell? ⟨n, 24, none⟩ = some (.bool r.reply.on) := (blk_cell HA0.out.rb 24).trans rfl; have k0_25 : wa0.cell? ⟨n, 25, none⟩ = some (.string r.reply.iface) := (blk_cell HA0.out.rb 25).trans rfl; have k0_26 : wa0.cell? ⟨n, 26, none⟩ = some (.int .u32 r.reply.gate) := (blk_cell HA0.out.rb 26).trans rfl; clear hb)
      | (go_at_call 52; refine (add_calls w _ n q _ r (p9 r) [replyW, r.reply.iface, addrP r.reply.gate] r.reply.on (HA0.out.grow (below_alloc (Below.refl _ _) _)) (heap_alloc_new wa0 _) (by have := pl9 r; simp only [List.length_cons, List.length_nil]; omega)).mono ?_; rintro e w5 ⟨rfl, h5⟩; have H5 := Lib.hid h5; have y24 : w5.cell? ⟨n, 24, none⟩ = some (.bool r.reply.on) := (blk_cell H5.out.rb 24).trans rfl; have y25 : w5.cell? ⟨n, 25, none⟩ = some (.string r.reply.iface) := (blk_cell H5.out.rb 25).trans rfl; have y26 : w5.cell? ⟨n, 26, none⟩ = some (.int .u32 r.reply.gate) := (blk_cell H5.out.rb 26).trans rfl; clear h5))
    go_wp2_with fail
    go_meet
    rw [hw.out]
    exact H5.out
  case rest =>
  as_aux_lemma =>
  have H10 := Lib.hid hcut
  clear hcut H9
  -- region 17
  go_upto_region 17 with fail
  go_cut [] (fun wc => PrSt w wc n q r (p11 r))
  case first =>
    as_aux_lemma =>
    have hw : Hid (p11 r = p10 r ++ opt (!(r.table == 0)) [tableW, itoaS r.table]) := Lib.hid rfl
    cases hq : (r.table == 0) with
    | true =>
      have hq2 : (r.table != 0) = false := by rw [bne, hq]; rfl
      have HQ2 := Lib.hid hq
      have c27 : wc.cell? ⟨n, 27, none⟩ = some (.int .i64 r.table) := (blk_cell H10.out.rb 27).trans rfl
      have HD : Hid (PrSt w wc.drew n q r (p10 r)) := Lib.hid (H10.out.grow (below_drew (Below.refl _ _)))
      have hlt := blk_lt HD.out.rb
      go_region_held3 (fun W => W.cell? ⟨n, 27, none⟩ = some (.int .i64 r.table)) (go_keep) (first
        | (go_at_call 56; ((with_reducible refine (itoaI_calls r.table wc.drew (by have := HI2.out.table; omega) (by have := HI2.out.table; omega) (HE.out.below HD.out.below)).mono ?_)); rintro e wa0 ⟨rfl, hb⟩; have HA0 := Lib.hid (HD.out.grow hb); have hlt0 := blk_lt HA0.out.rb; have k0_27 : wa0.cell? ⟨n, 27, none⟩ = some (.int .i64 r.table) := (blk_cell HA0.out.rb 27).trans rfl; clear hb)
        | (go_at_call 52; refine (add_calls w _ n q _ r (p10 r) [tableW, itoaS r.table] false (HA0.out.grow (below_alloc (Below.refl _ _) _)) (heap_alloc_new wa0 _) (by have := pl10 r; simp only [List.length_cons, List.length_nil]; omega)).mono ?_; rintro e w5 ⟨rfl, h5⟩; have H5 := Lib.hid h5; have y27 : w5.cell? ⟨n, 27, none⟩ = some (.int .i64 r.table) := (blk_cell H5.out.rb 27).trans rfl; clear h5))
      go_wp2_with fail
      go_meet
      rw [hw.out, HQ2.out]
      exact H5.out
    | false =>
      have hq2 : (r.table != 0) = true := by rw [bne, hq]; rfl
      have HQ2 := Lib.hid hq
      have c27 : wc.cell? ⟨n, 27, none⟩ = some (.int .i64 r.table) := (blk_cell H10.out.rb 27).trans rfl
      have HD : Hid (PrSt w wc.drew n q r (p10 r)) := Lib.hid (H10.out.grow (below_drew (Below.refl _ _)))
      have hlt := blk_lt HD.out.rb
      go_region_held3 (fun W => W.cell? ⟨n, 27, none⟩ = some (.int .i64 r.table)) (go_keep) (first
        | (go_at_call 56; ((with_reducible refine (itoaI_calls r.table wc.drew (by have := HI2.out.table; omega) (by have := HI2.out.table; omega) (HE.out.below HD.out.below)).mono ?_)); rintro e wa0 ⟨rfl, hb⟩; have HA0 := Lib.hid (HD.out.grow hb); have hlt0 := blk_lt HA0.out.rb; have k0_27 : wa0.cell? ⟨n, 27, none⟩ = some (.int .i64 r.table) := (blk_cell HA0.out.rb 27).trans rfl; clear hb)
        | (go_at_call 52; refine (add_calls w _ n q _ r (p10 r) [tableW, itoaS r.table] true (HA0.out.grow (below_alloc (Below.refl _ _) _)) (heap_alloc_new wa0 _) (by have := pl10 r; simp only [List.length_cons, List.length_nil]; omega)).mono ?_; rintro e w5 ⟨rfl, h5⟩; have H5 := Lib.hid h5; have y27 : w5.cell? ⟨n, 27, none⟩ = some (.int .i64 r.table) := (blk_cell H5.out.rb 27).trans rfl; clear h5))
      go_wp2_with fail
      go_meet
      rw [hw.out, HQ2.out]
      exact H5.out
  case rest =>
  as_aux_lemma =>
  have H11 := Lib.hid hcut
  clear hcut H10
  obtain ⟨v, hq, ho⟩ := H11.out.own
  have c0 : wc.cell? ⟨q, 0, none⟩ = some v := (blk_cell hq 0).trans rfl
  have HO := Lib.hid ho
  have HB11 := Lib.hid H11.out.below
  have HJ : Hid (R = mkB (Lib.join (datas (p11 r)) [32])) := Lib.hid (by rw [HR.out, printR, HI.out, join_p11]; rfl)
  clear hq ho
  go_wp2_with fail
  refine (join_own _ (n + 1) v (p11 r) ⟨#[32]⟩ HO.out (by have := pl11 r; omega) (join_small r HI2.out)).mono ?_
  rintro e w6 ⟨rfl, hb⟩
  have HB12 : Hid (Grows w w6) := Lib.hid (below_then HB11.out HB11.out.size hb)
  clear hb
  go_wp2_with fail
  go_ret
  exact ⟨ret_str (by rw [HJ.out]), HB12.out⟩

end Go.Proofs.YtomkohdlaednhaaGreatDoor
