import Derived.Test.YtomkohdlaednhaaGreatDoorC
set_option linter.unusedSimpArgs false
set_option linter.unusedVariables false
namespace Go.Proofs.YtomkohdlaednhaaGreatDoor
open Go.RowKit Go.Proofs.YtomkohdlaednhaaGreatDoorW.PrintWords

/-- A number of at most so many digits, and whether it is one that is at most so much. -/
def numR (k : Nat) (most : Int) (s : ByteArray) : Int × Bool := if numOk k s then ((decN s.data.toList : Int), decide ((decN s.data.toList : Int) ≤ most)) else (0, false)
theorem anum_no (s : ByteArray) (most : Int) (w : World) (hne : ¬ s.toList = []) (hl : s.size ≤ 3) (hp : 0 < s.size)
    (hz : (bt s 0 == 48) = true ∧ ¬ 1 < s.size ∨ (bt s 0 == 48) = false) (hd : (Lib.trimS s.data.toList digs.data.toList).isEmpty = false) (ho : Hid (numR 3 most s = (0, false))) :
    Calls Tryz.prog 130 #[.string s, .int .i64 most] w fun e w' => e = .returned (.tuple #[.int .i64 (numR 3 most s).1, .bool (numR 3 most s).2]) ∧ Grows w w' := by
  have hx0 : ∀ h : 0 < s.size, ((s[0]'h).toNat : Int) = bt s 0 := bt_at s 0
  have he : s.toList.isEmpty = false := by simpa using hne
  rcases hz with ⟨hz, h2⟩ | hz
  · go_enter Tryz.func130, Tryz.ntmps130
    go_wp2_with (go_at_call 49; refine (trim_calls s digs w (by omega) (by decide) (by decide)).mono ?_; rintro e w1 ⟨rfl, hb⟩)
    go_ret2
    exact ⟨by rw [ho.out]; rfl, ‹_›⟩
  · go_enter Tryz.func130, Tryz.ntmps130
    go_wp2_with (go_at_call 49; refine (trim_calls s digs w (by omega) (by decide) (by decide)).mono ?_; rintro e w1 ⟨rfl, hb⟩)
    go_ret2
    exact ⟨by rw [ho.out]; rfl, ‹_›⟩
theorem anum_yes (s : ByteArray) (most : Int) (w : World) (hne : ¬ s.toList = []) (hl : s.size ≤ 3) (hp : 0 < s.size)
    (hz : (bt s 0 == 48) = true ∧ ¬ 1 < s.size ∨ (bt s 0 == 48) = false) (hQ : Hid (s.data.toList.all isDig = true)) (hd : Lib.trimS s.data.toList digs.data.toList = []) (ho : Hid (numR 3 most s = ((decN s.data.toList : Int), decide ((decN s.data.toList : Int) ≤ most)))) :
    Calls Tryz.prog 130 #[.string s, .int .i64 most] w fun e w' => e = .returned (.tuple #[.int .i64 (numR 3 most s).1, .bool (numR 3 most s).2]) ∧ Grows w w' := by
  have hx0 : ∀ h : 0 < s.size, ((s[0]'h).toNat : Int) = bt s 0 := bt_at s 0
  have he : s.toList.isEmpty = false := by simpa using hne
  have hd2 : (!(Lib.trimS s.data.toList digs.data.toList).isEmpty) = false := by rw [hd]; rfl
  rcases hz with ⟨hz, h2⟩ | hz
  · go_enter Tryz.func130, Tryz.ntmps130
    go_wp2_with (first | (go_at_call 49; refine (trim_calls s digs w (by omega) (by decide) (by decide)).mono ?_; rintro e w1 ⟨rfl, hb⟩) | (go_at_call 84; refine (atoi_calls s _ (by omega) hne hQ.out).mono ?_; rintro e w2 ⟨rfl, hb2⟩))
    all_goals go_ret2
    all_goals exact ⟨by rw [ho.out]; first | rfl | simp [*], below_then ‹Grows w _› (‹Grows w _›).size ‹_›⟩
  · go_enter Tryz.func130, Tryz.ntmps130
    go_wp2_with (first | (go_at_call 49; refine (trim_calls s digs w (by omega) (by decide) (by decide)).mono ?_; rintro e w1 ⟨rfl, hb⟩) | (go_at_call 84; refine (atoi_calls s _ (by omega) hne hQ.out).mono ?_; rintro e w2 ⟨rfl, hb2⟩))
    all_goals go_ret2
    all_goals exact ⟨by rw [ho.out]; first | rfl | simp [*], below_then ‹Grows w _› (‹Grows w _›).size ‹_›⟩
theorem anum_calls (s : ByteArray) (most : Int) (w : World) :
    Calls Tryz.prog 130 #[.string s, .int .i64 most] w fun e w' => e = .returned (.tuple #[.int .i64 (numR 3 most s).1, .bool (numR 3 most s).2]) ∧ Grows w w' := by
  have hx0 : ∀ h : 0 < s.size, ((s[0]'h).toNat : Int) = bt s 0 := bt_at s 0
  rcases num_cases 3 s with he | ⟨hne, hp, hl | ⟨hl, hz⟩⟩
  · have ho : numR 3 most s = (0, false) := by simp [numR, numOk_empty he]
    go_enter Tryz.func130, Tryz.ntmps130
    go_wp2
    go_ret2
    exact ⟨by first | (rw [ho]; rfl) | rfl, Below.refl _ _⟩
  · have ho : numR 3 most s = (0, false) := by simp [numR, numOk_long hl]
    have he : s.toList.isEmpty = false := by simpa using hne
    go_enter Tryz.func130, Tryz.ntmps130
    go_wp2
    go_ret2
    exact ⟨by first | (rw [ho]; rfl) | rfl, Below.refl _ _⟩
  · rcases hz with ⟨hz, h2⟩ | hz
    · have ho : numR 3 most s = (0, false) := by simp [numR, numOk_nought ((bt_head hp).1 (by simpa using hz)) h2]
      have he : s.toList.isEmpty = false := by simpa using hne
      go_enter Tryz.func130, Tryz.ntmps130
      go_wp2
      go_ret2
      exact ⟨by first | (rw [ho]; rfl) | rfl, Below.refl _ _⟩
    · have hd := trim_digs s
      cases hq : s.data.toList.all isDig with
      | false => exact anum_no s most w hne hl hp hz (by rw [hd, hq]) (Lib.hid (by simp [numR, numOk_other (k := 3) hq]))
      | true =>
        exact anum_yes s most w hne hl hp hz (Lib.hid hq) (List.isEmpty_iff.1 (by rw [hd, hq])) (Lib.hid (by
          unfold numR
          rw [if_pos (numOk_yes hne hl (by rintro ⟨h3, h4⟩; rcases hz with ⟨_, h2⟩ | hz; exact h2 h4; exact absurd ((bt_head hp).2 h3) (by simpa using hz)) hq)]))

/-! ### addresses -/
def dotS : ByteArray := ⟨#[46]⟩
def parts (c s : ByteArray) : List ByteArray := Lib.splitB c 0 (Lib.countB s c) s
theorem split_calls (s c : ByteArray) (w : World) (he : Env w) (hs : s.size < 4294967281) (hc : 1 ≤ c.size) :
    Calls Tryz.prog 67 #[.string s, .string c] w fun e w' => e = .returned (.slice (some ⟨w.heap.size, 0, none⟩) (parts c s).length (parts c s).length) ∧ Strs w' (some ⟨w.heap.size, 0, none⟩) (parts c s).length (parts c s) ∧ Grows w w' :=
  (Tryz.strings_Split_shaped s c w he.1 hs hc).mono fun e w' ⟨h1, h2⟩ => by
    have hl : (parts c s).length = Lib.countB s c + 1 := Lib.splitB_all c hc 0 _ s rfl
    refine ⟨by rw [hl]; exact h1, ⟨Nat.le_refl _, ?_, fun _ => ⟨_, _, rfl, fun j x hx => ?_⟩⟩, by rw [h2]; exact below_alloc (Below.refl _ _) _⟩
    · rw [hl]; have := Lib.countB_le c hc s.size s (Nat.le_refl _); omega
    · rw [h2]
      have := (blk_cell (heap_alloc_new w (.cells ((parts c s).map Value.string).toArray 9)) j)
      rw [Nat.zero_add]
      refine this.trans ?_
      simp [hx]
def octs (L : List ByteArray) (a : Int) : Int × Int := match L with
  | [] => (a, 0)
  | x :: l => if (numR 3 255 x).2 then octs l (Go.bits .or .u32 (a * 256 % 4294967296) ((numR 3 255 x).1 % 4294967296)) else (0, 2)
def addrR (s : ByteArray) : Int × Int := if (parts dotS s).length = 4 then octs (parts dotS s) 0 else (0, 2)
set_option maxHeartbeats 1000000 in
theorem addr_calls (s : ByteArray) (w : World) (he : Env w) (hs : s.size < 4294967281) :
    Calls Tryz.prog 83 #[.string s] w fun e w' => e = .returned (.tuple #[.int .u32 (addrR s).1, .int .i64 (addrR s).2]) ∧ Grows w w' := by
  have hE := Lib.hid he
  clear he
  by_cases h4 : (parts dotS s).length = 4
  · have hR : Hid (addrR s = octs (parts dotS s) 0) := Lib.hid (by rw [addrR, if_pos h4])
    go_enter Tryz.func83, Tryz.ntmps83
    go_wp2_with fail
    refine (split_calls s dotS w hE.out hs (by decide)).mono ?_
    rintro e w1 ⟨rfl, hl, hb⟩
    generalize parts dotS s = L at *
    have HL := Lib.hid hl
    clear hl
    rw [h4]
    have H4 := Lib.hid h4
    clear h4
    generalize hbb : w.heap.size = bb at *
    clear hbb
    go_wp2_with fail
    go_loopw [5, 17] (fun v5 v17 wr => ∃ (k : Nat) (a : Int), k ≤ 4 ∧ v17 = .int .i64 k ∧ v5 = .int .u32 a ∧ Hid (octs L 0 = octs (L.drop k) a) ∧ Hid (Grows w1 wr)) (fun _ v17 _ => 4 - (intOf v17).toNat)
    case atStart => exact ⟨0, 0, by omega, rfl, rfl, Lib.hid rfl, Lib.hid (Below.refl _ _)⟩
    case round =>
      obtain ⟨k, a, hk, rfl, rfl, hO, hG⟩ := hrel
      by_cases hlt : k < 4
      · obtain ⟨x, hx⟩ : ∃ x, L[k]? = some x := ⟨L[k]'(by have := H4.out; omega), List.getElem?_eq_getElem _⟩
        have hd : Hid (L.drop k = x :: L.drop (k + 1)) := Lib.hid (by
          have hk' : k < L.length := by have := H4.out; omega
          rw [List.drop_eq_getElem_cons hk']
          rw [List.getElem?_eq_getElem hk'] at hx
          rw [Option.some.inj hx])
        have hc : wr.cell? ⟨bb, k, none⟩ = some (.string x) := by
          obtain ⟨b', o', e', hc'⟩ := (HL.out.below hG.out).2.2 (by intro e0; simp [e0] at hx)
          simp only [Option.some.injEq, Addr.mk.injEq] at e'
          obtain ⟨rfl, rfl, _⟩ := e'
          have := hc' k x hx
          rwa [Nat.zero_add] at this
        clear hx
        go_wp2_with fail
        refine (anum_calls x 255 wr).mono ?_
        rintro e w2 ⟨rfl, hb2⟩
        cases hq : (numR 3 255 x).2 with
        | false =>
          have HR2 := Lib.hid hq
          go_wp2_with fail
          go_ret2
          have e1 : addrR s = (0, 2) := by rw [hR.out, hO.out, hd.out, octs, HR2.out]; rfl
          exact ⟨by rw [e1]; rfl, below_then hb hb.size (below_then hG.out hG.out.size hb2)⟩
        | true =>
          have HR2 := Lib.hid hq
          go_wp2_with fail
          go_roundw
          case rel =>
            refine ⟨k + 1, Go.bits .or .u32 (a * 256 % 4294967296) ((numR 3 255 x).1 % 4294967296), by omega, by go_num, rfl, Lib.hid ?_, Lib.hid (below_then hG.out hG.out.size hb2)⟩
            rw [hO.out, hd.out, octs, if_pos HR2.out]
          case measure => simp [intOf]; omega
      · go_wp2_with fail
        go_ret2
        obtain rfl : k = 4 := by omega
        have e1 : addrR s = (a, 0) := by rw [hR.out, hO.out, List.drop_of_length_le (by have := H4.out; omega)]; rfl
        exact ⟨by rw [e1]; rfl, below_then hb hb.size hG.out⟩
  · have hR : Hid (addrR s = (0, 2)) := Lib.hid (by rw [addrR, if_neg h4])
    have h4b : (((parts dotS s).length : Int) != 4) = true := by rw [bne_iff_ne]; omega
    go_enter Tryz.func83, Tryz.ntmps83
    go_wp2_with fail
    refine (split_calls s dotS w hE.out hs (by decide)).mono ?_
    rintro e w1 ⟨rfl, hl, hb⟩
    clear hl
    generalize hp : (parts dotS s).length = n at *
    clear hp
    go_wp2_with fail
    go_ret2
    exact ⟨by rw [hR.out]; rfl, hb⟩
end Go.Proofs.YtomkohdlaednhaaGreatDoor
