import Derived.Test.YtomkohdlaednhaaGreatDoorZ
import Derived.Test.YtomkohdlaednhaaGreatDoorN
set_option linter.unusedSimpArgs false
set_option linter.unusedVariables false
namespace Go.Proofs.YtomkohdlaednhaaGreatDoor
open Go.RowKit Go.Proofs.YtomkohdlaednhaaGreatDoorW.PrintWords PConfParses

theorem Name_l0 (s : ByteArray) (hs : s.size ≤ 9223372036854775807) : ∀ (d k i : Nat), i + d = s.data.toList.length → d < k →
    castellanref14_Name.l0 k s (i : Int) = some ((s.data.toList.drop i).all isSign && decide (1 ≤ s.size ∧ s.size ≤ 8)) := by
  have hsz := Lib.size_eq s
  intro d
  induction d with
  | zero =>
    intro k i hi hk
    obtain ⟨k, rfl⟩ : ∃ m, k = m + 1 := ⟨k - 1, by omega⟩
    simp only [castellanref14_Name.l0]
    rw [if_neg (by omega), List.drop_of_length_le (by omega)]
    by_cases h1 : 1 ≤ s.size
    · rw [if_pos (by omega)]
      simp only [List.all_nil, Bool.true_and, Option.some.injEq]
      rw [Bool.eq_iff_iff]
      simp only [decide_eq_true_eq]
      omega
    · rw [if_neg (by omega)]
      simp [h1]
  | succ d ih =>
    intro k i hi hk
    obtain ⟨k, rfl⟩ : ∃ m, k = m + 1 := ⟨k - 1, by omega⟩
    have hlt : i < s.data.toList.length := by omega
    have hd := drop_at hlt
    have hb := bt_get s i
    generalize s.data.toList[i]?.getD 0 = b at *
    have e2 := w_succ i (by omega)
    have go := ih k (i + 1) (by omega) (by omega)
    simp only [castellanref14_Name.l0]
    rw [if_pos (by omega), if_pos (by omega), hb, e2, hd, go, List.all_cons]
    have hsign : isSign b = decide (97 ≤ b.toNat ∧ b.toNat ≤ 122 ∨ 48 ≤ b.toNat ∧ b.toNat ≤ 57) := rfl
    by_cases h1 : (b.toNat : Int) < 97
    · rw [if_pos h1]
      by_cases h2 : (b.toNat : Int) < 48
      · rw [if_pos h2, show isSign b = false from by rw [hsign]; exact decide_eq_false (by omega)]; rfl
      · rw [if_neg h2]
        by_cases h3 : (b.toNat : Int) > 57
        · rw [if_pos h3, show isSign b = false from by rw [hsign]; exact decide_eq_false (by omega)]; rfl
        · rw [if_neg h3, show isSign b = true from by rw [hsign]; exact decide_eq_true (by omega)]; rfl
    · rw [if_neg h1]
      by_cases h4 : (b.toNat : Int) > 122
      · rw [if_pos h4, if_neg (by omega), if_pos (by omega), show isSign b = false from by rw [hsign]; exact decide_eq_false (by omega)]; rfl
      · rw [if_neg h4, show isSign b = true from by rw [hsign]; exact decide_eq_true (by omega)]; rfl
theorem Name_eq (k : Nat) (s : ByteArray) (hs : s.size ≤ 9223372036854775807) (hk : s.size < k) : castellanref14_Name.f k s = some (nameB s) := by
  have := Name_l0 s hs s.data.toList.length k 0 (by omega) (by rw [← Lib.size_eq]; exact hk)
  unfold castellanref14_Name.f
  rw [show (0 : Int) = ((0 : Nat) : Int) from rfl, this, nameB, Bool.and_comm]
  rfl
theorem rname_calls (s : ByteArray) (w : World) (hs : s.size ≤ 9223372036854775807) :
    Calls Tryz.prog 15 #[.string s] w fun e w' => e = .returned (.bool (nameB s)) ∧ Grows w w' :=
  (castellanref14_Name.calls (s.size + 1) s _ w (Name_eq _ s hs (by omega))).mono fun e w' ⟨h1, h2⟩ => ⟨h1, h2.below⟩
theorem empty_eq (s : ByteArray) : emptyB s = decide (s = ⟨#[]⟩) := by
  unfold emptyB
  rw [Bool.eq_iff_iff, decide_eq_true_eq, List.isEmpty_iff]
  constructor
  · intro h
    rw [← Lib.mk_data s, ← Lib.toList_data, h]
  · rintro rfl
    simp [Lib.toList_data]
theorem Pin_eq (k : Nat) (p : PinV) (hs : p.iface.size ≤ 9223372036854775807) (hk : p.iface.size < k) : castellanref14_pin.f k p.on p.iface p.gate = some (pinB p) := by
  unfold castellanref14_pin.f pinB
  cases p.on with
  | true => rw [if_pos rfl, Name_eq k _ hs hk]; simp
  | false =>
    rw [if_neg (by decide)]
    have := empty_eq p.iface
    unfold emptyB at this
    have e2 : (p.iface.toList == ([] : List UInt8)) = p.iface.toList.isEmpty := by cases p.iface.toList <;> rfl
    rw [e2, this]
    simp [Bool.and_assoc]
    rfl
theorem rpinB_calls (p : PinV) (w : World) (hs : p.iface.size ≤ 9223372036854775807) :
    Calls Tryz.prog 51 #[p.val] w fun e w' => e = .returned (.bool (pinB p)) ∧ Grows w w' :=
  castellanref14_pin.calls (p.iface.size + 1) p.on p.iface p.gate _ w (Pin_eq _ p hs (by omega))
theorem hold_eq (n : Int) : castellanref3_hold.f n = some (heldV n) := by
  simp only [castellanref3_hold.f, heldV, mn, mx]
  congr 1
  split <;> split <;> (try split) <;> omega
theorem mask_all : ∀ h : Fin 33, (shl .u64 4294967295 (IntKind.u64.wrap (32 - (h.val : Int)))) % 4294967296 = shl .u32 4294967295 (32 - (h.val : Int)) := by decide +kernel
theorem Mask_eq (n : Int) : castellanref3_Mask.f n = some (maskV n) := by
  have h := heldV_bd n
  have hw : wrap64 (32 - heldV n) = 32 - heldV n := by unfold wrap64; omega
  obtain ⟨m, hm⟩ := Int.eq_ofNat_of_zero_le h.1
  have hx := mask_all ⟨m, by omega⟩
  have hy : IntKind.u64.wrap (32 - heldV n) = 32 - heldV n := by
    have : ∀ h : Fin 33, IntKind.u64.wrap (32 - (h.val : Int)) = 32 - (h.val : Int) := by decide +kernel
    have h2 := this ⟨m, by omega⟩
    rw [hm]; exact h2
  simp only [castellanref3_Mask.f, hold_eq, Option.bind_some, hw, maskV]
  rw [if_pos (by rw [hy]; omega), hm]
  exact congrArg some hx
theorem pIs_eq (a n : Int) : castellanref3_Is.f a n = some (pfxB a n) := by
  simp only [castellanref3_Is.f, castellanref3_Norm.f, hold_eq, Mask_eq, Option.bind_some, pfxB]
  congr 1
  rw [Bool.eq_iff_iff]
  simp only [Bool.and_eq_true, beq_iff_eq]
  constructor <;> rintro ⟨h1, h2⟩ <;> exact ⟨h1.symm, h2.symm⟩
theorem pfxB_zero : pfxB 0 0 = true := by decide +kernel
def adB (s : SideV) : Bool := if s.any then emptyB s.table && nonePfx s else if emptyB s.table then pfxB s.addr s.len else nameB s.table && nonePfx s
theorem adB_eq (s : SideV) : adB s = !sideBad s := by
  have hz : nonePfx s = true → pfxB s.addr s.len = true := by
    intro h
    simp only [nonePfx, Bool.and_eq_true, beq_iff_eq] at h
    rw [h.1, h.2]
    exact pfxB_zero
  unfold adB sideBad
  generalize pfxB s.addr s.len = p at *
  generalize nonePfx s = z at *
  generalize nameB s.table = n
  generalize emptyB s.table = e
  generalize s.any = a
  revert hz
  cases a <;> cases e <;> cases n <;> cases z <;> cases p <;> simp
theorem Side_j0 (k : Nat) (s : SideV) (b : Bool) (hs : s.table.size ≤ 9223372036854775807) (hk : s.table.size + 1 < k) :
    castellanref14_side.j0 k b s.any s.table s.addr s.len s.low s.high = some (!b && adB s) := by
  obtain ⟨k, rfl⟩ : ∃ m, k = m + 1 := ⟨k - 1, by omega⟩
  simp only [castellanref14_side.j0]
  cases b with
  | true => rfl
  | false =>
    rw [if_neg (by decide), Name_eq k _ hs (by omega), pIs_eq, adB, Option.bind_some, Option.bind_some]
    have he : emptyB s.table = decide (s.table.toList = []) := by
      unfold emptyB
      rw [Bool.eq_iff_iff]
      simp
    rw [he]
    by_cases h : s.table.toList = []
    · cases s.any <;> simp [h, nonePfx]
    · cases s.any <;> simp [h, nonePfx]
      cases nameB s.table <;> simp
theorem Side_eq (k : Nat) (s : SideV) (proto : Int) (hs : s.table.size ≤ 9223372036854775807) (hk : s.table.size + 1 < k) :
    castellanref14_side.f k s.any s.table s.addr s.len s.low s.high (portedB proto) = some (sideB s proto) := by
  unfold castellanref14_side.f
  rw [Side_j0 k s true hs hk, Side_j0 k s false hs hk, sideB, ← adB_eq, portsB]
  have ha : castellanref14_all.f s.low s.high = some (allPorts s) := by
    unfold castellanref14_all.f allPorts
    by_cases h : s.low = 0
    · rw [if_pos h, h]; simp
    · rw [if_neg h]; simp [h]
  rw [ha, Option.bind_some, Side_j0 k s _ hs hk]
  by_cases h1 : s.low < 0
  · rw [if_pos h1, decide_eq_false (show ¬ 0 ≤ s.low by omega)]; simp
  · rw [if_neg h1, decide_eq_true (show 0 ≤ s.low by omega)]
    by_cases h2 : s.high > 65535
    · rw [if_pos h2, decide_eq_false (show ¬ s.high ≤ 65535 by omega)]; simp
    · rw [if_neg h2, decide_eq_true (show s.high ≤ 65535 by omega)]
      by_cases h3 : s.low > s.high
      · rw [if_pos h3, decide_eq_false (show ¬ s.low ≤ s.high by omega)]; simp
      · rw [if_neg h3, decide_eq_true (show s.low ≤ s.high by omega)]
        cases portedB proto <;> cases allPorts s <;> simp
theorem rsideB_calls (s : SideV) (proto : Int) (w : World) (hs : s.table.size ≤ 9223372036854775807) :
    Calls Tryz.prog 50 #[s.val, .bool (portedB proto)] w fun e w' => e = .returned (.bool (sideB s proto)) ∧ Grows w w' :=
  castellanref14_side.calls (s.table.size + 2) s.any s.table s.addr s.len s.low s.high _ _ w (Side_eq _ s proto hs (by omega))
end Go.Proofs.YtomkohdlaednhaaGreatDoor
