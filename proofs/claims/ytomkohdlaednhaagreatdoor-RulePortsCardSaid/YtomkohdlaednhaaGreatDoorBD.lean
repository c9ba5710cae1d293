import Derived.Test.YtomkohdlaednhaaGreatDoorBA
set_option linter.unusedSimpArgs false
set_option linter.unusedVariables false
namespace Go.Proofs.YtomkohdlaednhaaGreatDoor
open Go.RowKit Go.Proofs.YtomkohdlaednhaaGreatDoorW.PrintWords PConfParses

/-! ### a rule that is read has small strings -/
def Sm (s : ByteArray) : Prop := s.size < 4294967281
def SmL (l : List ByteArray) : Prop := ∀ x ∈ l, Sm x
structure SmS (s : St) : Prop where
  l : SmL s.l
  on : Sm s.V.on
  src : Sm s.V.src.table
  dst : Sm s.V.dst.table
  route : Sm s.V.route.iface
  reply : Sm s.V.reply.iface
theorem Sm.nil : Sm ⟨#[]⟩ := (by decide : (0 : Nat) < 4294967281)
theorem SmL.tail {l : List ByteArray} (h : SmL l) : SmL l.tail := fun x hx => h x (List.mem_of_mem_tail hx)
theorem SmL.next {l : List ByteArray} (h : SmL l) : Sm (nextS l) := by
  cases l with
  | nil => exact Sm.nil
  | cons x l => exact h x (by simp)
theorem SmL.takes {l : List ByteArray} (h : SmL l) (b : Bool) (x : ByteArray) : SmL (takesL l b x) := by
  unfold takesL; split
  · exact h.tail
  · exact h
theorem rhead_small (s : ByteArray) (b : Bool) (h : Sm s) : Sm (rheadR s b).1.table := by
  unfold rheadR
  split
  · exact Sm.nil
  · split
    · have : (s.extract 1 (s.size - 1)).size ≤ s.size := by rw [ByteArray.size_extract]; omega
      exact Nat.lt_of_le_of_lt this h
    · exact Sm.nil
theorem rports_small (l : List ByteArray) (b : Bool) (h : SmL l) : SmL (rportsR l b).2.2.1 := by
  unfold rportsR
  split
  · split
    · intro x hx; simp at hx
    · exact h.tail.tail
    · exact h.tail.tail
  · exact h
theorem end_small (l : List ByteArray) (b : Bool) (h : SmL l) : Sm (endR l b).1.table ∧ SmL (endR l b).2.1 :=
  ⟨rhead_small _ _ h.next, rports_small _ _ h.tail⟩
theorem sm1 {s : St} (h : SmS s) : SmS (ref1 s) := ⟨h.l.tail, h.on, h.src, h.dst, h.route, h.reply⟩
theorem sm3 {s : St} (h : SmS s) : SmS (ref3 s) := ⟨h.l.takes _ _, h.on, h.src, h.dst, h.route, h.reply⟩
theorem sm4 {s : St} (h : SmS s) : SmS (ref4 s) := ⟨h.l.takes _ _, h.on, h.src, h.dst, h.route, h.reply⟩
theorem sm5 {s : St} (h : SmS s) : SmS (ref5 s) := by
  unfold ref5; split
  · exact ⟨h.l.tail.tail, h.l.tail.next, h.src, h.dst, h.route, h.reply⟩
  · exact h
theorem sm6 {s : St} (h : SmS s) : SmS (ref6 s) := by
  unfold ref6; split
  · exact ⟨h.l.tail.tail, h.on, h.src, h.dst, h.route, h.reply⟩
  · exact h
theorem sm7 {s : St} (h : SmS s) : SmS (ref7 s) := ⟨h.l.takes _ _, h.on, h.src, h.dst, h.route, h.reply⟩
theorem sm8 {s : St} (h : SmS s) : SmS (ref8 s) := ⟨(end_small _ _ h.l).2, h.on, (end_small _ _ h.l).1, h.dst, h.route, h.reply⟩
theorem sm9 {s : St} (h : SmS s) : SmS (ref9 s) := ⟨h.l.takes _ _, h.on, h.src, h.dst, h.route, h.reply⟩
theorem sm10 {s : St} (h : SmS s) : SmS (ref10 s) := ⟨(end_small _ _ h.l).2, h.on, h.src, (end_small _ _ h.l).1, h.route, h.reply⟩
theorem sm11 {s : St} (h : SmS s) : SmS (ref11 s) := by
  unfold ref11; split
  · exact ⟨h.l.tail.tail, h.on, h.src, h.dst, h.route, h.reply⟩
  · exact h
theorem sm12 {s : St} (h : SmS s) : SmS (ref12 s) := by
  unfold ref12; split
  · exact ⟨h.l.tail.tail, h.on, h.src, h.dst, h.route, h.reply⟩
  · exact h
theorem sm13 {s : St} (h : SmS s) : SmS (ref13 s) := ⟨h.l.takes _ _, h.on, h.src, h.dst, h.route, h.reply⟩
theorem sm14 {s : St} (h : SmS s) : SmS (ref14 s) := by
  unfold ref14; split
  · exact ⟨h.l.tail.tail.tail, h.on, h.src, h.dst, h.l.tail.next, h.reply⟩
  · exact h
theorem sm15 {s : St} (h : SmS s) : SmS (ref15 s) := by
  unfold ref15; split
  · exact ⟨h.l.tail.tail.tail, h.on, h.src, h.dst, h.route, h.l.tail.next⟩
  · exact h
theorem sm16 {s : St} (h : SmS s) : SmS (ref16 s) := by
  unfold ref16; split
  · exact ⟨h.l.tail.tail, h.on, h.src, h.dst, h.route, h.reply⟩
  · exact h
theorem rparse_small (l : List ByteArray) (h : SmL l) : Small (rparseR l).V := by
  have h0 : SmS ⟨zRef, l, false⟩ := ⟨h, Sm.nil, Sm.nil, Sm.nil, Sm.nil, Sm.nil⟩
  have := sm16 (sm15 (sm14 (sm13 (sm12 (sm11 (sm10 (sm9 (sm8 (sm7 (sm6 (sm5 (sm4 (sm3 (sm1 h0))))))))))))))
  have hl : ∀ x, Sm x → x.size ≤ 9223372036854775807 := fun x hx => Nat.le_of_lt (Nat.lt_trans hx (by decide))
  exact ⟨hl _ this.on, hl _ this.src, hl _ this.dst, hl _ this.route, hl _ this.reply⟩
end Go.Proofs.YtomkohdlaednhaaGreatDoor
