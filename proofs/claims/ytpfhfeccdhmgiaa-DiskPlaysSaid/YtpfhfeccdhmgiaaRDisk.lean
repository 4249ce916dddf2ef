/- What is proved here: lemmas and contracts on the way to this seat's laws, part 'RDisk'; no condition. -/
import Derived.Test.YtpfhfeccdhmgiaaStr
import Derived.Test.YtpfhfeccdhmgiaaDisk7
namespace Go.Proofs.Ytpfhfeccdhmgiaa
open Go.RowKit

variable {E : Env} {w : World} {R : List HP}

/-! ### The document's Fuse -/
def RFuseP (p : Option Addr) (f : FuseM) : HP := fun h => (p = none ∧ f.bound = false) ∨
  ∃ b, (p = some ⟨b, 0, none⟩ ∧ 0 ≤ f.left ∧ f.left ≤ 9223372036854775807) ∧ PT b [.bool (!f.bound), .int .i64 f.left] 53 h

theorem RFuseP.cases {p : Option Addr} {f : FuseM} (hS : Sat E w (RFuseP p f :: R)) : (p = none ∧ f.bound = false) ∨
    ∃ b, p = some ⟨b, 0, none⟩ ∧ 0 ≤ f.left ∧ f.left ≤ 9223372036854775807 ∧ Sat E w (PT b [.bool (!f.bound), .int .i64 f.left] 53 :: R) := by
  rcases Sat.or hS with h | h
  · exact .inl h.fact
  · obtain ⟨b, h⟩ := h.ex
    obtain ⟨⟨h1, h2, h3⟩, h⟩ := h.pure
    exact .inr ⟨b, h1, h2, h3, h⟩

theorem RFuseP.get {b : Nat} {f : FuseM} (hS : Sat E w (RFuseP (some ⟨b, 0, none⟩) f :: R)) : 0 ≤ f.left ∧ f.left ≤ 9223372036854775807 ∧ Sat E w (PT b [.bool (!f.bound), .int .i64 f.left] 53 :: R) := by
  rcases RFuseP.cases hS with ⟨h, _⟩ | ⟨b', h, h1, h2, h3⟩
  · cases h
  · cases h; exact ⟨h1, h2, h3⟩

theorem RFuseP.mk {b : Nat} {k : Int} {bd : Bool} (h0 : 0 ≤ k) (h1 : k ≤ 9223372036854775807) (hS : Sat E w (PT b [.bool (!bd), .int .i64 k] 53 :: R)) : Sat E w (RFuseP (some ⟨b, 0, none⟩) ⟨k, bd⟩ :: R) :=
  hS.imp fun _ h => .inr ⟨b, ⟨rfl, h0, h1⟩, h⟩

set_option maxHeartbeats 400000 in
theorem RNewFuse_ok (k : Int) (h1 : k ≤ 9223372036854775807) (hS : Sat E w R) :
    Calls Try.prog 14 #[.int .i64 k] w fun e w' => ∃ b, e = .returned (.pointer (some ⟨b, 0, none⟩)) ∧ Sat E w' (RFuseP (some ⟨b, 0, none⟩) (.mk' k) :: R) := by
  have key : Calls Try.prog 14 #[.int .i64 k] w fun e w' => e = .returned (.pointer (some ⟨w.heap.size, 0, none⟩)) ∧ w' = w.alloc (.cells #[.bool (decide (k < 1)), .int .i64 (max k 0)] 53) := by
    by_cases h : 0 ≤ k
    · have e : max k 0 = k := by omega
      rw [e]
      clear e
      go_enter Try.func14, Try.ntmps14
      go_wp2
      go_ret
      exact ⟨rfl, rfl⟩
    · have e : max k 0 = 0 := by omega
      rw [e]
      clear e
      go_enter Try.func14, Try.ntmps14
      go_wp2
      go_ret
      exact ⟨rfl, by rw [decide_eq_true (show k < 1 by omega)]⟩
  refine key.mono ?_
  rintro e w' ⟨rfl, rfl⟩
  have h := hS.alloc [.bool (decide (k < 1)), .int .i64 (max k 0)] 53
  rw [show decide (k < 1) = !decide (1 ≤ k) by by_cases h : 1 ≤ k <;> simp [h] <;> omega] at h
  exact ⟨w.heap.size, rfl, by
    rw [show decide (k < 1) = !decide (1 ≤ k) by by_cases h : 1 ≤ k <;> simp [h] <;> omega]
    exact RFuseP.mk (by omega) (by omega) h⟩

set_option maxHeartbeats 400000 in
theorem RDead_ok (b : Nat) (f : FuseM) (hS : Sat E w (RFuseP (some ⟨b, 0, none⟩) f :: R)) :
    Calls Try.prog 36 #[.pointer (some ⟨b, 0, none⟩)] w fun e w' => e = .returned (.bool f.dead) ∧ w = w' := by
  obtain ⟨k, bd⟩ := f
  obtain ⟨p0, p1, hS⟩ := RFuseP.get hS
  have c0 := hS.cell 0
  have c1 := hS.cell 1
  simp at c0 c1
  cases bd with
  | false =>
    simp at c0
    go_enter Try.func36, Try.ntmps36
    go_wp2
    go_ret
    exact ⟨rfl, rfl⟩
  | true =>
    simp at c0
    go_enter Try.func36, Try.ntmps36
    go_wp2
    go_ret
    exact ⟨rfl, rfl⟩

set_option maxHeartbeats 400000 in
theorem RSpend_ok (b : Nat) (f : FuseM) (hS : Sat E w (RFuseP (some ⟨b, 0, none⟩) f :: R)) :
    Calls Try.prog 103 #[.pointer (some ⟨b, 0, none⟩)] w fun e w' => e = .returned (.bool (!f.dead)) ∧ Sat E w' (RFuseP (some ⟨b, 0, none⟩) f.spend :: R) := by
  obtain ⟨k, bd⟩ := f
  obtain ⟨p0, p1, hS'⟩ := RFuseP.get hS
  have c0 := hS'.cell 0
  have c1 := hS'.cell 1
  have f1 := hS'.free 1
  simp at c0 c1
  dsimp only at p0 p1
  cases bd with
  | false =>
    simp at c0
    have key : Calls Try.prog 103 #[.pointer (some ⟨b, 0, none⟩)] w fun e w' => e = .returned (.bool true) ∧ w = w' := by
      go_enter Try.func103, Try.ntmps103
      go_wp2
      go_ret
      exact ⟨rfl, rfl⟩
    refine key.mono ?_
    rintro e w' ⟨rfl, rfl⟩
    exact ⟨rfl, hS⟩
  | true =>
    simp at c0
    by_cases hk : k = 0
    · subst hk
      have key : Calls Try.prog 103 #[.pointer (some ⟨b, 0, none⟩)] w fun e w' => e = .returned (.bool false) ∧ w = w' := by
        go_enter Try.func103, Try.ntmps103
        go_wp2
        go_ret
        exact ⟨rfl, rfl⟩
      refine key.mono ?_
      rintro e w' ⟨rfl, rfl⟩
      exact ⟨rfl, hS⟩
    · have hkb : (k == 0) = false := by simpa using hk
      have key : Calls Try.prog 103 #[.pointer (some ⟨b, 0, none⟩)] w fun e w' => e = .returned (.bool true) ∧ w' = w.setCell ⟨b, 1, none⟩ (.int .i64 (k - 1)) := by
        have hk1 : 1 ≤ k := by omega
        go_enter Try.func103, Try.ntmps103
        go_wp2
        go_ret
        exact ⟨rfl, rfl⟩
      refine key.mono ?_
      rintro e w' ⟨rfl, rfl⟩
      refine ⟨by simp [FuseM.dead, hkb], ?_⟩
      simp only [FuseM.spend, hkb, Bool.not_false, Bool.and_self, if_true]
      exact RFuseP.mk (by omega) (by omega) (hS'.store 1 _)

theorem Blank_ok (hS : Sat E w R) : Calls Try.prog 98 #[] w fun e w' => e = .returned (SV zeros) ∧ Sat E w' R := by
  have hmk := mk96
  have hS1 := hS.alloc (zeros.map BV) 5
  have hb := BytesP.fresh (by unfold maxLen; rw [zeros_len]; omega) hS1
  have hc := run_string_of (P := Try.prog) 37 9 Try.underlying37 Try.underlying5 Try.underlying9 (some ⟨w.heap.size, 0, none⟩) 96 zeros (RB.ofBytes hb)
  rw [zeros_len] at hc
  go_enter Try.func98, Try.ntmps98
  go_wp2
  go_ret
  exact ⟨rfl, hS1.weak⟩

end Go.Proofs.Ytpfhfeccdhmgiaa
