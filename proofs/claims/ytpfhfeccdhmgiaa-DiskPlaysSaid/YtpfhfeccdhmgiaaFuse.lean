/- What is proved here: lemmas and contracts on the way to this seat's laws, part 'Fuse'; no condition. -/
import Derived.Test.YtpfhfeccdhmgiaaBase
namespace Go.Proofs.Ytpfhfeccdhmgiaa
open Go.RowKit

/-- disk.Fuse -/
structure FuseM where
  left : Int
  bound : Bool

def FuseM.dead (f : FuseM) : Bool := f.bound && f.left == 0
def FuseM.spend (f : FuseM) : FuseM := if f.bound && !(f.left == 0) then ⟨f.left - 1, f.bound⟩ else f
def FuseM.mk' (k : Int) : FuseM := ⟨max k 0, decide (1 ≤ k)⟩

def FuseP (p : Option Addr) (f : FuseM) : HP := fun h => (p = none ∧ f.bound = false) ∨
  ∃ b, (p = some ⟨b, 0, none⟩ ∧ 0 ≤ f.left ∧ f.left ≤ 9223372036854775807) ∧ PT b [.int .i64 f.left, .bool f.bound] 147 h

variable {E : Env} {w : World} {R : List HP}

theorem Sat.or {A A' : HP} {l : List HP} (hS : Sat E w ((fun k => A k ∨ A' k) :: l)) : Sat E w (A :: l) ∨ Sat E w (A' :: l) := by
  obtain ⟨ps, h1, h2, h3⟩ := hS.all
  rcases h1 0 _ rfl with h | h
  · refine .inl ⟨hS.os, hS.tape, hS.output, ps, ?_, h2, h3⟩
    intro i B hB
    cases i with
    | zero => simp at hB; subst hB; exact h
    | succ i => exact h1 (i + 1) B (by simpa using hB)
  · refine .inr ⟨hS.os, hS.tape, hS.output, ps, ?_, h2, h3⟩
    intro i B hB
    cases i with
    | zero => simp at hB; subst hB; exact h
    | succ i => exact h1 (i + 1) B (by simpa using hB)

theorem Sat.fact {p : Prop} (hS : Sat E w ((fun _ => p) :: R)) : p := by
  obtain ⟨ps, h1, _⟩ := hS.all
  exact h1 0 _ rfl

theorem FuseP.cases {p : Option Addr} {f : FuseM} (hS : Sat E w (FuseP p f :: R)) : (p = none ∧ f.bound = false) ∨
    ∃ b, p = some ⟨b, 0, none⟩ ∧ 0 ≤ f.left ∧ f.left ≤ 9223372036854775807 ∧ Sat E w (PT b [.int .i64 f.left, .bool f.bound] 147 :: R) := by
  rcases Sat.or hS with h | h
  · exact .inl h.fact
  · obtain ⟨b, h⟩ := h.ex
    obtain ⟨⟨h1, h2, h3⟩, h⟩ := h.pure
    exact .inr ⟨b, h1, h2, h3, h⟩

theorem FuseP.mk {b : Nat} {k : Int} {bd : Bool} (h0 : 0 ≤ k) (h1 : k ≤ 9223372036854775807) (hS : Sat E w (PT b [.int .i64 k, .bool bd] 147 :: R)) : Sat E w (FuseP (some ⟨b, 0, none⟩) ⟨k, bd⟩ :: R) :=
  hS.imp fun _ h => .inr ⟨b, ⟨rfl, h0, h1⟩, h⟩

set_option maxHeartbeats 400000 in
theorem NewFuse_ok (k : Int) (h1 : k ≤ 9223372036854775807) (hS : Sat E w R) :
    Calls Try.prog 13 #[.int .i64 k] w fun e w' => ∃ b, e = .returned (.pointer (some ⟨b, 0, none⟩)) ∧ Sat E w' (FuseP (some ⟨b, 0, none⟩) (.mk' k) :: R) := by
  have key : Calls Try.prog 13 #[.int .i64 k] w fun e w' => e = .returned (.pointer (some ⟨w.heap.size, 0, none⟩)) ∧ w' = w.alloc (.cells #[.int .i64 (max k 0), .bool (decide (1 ≤ k))] 147) := by
    by_cases h : 0 ≤ k
    · have e : max k 0 = k := by omega
      rw [e]
      clear e
      go_enter Try.func13, Try.ntmps13
      go_wp2
      go_ret
      exact ⟨rfl, rfl⟩
    · have e : max k 0 = 0 := by omega
      rw [e]
      clear e
      go_enter Try.func13, Try.ntmps13
      go_wp2
      go_ret
      exact ⟨rfl, rfl⟩
  refine key.mono ?_
  rintro e w' ⟨rfl, rfl⟩
  exact ⟨w.heap.size, rfl, FuseP.mk (by omega) (by omega) (hS.alloc _ _)⟩

set_option maxHeartbeats 400000 in
theorem Dead_ok (p : Option Addr) (f : FuseM) (hS : Sat E w (FuseP p f :: R)) :
    Calls Try.prog 35 #[.pointer p] w fun e w' => e = .returned (.bool f.dead) ∧ w = w' := by
  obtain ⟨k, bd⟩ := f
  rcases FuseP.cases hS with ⟨rfl, hb⟩ | ⟨b, rfl, p0, p1, hS⟩
  · dsimp only at hb
    subst hb
    go_enter Try.func35, Try.ntmps35
    go_wp2
    go_ret
    exact ⟨rfl, rfl⟩
  · have c0 := hS.cell 0
    have c1 := hS.cell 1
    simp at c0 c1
    cases bd with
    | false =>
      go_enter Try.func35, Try.ntmps35
      go_wp2
      go_ret
      exact ⟨rfl, rfl⟩
    | true =>
      go_enter Try.func35, Try.ntmps35
      go_wp2
      go_ret
      exact ⟨rfl, rfl⟩

set_option maxHeartbeats 400000 in
theorem Spend_ok (p : Option Addr) (f : FuseM) (hS : Sat E w (FuseP p f :: R)) :
    Calls Try.prog 100 #[.pointer p] w fun e w' => e = .returned (.bool (!f.dead)) ∧ Sat E w' (FuseP p f.spend :: R) := by
  have hD := Dead_ok p f hS
  obtain ⟨k, bd⟩ := f
  rcases FuseP.cases hS with ⟨rfl, hb⟩ | ⟨b, rfl, p0, p1, hS'⟩
  · dsimp only at hb
    subst hb
    change Calls Try.prog 35 #[.pointer none] w (fun e w' => e = .returned (.bool false) ∧ w = w') at hD
    have key : Calls Try.prog 100 #[.pointer none] w fun e w' => e = .returned (.bool true) ∧ w = w' := by
      go_enter Try.func100, Try.ntmps100
      go_wp2_with (go_at_call 35; refine hD.mono ?_; rintro e w' ⟨rfl, rfl⟩)
      go_ret
      exact ⟨rfl, rfl⟩
    refine key.mono ?_
    rintro e w' ⟨rfl, rfl⟩
    exact ⟨rfl, hS⟩
  · have c0 := hS'.cell 0
    have c1 := hS'.cell 1
    have f0 := hS'.free 0
    simp at c0 c1
    dsimp only at p0 p1
    cases bd with
    | false =>
      have key : Calls Try.prog 100 #[.pointer (some ⟨b, 0, none⟩)] w fun e w' => e = .returned (.bool true) ∧ w = w' := by
        change Calls Try.prog 35 _ w (fun e w' => e = .returned (.bool false) ∧ w = w') at hD
        go_enter Try.func100, Try.ntmps100
        go_wp2_with (go_at_call 35; refine hD.mono ?_; rintro e w' ⟨rfl, rfl⟩)
        go_ret
        exact ⟨rfl, rfl⟩
      refine key.mono ?_
      rintro e w' ⟨rfl, rfl⟩
      exact ⟨rfl, hS⟩
    | true =>
      by_cases hk : k = 0
      · subst hk
        change Calls Try.prog 35 _ w (fun e w' => e = .returned (.bool true) ∧ w = w') at hD
        have key : Calls Try.prog 100 #[.pointer (some ⟨b, 0, none⟩)] w fun e w' => e = .returned (.bool false) ∧ w = w' := by
          go_enter Try.func100, Try.ntmps100
          go_wp2_with (go_at_call 35; refine hD.mono ?_; rintro e w' ⟨rfl, rfl⟩)
          go_ret
          exact ⟨rfl, rfl⟩
        refine key.mono ?_
        rintro e w' ⟨rfl, rfl⟩
        exact ⟨rfl, hS⟩
      · have hkb : (k == 0) = false := by simpa using hk
        have hD' : Calls Try.prog 35 #[.pointer (some ⟨b, 0, none⟩)] w (fun e w' => e = .returned (.bool false) ∧ w = w') := by simpa [FuseM.dead, hkb] using hD
        clear hD hkb
        have key : Calls Try.prog 100 #[.pointer (some ⟨b, 0, none⟩)] w fun e w' => e = .returned (.bool true) ∧ w' = w.setCell ⟨b, 0, none⟩ (.int .i64 (k - 1)) := by
          have hk1 : 1 ≤ k := by omega
          go_enter Try.func100, Try.ntmps100
          go_wp2_with (go_at_call 35; refine hD'.mono ?_; rintro e w' ⟨rfl, rfl⟩)
          go_ret
          exact ⟨rfl, rfl⟩
        refine key.mono ?_
        rintro e w' ⟨rfl, rfl⟩
        have hkb : (k == 0) = false := by simpa using hk
        refine ⟨by simp [FuseM.dead, hkb], ?_⟩
        simp only [FuseM.spend, hkb, Bool.not_false, Bool.and_self, if_true]
        exact FuseP.mk (by omega) (by omega) (hS'.store 0 _)

end Go.Proofs.Ytpfhfeccdhmgiaa
