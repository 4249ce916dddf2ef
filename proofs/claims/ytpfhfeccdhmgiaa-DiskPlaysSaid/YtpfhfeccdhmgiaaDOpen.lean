/- What is proved here: lemmas and contracts on the way to this seat's laws, part 'DOpen'; no condition. -/
import Derived.Test.YtpfhfeccdhmgiaaDLaw0
import Derived.Deep.Slices
import Derived.Deep.Fields
import Derived.ChangeSame
import Derived.ChangeSlices
import Derived.RowKit
/- The argument of the law of disks, opened: a row of calls. -/
namespace Go.Proofs.Ytpfhfeccdhmgiaa
open Go.RowKit Go.ChangeShapes Go.WideShapes

section
variable {H : Type} {enc : TypeId × Value → H} {W : World}

theorem cellsU8 : Try.prog.cellsOf 5 = 1 := by kernel_rfl
theorem cellsInt : Try.prog.cellsOf 3 = 1 := by kernel_rfl
theorem cellsBytes : Try.prog.cellsOf 37 = 1 := by kernel_rfl
theorem cellsOp : Try.prog.cellsOf 39 = 6 := by kernel_rfl

theorem wf_i64 {z : Int} (h : (Lit.int .i64 z).wf = true) : -9223372036854775808 ≤ z ∧ z ≤ 9223372036854775807 := by
  have e1 : IntKind.i64.min = -9223372036854775808 := rfl
  have e2 : IntKind.i64.max = 9223372036854775807 := rfl
  simpa [Lit.wf, e1, e2] using h

theorem wf_u8 {z : Int} (h : (Lit.int .u8 z).wf = true) : 0 ≤ z ∧ z ≤ 255 := by
  have e1 : IntKind.u8.min = 0 := rfl
  have e2 : IntKind.u8.max = 255 := rfl
  simpa [Lit.wf, e1, e2] using h

theorem u8_of {z : Int} (h : 0 ≤ z ∧ z ≤ 255) : ((UInt8.ofNat z.toNat).toNat : Int) = z := by
  rw [UInt8.toNat_ofNat']; omega

/-- A byte slice that came in reads as bytes. -/
theorem bytes_open {base fuel : Nat} {v : Value} {x : DataW H × List MemPlace} (h : DataW.trod enc Try.prog W base (fun _ => true) true fuel 37 [v] = some x) :
    ∃ bo bc, ∃ b : List UInt8, v = .slice bo b.length bc ∧ RB W bo b := by
  rcases open_ints Try.underlying37 Try.underlying5 cellsU8 h with ⟨hcs, _⟩ | ⟨a, len, cap, zs, hcs, _, hl, _, hz, _, hcell, hwz⟩
  · simp at hcs
    subst hcs
    exact ⟨none, 0, [], rfl, fun _ => rfl, fun ad e => (by cases e)⟩
  · simp at hcs
    subst hcs
    simp only [if_true] at hz
    refine ⟨some a, cap, (zs.take len).map fun z => UInt8.ofNat z.toNat, ?_, fun e => (by cases e), fun ad e j u hu => ?_⟩
    · rw [List.length_map, List.length_take, hz, Nat.min_eq_left hl]
    · cases e
      rw [List.map_map, List.getElem?_map, Option.map_eq_some_iff] at hu
      obtain ⟨z, hzj, rfl⟩ := hu
      rw [List.getElem?_take] at hzj
      split at hzj
      · obtain ⟨hj, hzz⟩ := List.getElem?_eq_some_iff.1 hzj
        rw [hcell j hj]
        have hw := wf_u8 (hwz z (hzz ▸ List.getElem_mem hj))
        show _ = some (Value.int .u8 ((UInt8.ofNat z.toNat).toNat : Int))
        rw [u8_of hw]
        simp [List.getD, hj, hzz]
      · cases hzj

set_option maxRecDepth 100000 in
theorem ops_open {r : Reach} {base : Nat} {v : Value} {d : DataW H} {p : List MemPlace} (hval : Value.okWide Try.prog W r base 22 v) (h : DataW.Trod enc Try.prog W 0 (fun _ => true) true 22 v d p) :
    ∃ ao cap, ∃ l : List OpM, v = .slice ao l.length cap ∧ OpsAt W ao l ∧ ∀ o ∈ l, o.n ≤ 9223372036854775807 := by
  obtain ⟨a0, len, cap, rfl⟩ := okWide_slice Try.underlying22 hval
  obtain ⟨fuel, hf⟩ := h
  rcases Go.Deep.open_slice Try.underlying22 hf with ⟨hcs, _⟩ | ⟨a, len', cap', m, n, D, Pl, hcs, hb, hl, hm, hmm, _, hel⟩
  · simp [Value.cells] at hcs
    obtain ⟨rfl, rfl, rfl⟩ := hcs
    exact ⟨none, 0, [], rfl, fun h => absurd rfl h, by simp⟩
  · simp [Value.cells] at hcs
    obtain ⟨rfl, rfl, rfl⟩ := hcs
    simp only [if_true] at hmm
    have each : ∀ i, i < len → ∃ o : OpM, o.n ≤ 9223372036854775807 ∧ ∃ bo bc, W.cell? (a.add (i * 6 + 0)) = some (.int .i64 o.kind) ∧ W.cell? (a.add (i * 6 + 1)) = some (.int .i64 o.slot) ∧ W.cell? (a.add (i * 6 + 2)) = some (.int .i64 o.at_) ∧
        W.cell? (a.add (i * 6 + 3)) = some (.int .i64 o.n) ∧ W.cell? (a.add (i * 6 + 4)) = some (.int .u8 o.fill.toNat) ∧ W.cell? (a.add (i * 6 + 5)) = some (.slice bo o.b.length bc) ∧ RB W bo o.b := by
      intro i hi
      obtain ⟨cs', h1, h2⟩ := hel i (by omega)
      rw [cellsOp] at h1
      obtain ⟨_, hlen, hcell⟩ := World.cells?_some h1
      obtain ⟨xs, n', _, _, _, hxl, hfd⟩ := DataW.trod_struct Try.underlying39 h2
      match cs', hlen, xs, hxl with
      | [v0, v1, v2, v3, v4, v5], _, [x0, x1, x2, x3, x4, x5], _ =>
        have g0 := hfd 0 _ rfl
        have g1 := hfd 1 _ rfl
        have g2 := hfd 2 _ rfl
        have g3 := hfd 3 _ rfl
        have g4 := hfd 4 _ rfl
        have g5 := hfd 5 _ rfl
        simp only [cellsInt, cellsU8, cellsBytes, List.drop_zero, List.drop_succ_cons, List.take_succ_cons, List.take_zero, List.getElem?_cons_zero, List.getElem?_cons_succ] at g0 g1 g2 g3 g4 g5
        obtain ⟨z0, e0, _, _⟩ := DataW.trod_int Try.underlying3 g0
        obtain ⟨z1, e1, _, _⟩ := DataW.trod_int Try.underlying3 g1
        obtain ⟨z2, e2, _, _⟩ := DataW.trod_int Try.underlying3 g2
        obtain ⟨z3, e3, _, w3⟩ := DataW.trod_int Try.underlying3 g3
        obtain ⟨z4, e4, _, w4⟩ := DataW.trod_int Try.underlying5 g4
        obtain ⟨bo, bc, b, e5, hrb⟩ := bytes_open g5
        cases e0; cases e1; cases e2; cases e3; cases e4; cases e5
        have c : ∀ j, j < 6 → W.cell? (a.add (i * 6 + j)) = [Value.int .i64 z0, .int .i64 z1, .int .i64 z2, .int .i64 z3, .int .u8 z4, .slice bo b.length bc][j]? := fun j hj => by
          rw [← hcell j hj, Go.Deep.add_add]
        refine ⟨⟨z0, z1, z2, z3, UInt8.ofNat z4.toNat, b⟩, (wf_i64 w3).2, bo, bc, c 0 (by omega), c 1 (by omega), c 2 (by omega), c 3 (by omega), ?_, c 5 (by omega), hrb⟩
        rw [c 4 (by omega)]
        dsimp only
        rw [u8_of (wf_u8 w4)]
        rfl
    haveI : Inhabited OpM := ⟨⟨0, 0, 0, 0, 0, []⟩⟩
    obtain ⟨f, hf⟩ := Go.Deep.choose_lt each
    refine ⟨some a, cap, (List.range len).map f, by simp, fun hne => ?_, ?_⟩
    · obtain ⟨b, off, spot⟩ := a
      have hpos : 0 < len := by
        rcases Nat.eq_zero_or_pos len with h | h
        · subst h; simp at hne
        · exact h
      obtain ⟨_, bo, bc, k0, _⟩ := hf 0 hpos
      have hspot : spot = none := by simpa [Addr.add] using World.cell?_spot k0
      subst hspot
      refine ⟨b, off, rfl, fun i hi => ?_⟩
      have hi' : i < len := by simpa using hi
      obtain ⟨_, bo, bc, k0, k1, k2, k3, k4, k5, k6⟩ := hf i hi'
      have e : ((List.range len).map f)[i] = f i := by simp
      rw [e]
      simp only [add_plain] at k0 k1 k2 k3 k4 k5
      exact ⟨bo, bc, k0, k1, k2, k3, k4, k5, k6⟩
    · intro o ho
      obtain ⟨i, hi, rfl⟩ := List.mem_map.1 ho
      exact (hf i (List.mem_range.1 hi)).1
end

end Go.Proofs.Ytpfhfeccdhmgiaa
