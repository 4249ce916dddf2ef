/- What is proved here: lemmas and contracts on the way to this seat's laws, part 'Back'; no condition. -/
import Derived.RangeFuncNested
import Derived.RangeFuncBox
import Derived.RangeFuncLeaves
import Derived.RangeFuncFrom
import Derived.Shelf.Abstract
import Derived.OwnWalkIn
import Derived.TacticsInMore
import Derived.LoopNIn
import Derived.LoopIn
import Derived.Test.YtpfhfeccdhmgiaaRows1
namespace Go.Proofs.Ytpfhfeccdhmgiaa
open Go.RowKit Go.Shelf

attribute [local go_sem] Oper.semAt_some

/-- What slices.Backward hands a round: the index; the slot; the bytes. -/
structure WR where
  i : Nat
  s : Nat
  g : Nat
  c : Nat

def WR.val (x : WR) : Value := .slice (some ⟨x.g, 0, none⟩) 96 x.c
def wrEnc (x : WR) : Array Value := #[.int .i64 (x.i : Int), .agg #[.int .i64 (x.s : Int), .slice (some ⟨x.g, 0, none⟩) 96 x.c]]

/-- What has come when k rounds are over, of zs read from its end. -/
def backTo (zs : List WR) (k : Nat) : List WR := (List.range k).map fun j => zs[zs.length - 1 - j]?.getD ⟨0, 0, 0, 0⟩

theorem backTo_succ (zs : List WR) (k : Nat) : backTo zs (k + 1) = backTo zs k ++ [zs[zs.length - 1 - k]?.getD ⟨0, 0, 0, 0⟩] := by simp [backTo, List.range_succ]
theorem backTo_length (zs : List WR) (k : Nat) : (backTo zs k).length = k := by simp [backTo]
theorem backTo_take (zs : List WR) {k : Nat} (hk : k ≤ zs.length) : backTo zs k = zs.reverse.take k := by
  apply List.ext_getElem
  · simp [backTo, hk]
  · intro i h1 h2
    have : i < k := by simpa [backTo] using h1
    have h3 : zs.length - 1 - i < zs.length := by omega
    simp [backTo, h3]

set_option maxRecDepth 100000 in
set_option maxHeartbeats 2000000 in
/-- slices.Backward's closure. -/
theorem back1_in (F : Fence) (n : Nat) (h7 : F.fn 179) (hro : F.round = none) (hn : 1 ≤ n) (l Bs n₀ b cap : Nat) (zs : List WR) (hreach : zs.length ≤ 4398046511104) (hb : b < n₀) (hz : ∀ j (h : j < zs.length), zs[j].i = j) (J Jx : List WR → World → Prop)
    (hY : ∀ pre x W, J pre W → pre.length < zs.length → YieldAt F (n - 1) Try.prog l (wrEnc x) W fun e W' =>
      (e = .returned (.bool true) ∧ J (pre ++ [x]) W' ∧ Below n₀ W W') ∨ (e = .returned (.bool false) ∧ Jx (pre ++ [x]) W'))
    (W : World) (hbs : Bs < W.heap.size) (hn0 : n₀ ≤ W.heap.size) (hBn : Bs < n₀) (hBs : W.cell? ⟨Bs, 0, none⟩ = some (.slice (some ⟨b, 0, none⟩) zs.length cap))
    (hc : ∀ j (h : j < zs.length), W.cell? ⟨b, j * 2, none⟩ = some (.int .i64 (zs[j].s : Int)) ∧ W.cell? ⟨b, j * 2 + 1, none⟩ = some (.slice (some ⟨zs[j].g, 0, none⟩) 96 zs[j].c)) (h0 : J [] W) :
    CallsIn F n Try.prog 179 #[.func (.yield l) #[] #[], .pointer (some ⟨Bs, 0, none⟩)] W fun e W' => (∃ v, e = .returned v) ∧
      ((∃ ys, ys = zs.reverse ∧ J ys W') ∨ (∃ pre, pre <+: zs.reverse ∧ Jx pre W')) := by
  refine callsIn_of_wp Try.func179 rfl h7 ?_ hro
  simp only [Try.ntmps179, List.size_toArray, List.length_cons, List.length_nil, Nat.reduceAdd, Nat.reduceSub, Array.replicate_succ, Array.replicate_zero, List.push_toArray, List.append_toArray, List.nil_append, List.cons_append]
  gi_wp2
  gi_loopw [3] (fun i wr => ∃ k : Nat, k ≤ zs.length ∧ i = .int .i64 ((zs.length : Int) - 1 - k) ∧ J (backTo zs k) wr ∧ Below n₀ W wr)
    (fun i _ => (intOf i + 1).toNat)
  case atStart => exact ⟨0, Nat.zero_le _, by simp, h0, Below.refl _ _⟩
  case round =>
    obtain ⟨k, hk, rfl, hJs, hnx⟩ := hrel
    by_cases hlt : k < zs.length
    · obtain ⟨j, hj⟩ : ∃ j, j + 1 + k = zs.length := ⟨zs.length - 1 - k, by omega⟩
      have hjl : j < zs.length := by omega
      have ei : ((zs.length : Int) - 1 - k) = (j : Int) := by omega
      rw [ei]
      have hx : zs[zs.length - 1 - k]?.getD ⟨0, 0, 0, 0⟩ = zs[j] := by
        rw [show zs.length - 1 - k = j by omega]; simp [hjl]
      obtain ⟨fn, tmps, assign, body, hy, hR⟩ := hY _ zs[j] wr hJs (by rw [backTo_length]; exact hlt)
      have c0 := (hnx.cell (p := ⟨b, j * 2, none⟩) hb).trans (hc j hjl).1
      have c1 := (hnx.cell (p := ⟨b, j * 2 + 1, none⟩) hb).trans (hc j hjl).2
      have cb := (hnx.cell (p := ⟨Bs, 0, none⟩) hBn).trans hBs
      unfold wrEnc at hy
      rw [hz j hjl] at hy
      have HX := Lib.hid hx
      have HJ := Lib.hid hj
      have HE := Lib.hid ei
      clear hx hj ei hc hBs hz hY
      gi_wp2
      refine hR.mono ?_
      rintro e W3 (⟨rfl, hJ3, hk3⟩ | ⟨rfl, hJx3⟩)
      · clear c0 c1 cb
        gi_wp2
        go_roundw
        case rel => exact ⟨k + 1, by have := HJ.out; omega, congrArg (Value.int IntKind.i64) (by have := HJ.out; omega), by rw [backTo_succ, HX.out]; exact hJ3, hnx.trans hk3⟩
        case measure => simp [intOf]
      · clear c0 c1 cb
        gi_wp2
        refine bodyPost_ret (results_none rfl _ _ _) rfl ?_
        refine ⟨⟨_, rfl⟩, .inr ⟨_, ?_, hJx3⟩⟩
        rw [← HX.out, ← backTo_succ, backTo_take zs (by omega)]
        exact List.take_prefix _ _
    · obtain rfl : k = zs.length := by omega
      have e0 : ((zs.length : Int) - 1 - (zs.length : Int)) = -1 := by omega
      rw [e0]
      clear e0
      gi_wp2
      go_end0
      refine ⟨⟨_, rfl⟩, .inl ⟨_, rfl, ?_⟩⟩
      rw [backTo_take zs (Nat.le_refl _)] at hJs
      rwa [List.take_of_length_le (by simp)] at hJs

set_option maxRecDepth 100000 in
set_option maxHeartbeats 2000000 in
/-- .. at the nil slice. -/
theorem back1_nil_in (F : Fence) (n : Nat) (h7 : F.fn 179) (hro : F.round = none) (l Bs : Nat) (J : List WR → World → Prop) (W : World) (hBs : W.cell? ⟨Bs, 0, none⟩ = some (.slice none 0 0)) (h0 : J [] W) :
    CallsIn F n Try.prog 179 #[.func (.yield l) #[] #[], .pointer (some ⟨Bs, 0, none⟩)] W fun e W' => (∃ v, e = .returned v) ∧ J [] W' := by
  refine callsIn_of_wp Try.func179 rfl h7 ?_ hro
  simp only [Try.ntmps179, List.size_toArray, List.length_cons, List.length_nil, Nat.reduceAdd, Nat.reduceSub, Array.replicate_succ, Array.replicate_zero, List.push_toArray, List.append_toArray, List.nil_append, List.cons_append]
  gi_wp2
  gi_loopw [3] (fun i wr => i = .int .i64 (-1) ∧ J [] wr) (fun _ _ => 0)
  case atStart => exact ⟨rfl, h0⟩
  case round =>
    obtain ⟨rfl, hJs⟩ := hrel
    gi_wp2
    go_end0
    exact ⟨⟨_, rfl⟩, hJs⟩

set_option maxHeartbeats 1000000 in
theorem back_in (F : Fence) (n : Nat) (h5 : F.fn 164) (hro : F.round = none) (a : Option Addr) (len cap : Nat) (w : World) :
    CallsIn F n Try.prog 164 #[.slice a len cap] w fun e w' => e = .returned (.func (.func 179) #[] #[.pointer (some ⟨w.heap.size, 0, none⟩)]) ∧ w' = w.alloc (.cells #[.slice a len cap] 148) := by
  refine callsIn_of_wp Try.func164 rfl h5 ?_ hro
  simp only [Try.ntmps164, List.size_toArray, List.length_cons, List.length_nil, Nat.reduceAdd, Nat.reduceSub, Array.replicate_succ, Array.replicate_zero, List.push_toArray, List.append_toArray, List.nil_append, List.cons_append]
  gi_wp2
  go_ret
  exact ⟨rfl, rfl⟩

/-- The slice value sv holds the writes zs, in a block below n₀; or it is nil. -/
def Wrs (n₀ : Nat) (W : World) (sv : Value) (zs : List WR) : Prop :=
  (sv = .slice none 0 0 ∧ zs = []) ∨ ∃ b cap, sv = .slice (some ⟨b, 0, none⟩) zs.length cap ∧ b < n₀ ∧
    ∀ j (h : j < zs.length), W.cell? ⟨b, j * 2, none⟩ = some (.int .i64 (zs[j].s : Int)) ∧ W.cell? ⟨b, j * 2 + 1, none⟩ = some (.slice (some ⟨zs[j].g, 0, none⟩) 96 zs[j].c)
theorem Wrs.below {n₀ : Nat} {A B : World} (h : Below n₀ A B) {sv : Value} {zs : List WR} : Wrs n₀ A sv zs → Wrs n₀ B sv zs
  | .inl e => .inl e
  | .inr ⟨b, cap, e, hb, hc⟩ => .inr ⟨b, cap, e, hb, fun j hj => ⟨(h.cell (p := ⟨b, j * 2, none⟩) hb).trans (hc j hj).1, (h.cell (p := ⟨b, j * 2 + 1, none⟩) hb).trans (hc j hj).2⟩⟩

theorem back_stops (F : Fence) (n : Nat) (h7 : F.fn 179) (hro : F.round = none) (hn : 1 ≤ n) (Bs n₀ : Nat) (sv : Value) (zs : List WR) (hreach : zs.length ≤ 4398046511104) (hz : ∀ j (h : j < zs.length), zs[j].i = j) (w : World) (hBs : Bs < n₀) (hn₀ : n₀ ≤ w.heap.size)
    (hc : w.cell? ⟨Bs, 0, none⟩ = some sv) (hI : Wrs n₀ w sv zs) :
    SeqStopsK F n Try.prog 179 #[.pointer (some ⟨Bs, 0, none⟩)] wrEnc (Below n₀) (fun ys => ys = zs.reverse) (fun pre => pre <+: zs.reverse) zs.length w := fun l J Jx W hW _ _ hY h0 => by
  have hc' := (hW.cell (p := ⟨Bs, 0, none⟩) (show Bs < w.heap.size by omega)).trans hc
  rcases hI.below (hW.mono hn₀) with ⟨rfl, rfl⟩ | ⟨b, cap, rfl, hb, hcs⟩
  · exact (back1_nil_in F n h7 hro l Bs J W hc' h0).mono fun e W' ⟨he, hj⟩ => ⟨he, .inl ⟨_, rfl, hj⟩⟩
  · exact back1_in F n h7 hro hn l Bs n₀ b cap zs hreach hb hz J Jx hY W (by have := hW.size; omega) (by have := hW.size; omega) hBs hc' hcs h0

end Go.Proofs.Ytpfhfeccdhmgiaa
