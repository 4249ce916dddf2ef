/- What is proved here: lemmas and contracts on the way to this seat's laws, part 'Disk'; no condition. -/
import Derived.Test.YtpfhfeccdhmgiaaRows1
import Derived.Test.YtpfhfeccdhmgiaaFuse
import Derived.Deep.RegionHeld3
import Derived.Deep.RegionLaw
import Derived.Outline
import Derived.LoopTactic
namespace Go.Proofs.Ytpfhfeccdhmgiaa
open Go.RowKit

/-- disk.Disk -/
structure DiskM where
  slots : List (List UInt8)
  pend : List (Nat × List UInt8)
  gone : Bool

def DiskM.ok (d : DiskM) : Prop := (∀ s ∈ d.slots, s.length = 96) ∧ (∀ p ∈ d.pend, p.1 < d.slots.length ∧ p.2.length = 96) ∧ d.slots.length ≤ 64

/-- A slice of 96 bytes at the head of block x.1, of capacity x.2. -/
abbrev sl (x : Nat × Nat) : Value := .slice (some ⟨x.1, 0, none⟩) 96 x.2

def pcells (l : List (Nat × List UInt8)) (hs : List (Nat × Nat)) : List Value := (l.zip hs).flatMap fun p => [.int .i64 (p.1.1 : Int), sl p.2]

def slotPs (gs : List (Nat × Nat)) (l : List (List UInt8)) : List HP := List.zipWith (fun g l => BytesP (sl g) l) gs l
def pendPs (hs : List (Nat × Nat)) (l : List (Nat × List UInt8)) : List HP := List.zipWith (fun g p => BytesP (sl g) p.2) hs l

def DiskL (a : Nat) (p : Option Addr) (d : DiskM) (la : Option Addr) (lcap : Nat) (pa : Option Addr) (pcap : Nat) (gs hs : List (Nat × Nat)) : List HP :=
  [PT a [.pointer p, .slice la d.slots.length lcap, .slice pa d.pend.length pcap, .bool d.gone] 150, Own 37 1 (.slice la d.slots.length lcap) d.slots.length (gs.map sl),
    Own 154 2 (.slice pa d.pend.length pcap) d.pend.length (pcells d.pend hs), All (slotPs gs d.slots), All (pendPs hs d.pend)]

def DiskP (a : Nat) (p : Option Addr) (d : DiskM) : HP := fun h => ∃ la lcap pa pcap gs hs, (d.ok ∧ gs.length = d.slots.length ∧ hs.length = d.pend.length) ∧ All (DiskL a p d la lcap pa pcap gs hs) h

def zeros : List UInt8 := List.replicate 96 0
def DiskM.new (n : Nat) : DiskM := ⟨List.replicate n zeros, [], false⟩

variable {E : Env} {w : World} {R : List HP}

theorem mk96 (w : World) : (Instr.makeSlice 37 (.int .i64 96) (.int .i64 96)).run Try.prog w = .ok (.slice (some ⟨w.heap.size, 0, none⟩) 96 96) (w.alloc (.cells (zeros.map BV).toArray 5)) := by
  obtain ⟨i0, hi, hz0, hz1, hz2⟩ := info_parts Try.infoU8
  have h := run_make (P := Try.prog) w 37 5 i0 _ Try.underlying37 hi hz0 .i64 .i64 96 96 (by omega) (by omega) (by rw [hz2]; omega) (by omega)
  rw [h, hz1]
  have e : madeCells (Value.int IntKind.u8 0).cells ((96 : Int).toNat * 1) = (zeros.map BV).toArray := by
    rw [← Array.toList_inj]
    show (madeCells #[Value.int IntKind.u8 0] 96).toList = _
    rw [toList_madeCells_one]
    simp [zeros]
  rw [e]
  rfl

/-- A new block with its bytes. -/
theorem BytesP.fresh {g : Nat} {l : List UInt8} (hl : l.length ≤ maxLen) (hS : Sat E w (PT g (l.map BV) 5 :: R)) : Sat E w (BytesP (.slice (some ⟨g, 0, none⟩) l.length l.length) l :: R) :=
  Own.mk [] (by simp) (Nat.le_refl _) hl (by simp) (by simpa using hS)

theorem zeros_len : zeros.length = 96 := rfl

theorem Sat.ex2 {α β : Type} {A : α → β → HP} {l : List HP} (hS : Sat E w ((fun k => ∃ x y, A x y k) :: l)) : ∃ x y, Sat E w (A x y :: l) := by
  obtain ⟨x, h⟩ := hS.ex
  obtain ⟨y, h⟩ := h.ex
  exact ⟨x, y, h⟩

theorem DiskP.open {a : Nat} {p : Option Addr} {d : DiskM} (hS : Sat E w (DiskP a p d :: R)) : ∃ la lcap pa pcap gs hs, (d.ok ∧ gs.length = d.slots.length ∧ hs.length = d.pend.length) ∧
    Sat E w (PT a [.pointer p, .slice la d.slots.length lcap, .slice pa d.pend.length pcap, .bool d.gone] 150 :: Own 37 1 (.slice la d.slots.length lcap) d.slots.length (gs.map sl) ::
    Own 154 2 (.slice pa d.pend.length pcap) d.pend.length (pcells d.pend hs) :: All (slotPs gs d.slots) :: All (pendPs hs d.pend) :: R) := by
  obtain ⟨la, lcap, h⟩ := Sat.ex2 hS
  obtain ⟨pa, pcap, h⟩ := Sat.ex2 h
  obtain ⟨gs, hs, h⟩ := Sat.ex2 h
  obtain ⟨h1, h⟩ := h.pure
  exact ⟨la, lcap, pa, pcap, gs, hs, h1, h.flat⟩

theorem DiskP.close {a : Nat} {p : Option Addr} {d : DiskM} {la : Option Addr} {lcap : Nat} {pa : Option Addr} {pcap : Nat} {gs hs : List (Nat × Nat)} (h1 : d.ok ∧ gs.length = d.slots.length ∧ hs.length = d.pend.length)
    (hS : Sat E w (PT a [.pointer p, .slice la d.slots.length lcap, .slice pa d.pend.length pcap, .bool d.gone] 150 :: Own 37 1 (.slice la d.slots.length lcap) d.slots.length (gs.map sl) ::
    Own 154 2 (.slice pa d.pend.length pcap) d.pend.length (pcells d.pend hs) :: All (slotPs gs d.slots) :: All (pendPs hs d.pend) :: R)) : Sat E w (DiskP a p d :: R) :=
  (hS.fold 5).imp fun _ h => ⟨la, lcap, pa, pcap, gs, hs, h1, h⟩

theorem New_step {d b g cap k : Nat} {p : Option Addr} {gs : List (Nat × Nat)} (hg : gs.length = k)
    (hS : Sat E w (PT d [.pointer p, .slice (some ⟨g, 0, none⟩) (k + 1) cap, .slice none 0 0, .bool false] 150 :: Own 37 1 (.slice (some ⟨g, 0, none⟩) (k + 1) cap) (k + 1) (gs.map sl ++ [.slice (some ⟨b, 0, none⟩) 96 96]) ::
      PT b (zeros.map BV) 5 :: All (slotPs gs (List.replicate k zeros)) :: R)) :
    Sat E w (PT d [.pointer p, .slice (some ⟨g, 0, none⟩) (k + 1) cap, .slice none 0 0, .bool false] 150 :: Own 37 1 (.slice (some ⟨g, 0, none⟩) (k + 1) cap) (k + 1) ((gs ++ [(b, 96)]).map sl) ::
      All (slotPs (gs ++ [(b, 96)]) (List.replicate (k + 1) zeros)) :: R) := by
  have h2 := BytesP.fresh (by unfold maxLen; rw [zeros_len]; omega) (hS.to2)
  have h3 := (h2.to3.push).at2
  rw [List.map_append]
  unfold slotPs
  rw [List.replicate_succ', List.zipWith_append (by simpa using hg)]
  exact h3

theorem New_done {d k : Nat} {p : Option Addr} {lv : Value} {gs : List (Nat × Nat)} (hg : gs.length = k) (hk : k ≤ 64)
    (hS : Sat E w (PT d [.pointer p, lv, .slice none 0 0, .bool false] 150 :: Own 37 1 lv k (gs.map sl) :: All (slotPs gs (List.replicate k zeros)) :: R)) :
    Sat E w (DiskP d p (.new k) :: R) := by
  obtain ⟨la, lcap, rfl⟩ := Own.slice hS.to1
  refine DiskP.close (la := la) (lcap := lcap) (pa := none) (pcap := 0) (gs := gs) (hs := []) ⟨⟨?_, ?_, ?_⟩, ?_, rfl⟩ ?_
  · intro s hs
    rw [(List.mem_replicate.1 hs).2]; rfl
  · intro p hp; cases hp
  · simpa [DiskM.new] using hk
  · simpa [DiskM.new] using hg
  · have h := (Own.nil 154 2 hS.nilRow.at3).at2
    simpa [DiskM.new, pcells, pendPs] using h

set_option maxHeartbeats 1000000 in
set_option maxRecDepth 100000 in
theorem New_n (s : Int) (p : Option Addr) (n : Nat) (hn : n = 64 ∧ 64 < s ∨ s = n ∧ n ≤ 64) (hS : Sat E w R) :
    Calls Try.prog 15 #[.int .i64 s, .pointer p] w fun e w' => ∃ a, e = .returned (.pointer (some ⟨a, 0, none⟩)) ∧ Sat E w' (DiskP a p (.new n) :: R) := by
  obtain ⟨i0, hi, hz0, hz1, hz2⟩ := info_parts Try.infoBytes
  have h64 : n ≤ 64 := by omega
  have hA := hS.alloc [.pointer p, .slice none 0 0, .slice none 0 0, .bool false] 150
  have HA := Lib.hid hA
  clear hA hS
  obtain ⟨m, hm⟩ : ∃ m, m = n := ⟨n, rfl⟩
  have HM := Lib.hid hm
  clear hm
  have hmk := mk96
  rcases hn with ⟨rfl, h⟩ | ⟨rfl, h⟩
  all_goals
    go_enter Try.func15, Try.ntmps15
    go_wp2
    go_loopw [12] (fun i wr => ∃ k : Nat, k ≤ m ∧ i = .int .i64 k ∧ ∃ lv gs, gs.length = k ∧ Sat E wr (PT w.heap.size [.pointer p, lv, .slice none 0 0, .bool false] 150 :: Own 37 1 lv k (gs.map sl) :: All (slotPs gs (List.replicate k zeros)) :: R)) (fun i _ => 64 - (intOf i).toNat)
    case atStart =>
      exact ⟨0, Nat.zero_le _, rfl, _, [], rfl, (Own.nil _ _ (HA.out.nilRow)).to2⟩
    case round =>
      obtain ⟨k, hk, rfl, lv, gs, hg, hS⟩ := hrel
      have hmn := HM.out
      by_cases hlt : k < m
      · have hlt2 : k < 64 := by omega
        try have hlt3 : k < n := by omega
        clear hmn
        have c1 := hS.cell 1
        have f1 := hS.free 1
        have l1 := hS.lt
        simp at c1
        have hS1 := ((hS.drew.alloc (zeros.map BV) 5).allocAny (.cells #[.slice (some ⟨wr.heap.size, 0, none⟩) 96 96] 37)).to2
        go_wp2_with (fail)
        go_region_law (refine step_append_sat hS1 rfl (.tmp 18) (.tmp 20) 73 rfl i0 (.slice none 0 0) 24 Try.underlying73 hi hz0 hz1 hz2 rfl (by decide) rfl _ 1 1 [_] rfl rfl (one_new (by simp) _ _) (by simp [Value.oneCell']) (by unfold maxLen; omega) (by omega) ?_; intro v' w' hS' _; obtain ⟨g', cap', rfl⟩ := Own.pos hS' (by omega); have hS2 := hS'.to2; have c1' := hS2.cell 1; have f1' := hS2.free 1; simp at c1')
        all_goals
          have HS := Lib.hid hS2
          clear hS2 hS' c1' c1 hS hS1
          go_wp2
          go_roundw
          case rel => exact ⟨k + 1, by omega, by go_num, _, gs ++ [(_, 96)], by simp [hg], New_step hg (HS.out.store 1 (.slice (some ⟨g', 0, none⟩) (k + 1) cap'))⟩
          case measure => simp [intOf]; omega
      · have HS := Lib.hid hS
        clear hS
        try have hlt3 : ¬ k < n := by omega
        try have hlt3 : ¬ k < 64 := by omega
        first | have HK : Hid (k = 64) := Lib.hid (by omega) | have HK : Hid (k = n) := Lib.hid (by omega)
        go_wp2
        go_ret
        have h9 := New_done hg (by omega) HS.out
        rw [HK.out] at h9
        exact ⟨w.heap.size, rfl, h9⟩

end Go.Proofs.Ytpfhfeccdhmgiaa
