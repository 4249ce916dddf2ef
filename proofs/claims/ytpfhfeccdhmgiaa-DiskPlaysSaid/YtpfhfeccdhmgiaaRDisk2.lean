/- What is proved here: lemmas and contracts on the way to this seat's laws, part 'RDisk2'; no condition. -/
import Derived.Test.YtpfhfeccdhmgiaaRDisk
namespace Go.Proofs.Ytpfhfeccdhmgiaa
open Go.RowKit

variable {E : Env} {w : World} {R : List HP}

/-- hypocaustref7.Disk -/
structure RDiskM where
  slots : List (List UInt8)
  live : Bool
  wait : List (Nat × List UInt8 × List UInt8)

def RDiskM.ok (d : RDiskM) : Prop := (∀ s ∈ d.slots, s.length = 96) ∧ (∀ q ∈ d.wait, q.1 < d.slots.length ∧ q.2.1.length = 96 ∧ q.2.2.length = 96) ∧ d.slots.length ≤ 64

def wcells (l : List (Nat × List UInt8 × List UInt8)) : List Value := l.flatMap fun q => [.int .i64 (q.1 : Int), SV q.2.1, SV q.2.2]

def RDiskL (a : Nat) (p : Option Addr) (d : RDiskM) (la : Option Addr) (lcap : Nat) (pa : Option Addr) (pcap : Nat) : List HP :=
  [PT a [.slice la d.slots.length lcap, .bool d.live, .slice pa d.wait.length pcap, .pointer p] 35, Own 9 1 (.slice la d.slots.length lcap) d.slots.length (d.slots.map SV),
    Own 156 3 (.slice pa d.wait.length pcap) d.wait.length (wcells d.wait)]

def RDiskP (a : Nat) (p : Option Addr) (d : RDiskM) : HP := fun h => ∃ la lcap pa pcap, d.ok ∧ All (RDiskL a p d la lcap pa pcap) h

theorem RDiskP.open {a : Nat} {p : Option Addr} {d : RDiskM} (hS : Sat E w (RDiskP a p d :: R)) : ∃ la lcap pa pcap, d.ok ∧
    Sat E w (PT a [.slice la d.slots.length lcap, .bool d.live, .slice pa d.wait.length pcap, .pointer p] 35 :: Own 9 1 (.slice la d.slots.length lcap) d.slots.length (d.slots.map SV) ::
    Own 156 3 (.slice pa d.wait.length pcap) d.wait.length (wcells d.wait) :: R) := by
  obtain ⟨la, lcap, h⟩ := Sat.ex2 hS
  obtain ⟨pa, pcap, h⟩ := Sat.ex2 h
  obtain ⟨h1, h⟩ := h.pure
  exact ⟨la, lcap, pa, pcap, h1, h.flat⟩

theorem RDiskP.close {a : Nat} {p : Option Addr} {d : RDiskM} {la : Option Addr} {lcap : Nat} {pa : Option Addr} {pcap : Nat} (h1 : d.ok)
    (hS : Sat E w (PT a [.slice la d.slots.length lcap, .bool d.live, .slice pa d.wait.length pcap, .pointer p] 35 :: Own 9 1 (.slice la d.slots.length lcap) d.slots.length (d.slots.map SV) ::
    Own 156 3 (.slice pa d.wait.length pcap) d.wait.length (wcells d.wait) :: R)) : Sat E w (RDiskP a p d :: R) :=
  (hS.fold 3).imp fun _ h => ⟨la, lcap, pa, pcap, h1, h⟩

def RDiskM.new (n : Nat) : RDiskM := ⟨List.replicate n zeros, true, []⟩

theorem RDiskM.new_ok (n : Nat) (h : n ≤ 64) : (RDiskM.new n).ok := by
  refine ⟨?_, ?_, ?_⟩
  · intro s hs; rw [(List.mem_replicate.1 hs).2]; rfl
  · intro p hp; cases hp
  · simpa [RDiskM.new] using h

theorem Try.infoString : (Try.prog.info? 9).map (fun i => (i.zero, i.size, i.bytes)) = some (some (.string ⟨#[]⟩), 1, 16) := by kernel_rfl
theorem Try.infoRWrite : (Try.prog.info? 156).map (fun i => (i.zero, i.size, i.bytes)) = some (some (.agg #[.int .i64 0, .string ⟨#[]⟩, .string ⟨#[]⟩]), 3, 40) := by kernel_rfl

theorem Own.set {T size n g c j : Nat} {xs : List Value} (v : Value) (hj : j < xs.length) (hS : Sat E w (Own T size (.slice (some ⟨g, 0, none⟩) n c) n xs :: R)) : Sat E (w.setCell ⟨g, j, none⟩ v) (Own T size (.slice (some ⟨g, 0, none⟩) n c) n (xs.set j v) :: R) := by
  obtain ⟨hx, h⟩ := Own.cases hS
  rcases h with ⟨h, _⟩ | ⟨g', cap, junk, h, hn, hc, hl, hp⟩
  · cases h
  · cases h
    have h2 := hp.store j v
    rw [List.set_append_left j v hj] at h2
    exact Own.mk junk (by simpa using hx) hn hc (by simpa using hl) h2

theorem Own.freeAt {T size n g c j : Nat} {xs : List Value} (hS : Sat E w (Own T size (.slice (some ⟨g, 0, none⟩) n c) n xs :: R)) : w.frozen? ⟨g, j, none⟩ = false := by
  rcases (Own.cases hS).2 with ⟨h, _⟩ | ⟨g', cap, junk, h, _, _, _, hp⟩
  · cases h
  · cases h; exact hp.free j

theorem RNew_done {d k : Nat} {p : Option Addr} {lv : Value} (hk : k ≤ 64)
    (hS : Sat E w (PT d [lv, .bool true, .slice none 0 0, .pointer p] 35 :: Own 9 1 lv k ((List.replicate k zeros).map SV) :: R)) : Sat E w (RDiskP d p (.new k) :: R) := by
  obtain ⟨la, lcap, rfl⟩ := Own.slice hS.to1
  refine RDiskP.close (la := la) (lcap := lcap) (pa := none) (pcap := 0) (RDiskM.new_ok k hk) ?_
  have h := (Own.nil 156 3 hS).at2
  simpa [RDiskM.new, wcells] using h

set_option maxHeartbeats 1000000 in
set_option maxRecDepth 100000 in
theorem RNew_ok (s : Int) (p : Option Addr) (hS : Sat E w R) :
    Calls Try.prog 16 #[.int .i64 s, .pointer p] w fun e w' => ∃ a, e = .returned (.pointer (some ⟨a, 0, none⟩)) ∧ Sat E w' (RDiskP a p (.new (min (max s 0) 64).toNat) :: R) := by
  obtain ⟨i0, hi, hz0, hz1, hz2⟩ := info_parts Try.infoString
  obtain ⟨m, hm⟩ : ∃ m, m = (min (max s 0) 64).toNat := ⟨_, rfl⟩
  have h64 : m ≤ 64 := by omega
  have hms : (m : Int) = max s 0 ∨ m = 64 := by omega
  have HM := Lib.hid (show m = (min (max s 0) 64).toNat from hm)
  rw [← hm]
  clear hm
  have hA := hS.alloc [.slice none 0 0, .bool true, .slice none 0 0, .pointer p] 35
  have HA := Lib.hid hA
  have HMS := Lib.hid hms
  clear hA hS hms
  go_enter Try.func16, Try.ntmps16
  go_wp2
  go_loopw [6] (fun i wr => ∃ k : Nat, k ≤ m ∧ i = .int .i64 k ∧ ∃ lv, Sat E wr (PT w.heap.size [lv, .bool true, .slice none 0 0, .pointer p] 35 :: Own 9 1 lv k ((List.replicate k zeros).map SV) :: R)) (fun i _ => 64 - (intOf i).toNat)
  case atStart => exact ⟨0, Nat.zero_le _, rfl, _, (Own.nil _ _ HA.out).to1⟩
  case round =>
    obtain ⟨k, hk, rfl, lv, hS⟩ := hrel
    have hmn := HM.out
    have hms := HMS.out
    by_cases hlt : k < m
    · have hk1 : (k : Int) < s := by omega
      have hk2 : k < 64 := by omega
      have hk3 : decide ((k : Int) < s) = true := by simpa using hk1
      clear hmn hms
      have c1 := hS.cell 0
      have f1 := hS.free 0
      have l1 := hS.lt
      simp at c1
      go_wp2_with (fail)
      go_region_law (first
        | (refine step_append_sat (hS1.allocAny _).to1 rfl (.tmp 23) (.tmp 25) 32 rfl i0 (.string ⟨#[]⟩) 16 Try.underlying32 hi hz0 hz1 hz2 rfl (by decide) rfl _ 1 1 [_] rfl rfl (one_new rfl _ _) (by simp [Value.oneCell']) (by unfold maxLen; omega) (by omega) ?_; intro v' w' hS' _; obtain ⟨g', cap', rfl⟩ := Own.pos hS' (by omega); have hS2 := hS'.to1; have c2 := hS2.cell 0; have f2 := hS2.free 0; simp at c2)
        | (go_simp; go_at_call 98; refine (Blank_ok hS.drew).mono ?_; rintro e w1 ⟨rfl, hS1⟩; have c1' := hS1.cell 0; have l1' := hS1.lt; simp at c1'))
      all_goals
        have HS := Lib.hid (hS2.store 0 (.slice (some ⟨g', 0, none⟩) (k + 1) cap'))
        clear hS2 hS' c1' c1 hS hS1 c2
        go_wp2
        go_roundw
        case rel => exact ⟨k + 1, by omega, by go_num, _, by have h := HS.out; rw [List.replicate_succ', List.map_append]; exact h⟩
        case measure => simp [intOf]; omega
    · have HS := Lib.hid hS
      have HK := Lib.hid (show k = m by omega)
      clear hS
      by_cases hs : (k : Int) < s
      · have hk2 : ¬ k < 64 := by omega
        have hk3 : decide ((k : Int) < s) = true := by simpa using hs
        clear hmn hms
        go_wp2
        go_ret
        have h9 := RNew_done (by omega) HS.out
        rw [HK.out] at h9
        exact ⟨_, rfl, h9⟩
      · have hk3 : decide ((k : Int) < s) = false := by simpa using hs
        clear hmn hms
        go_wp2
        go_ret
        have h9 := RNew_done (by omega) HS.out
        rw [HK.out] at h9
        exact ⟨_, rfl, h9⟩

end Go.Proofs.Ytpfhfeccdhmgiaa
