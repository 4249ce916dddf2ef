/- What is proved here: lemmas and contracts on the way to this seat's laws, part 'RDisk4'; no condition. -/
import Derived.Test.YtpfhfeccdhmgiaaRDisk3
namespace Go.Proofs.Ytpfhfeccdhmgiaa
open Go.RowKit

variable {E : Env} {w : World} {R : List HP}

def RDiskM.read (d : RDiskM) (s : Int) : List UInt8 × Int :=
  if ¬ (0 ≤ s ∧ s < d.slots.length) then ([], 1) else if !d.live then ([], 5) else (d.slots.getD s.toNat [], 0)

set_option maxHeartbeats 400000 in
theorem RRead_ok {a : Nat} {p : Option Addr} {d : RDiskM} (s : Int) (hS : Sat E w (RDiskP a p d :: R)) :
    Calls Try.prog 23 #[.pointer (some ⟨a, 0, none⟩), .int .i64 s] w fun e w' => e = .returned (.tuple #[SV (d.read s).1, .int .i64 (d.read s).2]) ∧ w = w' := by
  have hi := slot_ok s hS
  unfold RDiskM.read
  by_cases h1 : 0 ≤ s ∧ s < d.slots.length
  · rw [if_neg (by simpa using h1)]
    rw [decide_eq_true h1] at hi
    obtain ⟨la, lcap, pa, pcap, hok, hS⟩ := RDiskP.open hS
    have c1 := hS.cell 1
    cases hg : d.live with
    | false =>
      rw [if_pos (show (!false) = true from rfl)]
      rw [hg] at c1
      simp at c1
      go_enter Try.func23, Try.ntmps23
      go_wp2_with (go_at_call 102; refine hi.mono ?_; rintro e w' ⟨rfl, rfl⟩)
      go_ret2
      exact ⟨rfl, rfl⟩
    | true =>
      rw [if_neg (show ¬ (!true) = true by simp)]
      rw [hg] at c1
      have c0 := hS.cell 0
      simp at c1 c0
      obtain ⟨n, rfl⟩ : ∃ n : Nat, s = n := ⟨s.toNat, by omega⟩
      have hn : n < d.slots.length := by omega
      obtain ⟨lg, rfl⟩ := Own.at0 hS.to1 (by omega)
      have q2 := (Own.cellAt hS.to1 (j := n) (by simpa using hn)).trans (show (d.slots.map SV)[n]? = some (SV (d.slots.getD n [])) by simp [hn, List.getD])
      obtain ⟨x, hx⟩ : ∃ x, d.slots.getD n [] = x := ⟨_, rfl⟩
      rw [Int.toNat_natCast, hx]
      rw [hx] at q2
      clear hx h1 hg
      go_enter Try.func23, Try.ntmps23
      go_wp2_with (go_at_call 102; refine hi.mono ?_; rintro e w' ⟨rfl, rfl⟩)
      go_ret2
      exact ⟨rfl, rfl⟩
  · rw [if_pos h1]
    rw [decide_eq_false h1] at hi
    go_enter Try.func23, Try.ntmps23
    go_wp2_with (go_at_call 102; refine hi.mono ?_; rintro e w' ⟨rfl, rfl⟩)
    go_ret2
    exact ⟨rfl, rfl⟩

def RDiskM.sync (f : FuseM) (d : RDiskM) : Int × RDiskM := if !d.live then (5, d) else if f.dead then (4, d) else (0, { d with wait := [] })

theorem RWait_nil {a : Nat} {p : Option Addr} {d : RDiskM} {la : Option Addr} {lcap : Nat} {pa : Option Addr} {pcap : Nat} (hok : d.ok)
    (hS : Sat E w (PT a [.slice la d.slots.length lcap, .bool d.live, .slice pa d.wait.length pcap, .pointer p] 35 :: Own 9 1 (.slice la d.slots.length lcap) d.slots.length (d.slots.map SV) ::
    Own 156 3 (.slice pa d.wait.length pcap) d.wait.length (wcells d.wait) :: R)) : Sat E (w.setCell ⟨a, 2, none⟩ (.slice none 0 0)) (RDiskP a p { d with wait := [] } :: R) := by
  have h := (Own.nil 156 3 (hS.store 2 (.slice none 0 0)).to2.weak).at2
  exact RDiskP.close (d := { d with wait := [] }) (la := la) (lcap := lcap) (pa := none) (pcap := 0) ⟨hok.1, (by intro q hq; cases hq), hok.2.2⟩ h

set_option maxHeartbeats 400000 in
theorem RSync_ok {a : Nat} {p : Option Addr} {d : RDiskM} {f : FuseM} (hpb : (p = none ∧ f.bound = false) ∨ ∃ b, p = some ⟨b, 0, none⟩) (hS : Sat E w (RFuseP p f :: RDiskP a p d :: R)) :
    Calls Try.prog 25 #[.pointer (some ⟨a, 0, none⟩)] w fun e w' => e = .returned (.int .i64 (d.sync f).1) ∧ Sat E w' (RFuseP p f :: RDiskP a p (d.sync f).2 :: R) := by
  have hD : p = none ∨ ∃ b, p = some ⟨b, 0, none⟩ ∧ Calls Try.prog 36 #[.pointer (some ⟨b, 0, none⟩)] w fun e w' => e = .returned (.bool f.dead) ∧ w = w' := by
    rcases hpb with ⟨h, _⟩ | ⟨b, rfl⟩
    · exact .inl h
    · exact .inr ⟨b, rfl, RDead_ok b f hS⟩
  obtain ⟨la, lcap, pa, pcap, hok, hS'⟩ := RDiskP.open hS.to1
  have c1 := hS'.cell 1
  have c2 := hS'.cell 2
  have c3 := hS'.cell 3
  have f2 := hS'.free 2
  simp at c1 c2 c3
  have HD := Lib.hid (RWait_nil hok hS')
  clear hS' hok
  unfold RDiskM.sync
  cases hg : d.live with
  | false =>
    rw [hg] at c1
    rw [if_pos (show (!false) = true from rfl)]
    clear hg
    go_enter Try.func25, Try.ntmps25
    go_wp2_with fail
    go_ret
    exact ⟨rfl, hS⟩
  | true =>
    rw [hg] at c1
    rw [hg] at HD
    rw [if_neg (show ¬ (!true) = true by simp)]
    clear hg
    cases hf : f.dead with
    | true =>
      rw [if_pos rfl]
      rcases hD with rfl | ⟨b, rfl, hD⟩
      · rcases hpb with ⟨_, hb⟩ | ⟨b, h⟩
        · simp [FuseM.dead, hb] at hf
        · cases h
      · rw [hf] at hD
        clear hf
        go_enter Try.func25, Try.ntmps25
        go_wp2_with (go_at_call 36; refine hD.mono ?_; rintro e w' ⟨rfl, rfl⟩)
        go_ret
        exact ⟨rfl, hS⟩
    | false =>
      rw [if_neg (by simp)]
      rcases hD with rfl | ⟨b, rfl, hD⟩
      · clear hf
        go_enter Try.func25, Try.ntmps25
        go_wp2_with fail
        go_ret
        exact ⟨rfl, HD.out.to1⟩
      · rw [hf] at hD
        clear hf
        go_enter Try.func25, Try.ntmps25
        go_wp2_with (go_at_call 36; refine hD.mono ?_; rintro e w' ⟨rfl, rfl⟩)
        go_ret
        exact ⟨rfl, HD.out.to1⟩

theorem blank_step (l : List (List UInt8)) (k : Nat) (h : k < l.length) : (List.replicate k zeros ++ l.drop k).set k zeros = List.replicate (k + 1) zeros ++ l.drop (k + 1) := by
  rw [List.set_append_right _ _ (by simp)]
  simp only [List.length_replicate, Nat.sub_self]
  rw [List.drop_eq_getElem_cons h, List.set_cons_zero, List.replicate_succ', List.append_assoc]
  rfl

set_option maxHeartbeats 1000000 in
set_option maxRecDepth 100000 in
theorem RReplace_ok {a : Nat} {p : Option Addr} {d : RDiskM} (hS : Sat E w (RDiskP a p d :: R)) :
    Calls Try.prog 28 #[.pointer (some ⟨a, 0, none⟩)] w fun e w' => e = .returned (.tuple #[]) ∧ Sat E w' (RDiskP a p (.new d.slots.length) :: R) := by
  obtain ⟨la, lcap, pa, pcap, hok, hS'⟩ := RDiskP.open hS
  have h64 := hok.2.2
  have c1 := hS'.cell 1
  have c2 := hS'.cell 2
  have f1 := hS'.free 1
  have f2 := hS'.free 2
  have l1 := hS'.lt
  simp at c1 c2
  have h9 := ((hS'.store 1 (.bool true)).store 2 (.slice none 0 0)).to2.weak
  have H9 := Lib.hid h9
  clear hS hS' hok h9
  go_enter Try.func28, Try.ntmps28
  go_wp2
  go_loopw [2] (fun i wr => ∃ k : Nat, k ≤ d.slots.length ∧ i = .int .i64 k ∧ Sat E wr (PT a [.slice la d.slots.length lcap, .bool true, .slice none 0 0, .pointer p] 35 :: Own 9 1 (.slice la d.slots.length lcap) d.slots.length ((List.replicate k zeros ++ d.slots.drop k).map SV) :: R)) (fun i _ => d.slots.length - (intOf i).toNat)
  case atStart => exact ⟨0, Nat.zero_le _, rfl, by simpa using H9.out⟩
  case round =>
    obtain ⟨k, hk, rfl, hS⟩ := hrel
    clear c1 c2 f1 f2 l1
    have c0 := hS.cell 0
    simp only [List.getElem?_cons_zero] at c0
    by_cases hlt : k < d.slots.length
    · obtain ⟨lg, rfl⟩ := Own.at0 hS.to1 (by omega)
      have hlen : k < ((List.replicate k zeros ++ d.slots.drop k).map SV).length := by simp; omega
      have HLEN := Lib.hid hlen
      clear hlen
      go_wp2_with fail
      go_region_law (go_simp; go_at_call 98; refine (Blank_ok hS.drew).mono ?_; rintro e w1 ⟨rfl, hS1⟩; have c0' := hS1.cell 0; have l1' := hS1.lt; have k1 := Own.cellAt hS1.to1 HLEN.out; have k2 := Own.freeAt (j := k) hS1.to1; have k3 := Own.set (SV zeros) HLEN.out hS1.to1; simp only [List.getElem?_cons_zero] at c0'; rw [List.getElem?_eq_getElem HLEN.out] at k1)
      all_goals
        rw [← List.map_set, blank_step d.slots k hlt] at k3
        have HS := Lib.hid k3.to1
        clear k3 k2 k1 hS hS1 c0 c0'
        go_wp2
        go_roundw
        case rel => exact ⟨k + 1, by omega, by go_num, HS.out⟩
        case measure => simp [intOf]; omega
    · obtain rfl : k = d.slots.length := by omega
      have HS := Lib.hid hS
      clear hS
      go_wp2
      go_end0
      refine ⟨rfl, RDiskP.close (d := .new d.slots.length) (la := la) (lcap := lcap) (pa := none) (pcap := 0) (RDiskM.new_ok _ h64) ?_⟩
      have h := (Own.nil 156 3 HS.out).at2
      simpa [RDiskM.new, wcells] using h

end Go.Proofs.Ytpfhfeccdhmgiaa
