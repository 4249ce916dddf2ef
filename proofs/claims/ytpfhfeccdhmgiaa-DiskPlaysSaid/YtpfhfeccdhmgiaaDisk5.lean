/- What is proved here: lemmas and contracts on the way to this seat's laws, part 'Disk5'; no condition. -/
import Derived.Test.YtpfhfeccdhmgiaaDisk4
namespace Go.Proofs.Ytpfhfeccdhmgiaa
open Go.RowKit

variable {E : Env} {w : World} {R : List HP}

theorem Write_ok {a : Nat} {p : Option Addr} {d : DiskM} {f : FuseM} (s : Int) (ao : Option Addr) (cap : Nat) (l : List UInt8) (hp : d.pend.length ≤ 1000000) (hr : Rd E R ao l) (hS : Sat E w (FuseP p f :: DiskP a p d :: R)) :
    Calls Try.prog 19 #[.pointer (some ⟨a, 0, none⟩), .int .i64 s, .slice ao l.length cap] w fun e w' =>
      e = .returned (.int .i64 (d.write f s l).1) ∧ Sat E w' (FuseP p (d.write f s l).2.2 :: DiskP a p (d.write f s l).2.1 :: R) := by
  unfold DiskM.write
  by_cases h1 : 0 ≤ s ∧ s < d.slots.length
  · by_cases h2 : l.length = 96
    · rw [if_neg (show ¬ (¬ (0 ≤ s ∧ s < d.slots.length) ∨ l.length ≠ 96) by omega)]
      cases hg : d.gone with
      | true =>
        rw [if_pos rfl, h2]
        refine (Write_gone s ao cap h1 hg hS).mono ?_
        rintro e w' ⟨rfl, rfl⟩
        exact ⟨rfl, hS⟩
      | false =>
        rw [if_neg (by simp)]
        cases hf : f.dead with
        | true =>
          rw [if_pos rfl, h2]
          exact Write_dead s ao cap h1 hg hf hS
        | false =>
          rw [if_neg (by simp), h2]
          obtain ⟨n, rfl⟩ : ∃ n : Nat, s = n := ⟨s.toNat, by omega⟩
          cases ao with
          | none =>
            have := (hr w hS.weak.weak).1 rfl
            rw [this] at h2; cases h2
          | some ad =>
            have h := Write_yes n ad cap l h2 (by omega) hg hf hp hr hS
            first | exact h | (rw [hg] at h; exact h) | (rw [← hg]; exact h)
    · rw [if_pos (by omega)]
      refine (Write_len s ao cap l.length h1 h2 hS).mono ?_
      rintro e w' ⟨rfl, rfl⟩
      exact ⟨rfl, hS⟩
  · rw [if_pos (by omega)]
    refine (Write_no s ao cap l.length h1 hS).mono ?_
    rintro e w' ⟨rfl, rfl⟩
    exact ⟨rfl, hS⟩

def DiskM.sync (f : FuseM) (d : DiskM) : Int × DiskM := if d.gone then (5, d) else if f.dead then (4, d) else (0, d.last d.pend.length 0)

set_option maxHeartbeats 400000 in
theorem Sync_ok {a : Nat} {p : Option Addr} {d : DiskM} {f : FuseM} (hp : d.pend.length ≤ 1000000) (hS : Sat E w (FuseP p f :: DiskP a p d :: R)) :
    Calls Try.prog 24 #[.pointer (some ⟨a, 0, none⟩)] w fun e w' => e = .returned (.int .i64 (d.sync f).1) ∧ Sat E w' (FuseP p f :: DiskP a p (d.sync f).2 :: R) := by
  have hD := Dead_ok p f hS
  have hL := last_ok (d.pend.length : Int) 0 (by omega) (by omega) hp hS.to1
  obtain ⟨la, lcap, pa, pcap, gs, hs, hok, hS'⟩ := DiskP.open hS.to1
  have c0 := hS'.cell 0
  have c2 := hS'.cell 2
  have c3 := hS'.cell 3
  simp at c0 c2 c3
  clear hS' hok
  unfold DiskM.sync
  cases hg : d.gone with
  | true =>
    rw [hg] at c3
    rw [if_pos rfl]
    clear hg hL hD
    go_enter Try.func24, Try.ntmps24
    go_wp2_with fail
    go_ret
    exact ⟨rfl, hS⟩
  | false =>
    rw [hg] at c3
    rw [if_neg (by simp)]
    cases hf : f.dead with
    | true =>
      rw [hf] at hD
      rw [if_pos rfl]
      clear hg hf hL
      go_enter Try.func24, Try.ntmps24
      go_wp2_with (go_at_call 35; refine hD.mono ?_; rintro e w' ⟨rfl, rfl⟩)
      go_ret
      exact ⟨rfl, hS⟩
    | false =>
      rw [hf] at hD
      rw [if_neg (by simp)]
      clear hg hf
      go_enter Try.func24, Try.ntmps24
      go_wp2_with (first | (go_at_call 35; refine hD.mono ?_; rintro e w' ⟨rfl, rfl⟩) | (go_at_call 105; refine hL.mono ?_; rintro e w1 ⟨rfl, hS1⟩))
      go_ret
      exact ⟨rfl, hS1.to1⟩

def DiskM.crash (d : DiskM) (keep torn : Int) : DiskM := d.last (max keep 0) (min (max torn 0) 96).toNat

set_option maxHeartbeats 400000 in
theorem Crash_ok {a : Nat} {p : Option Addr} {d : DiskM} (keep torn : Int) (hp : d.pend.length ≤ 1000000) (hS : Sat E w (DiskP a p d :: R)) :
    Calls Try.prog 31 #[.pointer (some ⟨a, 0, none⟩), .int .i64 keep, .int .i64 torn] w fun e w' => e = .returned (.tuple #[]) ∧ Sat E w' (DiskP a p (d.crash keep torn) :: R) := by
  have key : ∀ (k t : Int) (hk : k = max keep 0) (ht : t = min (max torn 0) 96), Calls Try.prog 105 #[.pointer (some ⟨a, 0, none⟩), .int .i64 k, .int .i64 t] w fun e w' => e = .returned (.tuple #[]) ∧ Sat E w' (DiskP a p (d.crash keep torn) :: R) := by
    intro k t hk ht
    obtain ⟨n, hn⟩ : ∃ n : Nat, t = n := ⟨t.toNat, by omega⟩
    have h := last_ok k n (by omega) (by omega) hp hS
    unfold DiskM.crash
    rw [← hk, ← ht, hn]
    exact h
  have K := Lib.hid key
  clear key
  rcases Int.lt_or_le keep 0 with h1 | h1 <;> rcases Int.lt_or_le torn 0 with h2 | h2
  · have H := Lib.hid (K.out 0 0 (by omega) (by omega))
    clear K
    go_enter Try.func31, Try.ntmps31
    go_wp2_with (go_at_call 105; refine H.out.mono ?_; rintro e w1 ⟨rfl, hS1⟩)
    go_end0
    exact ⟨rfl, hS1⟩
  · rcases Int.lt_or_le 96 torn with h3 | h3
    · have H := Lib.hid (K.out 0 96 (by omega) (by omega))
      clear K
      go_enter Try.func31, Try.ntmps31
      go_wp2_with (go_at_call 105; refine H.out.mono ?_; rintro e w1 ⟨rfl, hS1⟩)
      go_end0
      exact ⟨rfl, hS1⟩
    · have H := Lib.hid (K.out 0 torn (by omega) (by omega))
      clear K
      go_enter Try.func31, Try.ntmps31
      go_wp2_with (go_at_call 105; refine H.out.mono ?_; rintro e w1 ⟨rfl, hS1⟩)
      go_end0
      exact ⟨rfl, hS1⟩
  · have H := Lib.hid (K.out keep 0 (by omega) (by omega))
    clear K
    go_enter Try.func31, Try.ntmps31
    go_wp2_with (go_at_call 105; refine H.out.mono ?_; rintro e w1 ⟨rfl, hS1⟩)
    go_end0
    exact ⟨rfl, hS1⟩
  · rcases Int.lt_or_le 96 torn with h3 | h3
    · have H := Lib.hid (K.out keep 96 (by omega) (by omega))
      clear K
      go_enter Try.func31, Try.ntmps31
      go_wp2_with (go_at_call 105; refine H.out.mono ?_; rintro e w1 ⟨rfl, hS1⟩)
      go_end0
      exact ⟨rfl, hS1⟩
    · have H := Lib.hid (K.out keep torn (by omega) (by omega))
      clear K
      go_enter Try.func31, Try.ntmps31
      go_wp2_with (go_at_call 105; refine H.out.mono ?_; rintro e w1 ⟨rfl, hS1⟩)
      go_end0
      exact ⟨rfl, hS1⟩

theorem now_rd {a : Nat} {p : Option Addr} {d : DiskM} {la : Option Addr} {lcap : Nat} {pa : Option Addr} {pcap : Nat} {gs hs : List (Nat × Nat)} (hok : d.ok ∧ gs.length = d.slots.length ∧ hs.length = d.pend.length) {s : Nat} {x : Nat × Nat} (hs1 : s < d.slots.length) (hn : NowAt d gs hs s x)
    (hS : LastS E w R a p d la lcap pa pcap gs hs d.slots) : RB w (some ⟨x.1, 0, none⟩) (d.now s) ∧ (d.now s).length = 96 := by
  rcases hn with ⟨i, b, h1, h2, h3⟩ | ⟨h1, h2⟩
  · rw [now_of_pend h1 h3]
    obtain ⟨hi, hib⟩ := List.getElem?_eq_some_iff.1 h1
    obtain ⟨hj, hjb⟩ := List.getElem?_eq_some_iff.1 h2
    exact ⟨LastS.rd hS hj hi hjb hib, (hok.1.2.1 _ (List.mem_of_getElem? h1)).2⟩
  · rw [now_of_slot h1]
    obtain ⟨hj, hjb⟩ := List.getElem?_eq_some_iff.1 h2
    refine ⟨RB.ofBytes (LastS.get hS hj hs1 hjb), ?_⟩
    rw [show d.slots.getD s [] = d.slots[s] from by simp [List.getD, hs1]]
    exact hok.1.1 _ (List.getElem_mem hs1)

set_option maxHeartbeats 400000 in
theorem Read_no {a : Nat} {p : Option Addr} {d : DiskM} (s : Int) (h : ¬ (0 ≤ s ∧ s < d.slots.length)) (hS : Sat E w (DiskP a p d :: R)) :
    Calls Try.prog 22 #[.pointer (some ⟨a, 0, none⟩), .int .i64 s] w fun e w' => e = .returned (.tuple #[.slice none 0 0, .int .i64 1]) ∧ w = w' := by
  have hi := is_ok s hS
  rw [decide_eq_false h] at hi
  go_enter Try.func22, Try.ntmps22
  go_wp2_with (go_at_call 99; refine hi.mono ?_; rintro e w' ⟨rfl, rfl⟩)
  go_ret2
  exact ⟨rfl, rfl⟩

set_option maxHeartbeats 400000 in
theorem Read_gone {a : Nat} {p : Option Addr} {d : DiskM} (s : Int) (h : 0 ≤ s ∧ s < d.slots.length) (hg : d.gone = true) (hS : Sat E w (DiskP a p d :: R)) :
    Calls Try.prog 22 #[.pointer (some ⟨a, 0, none⟩), .int .i64 s] w fun e w' => e = .returned (.tuple #[.slice none 0 0, .int .i64 5]) ∧ w = w' := by
  have hi := is_ok s hS
  rw [decide_eq_true h] at hi
  obtain ⟨la, lcap, pa, pcap, gs, hs, _, hS⟩ := DiskP.open hS
  have c3 := hS.cell 3
  rw [hg] at c3
  simp at c3
  clear hg
  go_enter Try.func22, Try.ntmps22
  go_wp2_with (go_at_call 99; refine hi.mono ?_; rintro e w' ⟨rfl, rfl⟩)
  go_ret2
  exact ⟨rfl, rfl⟩

set_option maxHeartbeats 400000 in
theorem Read_yes {a : Nat} {p : Option Addr} {d : DiskM} (s : Nat) (h : s < d.slots.length) (hg : d.gone = false) (hp : d.pend.length ≤ 1000000) (hS : Sat E w (DiskP a p d :: R)) :
    Calls Try.prog 22 #[.pointer (some ⟨a, 0, none⟩), .int .i64 s] w fun e w' => ∃ g c, e = .returned (.tuple #[.slice (some ⟨g, 0, none⟩) 96 c, .int .i64 0]) ∧ Sat E w' (BytesP (.slice (some ⟨g, 0, none⟩) 96 c) (d.now s) :: DiskP a p d :: R) := by
  have hi := is_ok (s : Int) hS
  rw [decide_eq_true (show 0 ≤ (s : Int) ∧ (s : Int) < d.slots.length by omega)] at hi
  obtain ⟨la, lcap, pa, pcap, gs, hs, hok, hS⟩ := DiskP.open hS
  have c3 := hS.cell 3
  rw [hg] at c3
  simp at c3
  have hnow := now_ok hok s h hp hS
  have HOK := Lib.hid hok
  have HS : Hid (LastS E w R a p d la lcap pa pcap gs hs d.slots) := Lib.hid hS
  have HG := Lib.hid hg
  clear hg hok hS
  go_enter Try.func22, Try.ntmps22
  go_wp2_with (first
    | (go_at_call 99; refine hi.mono ?_; rintro e w' ⟨rfl, rfl⟩)
    | (go_at_call 104; refine hnow.mono ?_; rintro e w1 ⟨⟨x, rfl, hn⟩, hb⟩; have hS1 := Sat.ofBelow HS.out hb; have hrd := now_rd HOK.out h hn hS1; clear hnow hi c3)
    | (go_at_call 101; refine (Clone_n _ _ (d.now s) hrd.2 (by omega) hrd.1 hS1).mono ?_; rintro e w2 ⟨g, c, rfl, hS2⟩; have HS2 := Lib.hid hS2; clear hS2 hrd hS1))
  go_ret2
  exact ⟨g, c, rfl, Sat.to1 (DiskP.close HOK.out HS2.out.at5)⟩

end Go.Proofs.Ytpfhfeccdhmgiaa
