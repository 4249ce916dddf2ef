/- What is proved here: lemmas and contracts on the way to this seat's laws, part 'RDisk5'; no condition. -/
import Derived.Test.YtpfhfeccdhmgiaaRDisk4
import Derived.StillTailTactics
namespace Go.Proofs.Ytpfhfeccdhmgiaa
open Go.RowKit

variable {E : Env} {w : World} {R : List HP}

/-- The last write to a slot has other bytes. -/
def nowLast (s : Nat) (b : List UInt8) : List (Nat × List UInt8 × List UInt8) → Option (List (Nat × List UInt8 × List UInt8))
  | [] => none
  | q :: l => match nowLast s b l with
    | some l' => some (q :: l')
    | none => if q.1 = s then some ((q.1, q.2.1, b) :: l) else none

theorem nowLast_none {s : Nat} {b : List UInt8} : ∀ {l : List (Nat × List UInt8 × List UInt8)}, (∀ q ∈ l, q.1 ≠ s) → nowLast s b l = none
  | [], _ => rfl
  | q :: l, h => by
    rw [nowLast, nowLast_none (fun x hx => h x (List.mem_cons_of_mem _ hx))]
    simp [h q (by simp)]

theorem nowLast_at {s : Nat} {b : List UInt8} : ∀ {l : List (Nat × List UInt8 × List UInt8)} {i : Nat} {u v : List UInt8}, l[i]? = some (s, u, v) → (∀ (j : Nat) (q : Nat × List UInt8 × List UInt8), i < j → l[j]? = some q → q.1 ≠ s) → nowLast s b l = some (l.set i (s, u, b))
  | [], i, u, v, h, _ => by simp at h
  | q :: l, 0, u, v, h, h2 => by
    simp at h
    subst h
    rw [nowLast, nowLast_none]
    · simp
    · intro x hx
      obtain ⟨j, hj, rfl⟩ := List.getElem_of_mem hx
      exact h2 (j + 1) _ (by omega) (by simp)
  | q :: l, i + 1, u, v, h, h2 => by
    rw [nowLast, nowLast_at (l := l) (i := i) (u := u) (v := v) (by simpa using h) (fun j x hj hx => h2 (j + 1) x (by omega) (by simpa using hx))]
    simp

def RDiskM.rot (d : RDiskM) (s at_ : Nat) (by_ : UInt8) : RDiskM :=
  { d with slots := d.slots.set s (turn at_ by_ (d.slots.getD s [])), wait := (nowLast s (turn at_ by_ (d.slots.getD s [])) d.wait).getD d.wait }

set_option maxHeartbeats 400000 in
theorem RRot_no1 {a : Nat} {p : Option Addr} {d : RDiskM} (s at_ by_ : Int) (h : ¬ (0 ≤ s ∧ s < d.slots.length)) (hS : Sat E w (RDiskP a p d :: R)) :
    Calls Try.prog 30 #[.pointer (some ⟨a, 0, none⟩), .int .i64 s, .int .i64 at_, .int .u8 by_] w fun e w' => e = .returned (.bool false) ∧ w = w' := by
  have hi := slot_ok s hS
  rw [decide_eq_false h] at hi
  go_enter Try.func30, Try.ntmps30
  go_wp2_with (go_at_call 102; refine hi.mono ?_; rintro e w' ⟨rfl, rfl⟩)
  go_ret
  exact ⟨rfl, rfl⟩

set_option maxHeartbeats 400000 in
theorem RRot_no2 {a : Nat} {p : Option Addr} {d : RDiskM} (s at_ by_ : Int) (h : 0 ≤ s ∧ s < d.slots.length) (h2 : at_ < 0 ∨ 95 < at_) (hS : Sat E w (RDiskP a p d :: R)) :
    Calls Try.prog 30 #[.pointer (some ⟨a, 0, none⟩), .int .i64 s, .int .i64 at_, .int .u8 by_] w fun e w' => e = .returned (.bool false) ∧ w = w' := by
  have hi := slot_ok s hS
  rw [decide_eq_true h] at hi
  rcases h2 with h2 | h2
  · go_enter Try.func30, Try.ntmps30
    go_wp2_with (go_at_call 102; refine hi.mono ?_; rintro e w' ⟨rfl, rfl⟩)
    go_ret
    exact ⟨rfl, rfl⟩
  · have h3 : ¬ at_ < 0 := by omega
    go_enter Try.func30, Try.ntmps30
    go_wp2_with (go_at_call 102; refine hi.mono ?_; rintro e w' ⟨rfl, rfl⟩)
    go_ret
    exact ⟨rfl, rfl⟩

set_option maxHeartbeats 400000 in
theorem RRot_no3 {a : Nat} {p : Option Addr} {d : RDiskM} (s at_ by_ : Int) (h : 0 ≤ s ∧ s < d.slots.length) (h2 : 0 ≤ at_) (h3 : at_ ≤ 95) (hg : d.live = false) (hS : Sat E w (RDiskP a p d :: R)) :
    Calls Try.prog 30 #[.pointer (some ⟨a, 0, none⟩), .int .i64 s, .int .i64 at_, .int .u8 by_] w fun e w' => e = .returned (.bool false) ∧ w = w' := by
  have hi := slot_ok s hS
  rw [decide_eq_true h] at hi
  obtain ⟨la, lcap, pa, pcap, _, hS⟩ := RDiskP.open hS
  have c3 := hS.cell 1
  rw [hg] at c3
  simp at c3
  clear hg
  go_enter Try.func30, Try.ntmps30
  go_wp2_with (go_at_call 102; refine hi.mono ?_; rintro e w' ⟨rfl, rfl⟩)
  go_ret
  exact ⟨rfl, rfl⟩

theorem RRot_done1 {a s at_ lg lcap : Nat} {pa p : Option Addr} {pcap : Nat} {by_ : UInt8} {d : RDiskM} {x : List UInt8} {v : Value} (hok : d.ok) (h : s < d.slots.length) (hx : d.slots.getD s [] = x) (hxt : (turn at_ by_ x).length = 96) (hno : ∀ q ∈ d.wait, q.1 ≠ s)
    (hS : Sat E w (PT a [.slice (some ⟨lg, 0, none⟩) d.slots.length lcap, .bool d.live, .slice pa d.wait.length pcap, .pointer p] 35 ::
    Own 9 1 (.slice (some ⟨lg, 0, none⟩) d.slots.length lcap) d.slots.length ((d.slots.set s (turn at_ by_ x)).map SV) :: BytesM v (turn at_ by_ x) ::
    Own 156 3 (.slice pa d.wait.length pcap) d.wait.length (wcells d.wait) :: R)) : Sat E w (RDiskP a p (d.rot s at_ by_) :: R) := by
  subst hx
  refine RDiskP.close (d := d.rot s at_ by_) (la := some ⟨lg, 0, none⟩) (lcap := lcap) (pa := pa) (pcap := pcap) ?_ ?_
  · refine ⟨fun q hq => ?_, fun q hq => ?_, ?_⟩
    · rcases List.mem_or_eq_of_mem_set hq with hq | rfl
      · exact hok.1 _ hq
      · exact hxt
    · simp only [RDiskM.rot, nowLast_none hno, Option.getD_none] at hq
      simpa [RDiskM.rot] using hok.2.1 q hq
    · simpa [RDiskM.rot] using hok.2.2
  · simp only [RDiskM.rot, nowLast_none hno, Option.getD_none, List.length_set]
    exact hS.to2.weak

theorem wcells_set : ∀ {l : List (Nat × List UInt8 × List UInt8)} {k : Nat} {t : Nat × List UInt8 × List UInt8} (_ : l[k]? = some t) (b : List UInt8), (wcells l).set (k * 3 + 2) (SV b) = wcells (l.set k (t.1, t.2.1, b))
  | [], k, t, h, b => by simp at h
  | x :: l, 0, t, h, b => by
    simp at h; subst h
    simp [wcells]
  | x :: l, k + 1, t, h, b => by
    have h := wcells_set (l := l) (k := k) (t := t) (by simpa using h) b
    have e3 : (k + 1) * 3 + 2 = k * 3 + 2 + 3 := by omega
    rw [e3]
    unfold wcells at h ⊢
    simpa using h

theorem RRot_done2 {a s at_ lg lcap k : Nat} {pa p : Option Addr} {pcap : Nat} {by_ : UInt8} {d : RDiskM} {x : List UInt8} {u : List UInt8 × List UInt8} {v : Value} (hok : d.ok) (h : s < d.slots.length) (hx : d.slots.getD s [] = x) (hxt : (turn at_ by_ x).length = 96) (hk : d.wait[k]? = some (s, u)) (hno : ∀ (j : Nat) (q : Nat × List UInt8 × List UInt8), k + 1 ≤ j → d.wait[j]? = some q → q.1 ≠ s)
    (hS : Sat E w (Own 156 3 (.slice pa d.wait.length pcap) d.wait.length ((wcells d.wait).set (k * 3 + 2) (SV (turn at_ by_ x))) :: PT a [.slice (some ⟨lg, 0, none⟩) d.slots.length lcap, .bool d.live, .slice pa d.wait.length pcap, .pointer p] 35 ::
    Own 9 1 (.slice (some ⟨lg, 0, none⟩) d.slots.length lcap) d.slots.length ((d.slots.set s (turn at_ by_ x)).map SV) :: BytesM v (turn at_ by_ x) :: R)) : Sat E w (RDiskP a p (d.rot s at_ by_) :: R) := by
  subst hx
  have e := nowLast_at (b := turn at_ by_ (d.slots.getD s [])) hk (fun j q h1 h2 => hno j q h1 h2)
  refine RDiskP.close (d := d.rot s at_ by_) (la := some ⟨lg, 0, none⟩) (lcap := lcap) (pa := pa) (pcap := pcap) ?_ ?_
  · refine ⟨fun q hq => ?_, fun q hq => ?_, ?_⟩
    · rcases List.mem_or_eq_of_mem_set hq with hq | rfl
      · exact hok.1 _ hq
      · exact hxt
    · simp only [RDiskM.rot, e, Option.getD_some] at hq
      rcases List.mem_or_eq_of_mem_set hq with hq | rfl
      · simpa [RDiskM.rot] using hok.2.1 q hq
      · have h9 := hok.2.1 _ (List.mem_of_getElem? hk)
        exact ⟨by simpa [RDiskM.rot] using h, h9.2.1, hxt⟩
    · simpa [RDiskM.rot] using hok.2.2
  · simp only [RDiskM.rot, e, Option.getD_some, List.length_set]
    rw [wcells_set hk] at hS
    exact hS.pk 4 [1, 2, 0]

set_option maxHeartbeats 2000000 in
set_option maxRecDepth 100000 in
theorem RRot_yes {a : Nat} {p : Option Addr} {d : RDiskM} (s at_ : Nat) (by_ : UInt8) (h : s < d.slots.length) (h3 : at_ < 96) (hg : d.live = true) (hp : d.wait.length ≤ 1000000) (hS : Sat E w (RDiskP a p d :: R)) :
    Calls Try.prog 30 #[.pointer (some ⟨a, 0, none⟩), .int .i64 s, .int .i64 at_, .int .u8 by_.toNat] w fun e w' => e = .returned (.bool true) ∧ Sat E w' (RDiskP a p (d.rot s at_ by_) :: R) := by
  have hi := slot_ok (s : Int) hS
  rw [decide_eq_true (show 0 ≤ (s : Int) ∧ (s : Int) < d.slots.length by omega)] at hi
  obtain ⟨la, lcap, pa, pcap, hok, hS⟩ := RDiskP.open hS
  obtain ⟨lg, rfl⟩ := Own.at0 hS.to1 (by omega)
  have c0 := hS.cell 0
  have c1 := hS.cell 1
  have c2 := hS.cell 2
  rw [hg] at c1
  simp only [List.getElem?_cons_zero, List.getElem?_cons_succ] at c0 c1 c2
  have l0 := hS.lt
  have l1 := Own.lt hS.to1
  have q2 := (Own.cellAt hS.to1 (j := s) (by simpa using h)).trans (show (d.slots.map SV)[s]? = some (SV (d.slots.getD s [])) by simp [h, List.getD])
  obtain ⟨x, hx⟩ : ∃ x, d.slots.getD s [] = x := ⟨_, rfl⟩
  have hx96 : x.length = 96 := by
    rw [← hx, show d.slots.getD s [] = d.slots[s] from by simp [List.getD, h]]
    exact hok.1 _ (List.getElem_mem h)
  rw [hx] at q2
  obtain ⟨c, W1, hrun, hS1, hb1⟩ := run_bytes_of (P := Try.prog) 9 37 Try.underlying9 Try.underlying37 Try.underlying5 x hS
  rw [hx96] at hrun hS1
  have k0 := hS1.to1.cell 0
  have k1 := hS1.to1.cell 1
  have k2 := hS1.to1.cell 2
  rw [hg] at k1
  simp only [List.getElem?_cons_zero, List.getElem?_cons_succ] at k0 k1 k2
  obtain ⟨b1, b2⟩ := BytesM.at at_ (by rw [hx96]; exact h3) hS1
  have hSx := BytesM.set at_ (by rw [hx96]; exact h3) (x.getD at_ 0 ^^^ by_) hS1
  have hxt : (turn at_ by_ x).length = 96 := by rw [turn_length, hx96]
  rw [show x.set at_ (x.getD at_ 0 ^^^ by_) = turn at_ by_ x from rfl] at hSx
  have HS := Lib.hid hSx
  have HOK := Lib.hid hok
  have HX := Lib.hid hx
  have HX96 := Lib.hid hx96
  have HXT := Lib.hid hxt
  have HG := Lib.hid hg
  have HS0 := Lib.hid hS
  clear hok hx hg hx96 hS1 hSx hb1 hS hxt
  go_enter Try.func30, Try.ntmps30
  go_wp2_with (go_at_call 102; refine hi.mono ?_; rintro e w' ⟨rfl, rfl⟩)
  rw [bits_xor_u8]
  obtain ⟨W, hW⟩ : ∃ W, W1.setCell ⟨w.heap.size, at_, none⟩ (Value.int .u8 ((x[at_]?.getD 0 ^^^ by_).toNat : Int)) = W := ⟨_, rfl⟩
  rw [hW]
  have hS2 := HS.out
  rw [List.getD_eq_getElem?_getD, show W1.setCell ⟨w.heap.size, at_, none⟩ (BV (x[at_]?.getD 0 ^^^ by_)) = W from hW] at hS2
  clear hW HS hrun b1 b2 k0 k1 k2 q2 c0 c1 c2 l0 l1 HS0
  have c0 := hS2.to1.cell 0
  simp only [List.getElem?_cons_zero, List.getElem?_cons_succ] at c0
  have l0 := hS2.to1.lt
  have l1 := Own.lt hS2.to2
  have f1 := Own.freeAt (j := s) hS2.to2
  have q2 := (Own.cellAt hS2.to2 (j := s) (by simpa using h)).trans (show (d.slots.map SV)[s]? = some (SV x) by rw [← HX.out]; simp [h, List.getD])
  have hcv := run_string_of (P := Try.prog) 37 9 Try.underlying37 Try.underlying5 Try.underlying9 (some ⟨w.heap.size, 0, none⟩) c (turn at_ by_ x) (BytesM.rd hS2)
  have hcv2 := run_string_of (P := Try.prog) 37 9 Try.underlying37 Try.underlying5 Try.underlying9 (some ⟨w.heap.size, 0, none⟩) c (turn at_ by_ x) (BytesM.rd hS2.drew)
  rw [HXT.out] at hcv hcv2
  have hS3 := (Own.set (SV (turn at_ by_ x)) (by simpa using h) hS2.to2).to2
  rw [← List.map_set] at hS3
  have c2 := hS3.cell 2
  rw [show SV (turn at_ by_ x) = Value.string ⟨(turn at_ by_ x).toArray⟩ from rfl] at c2
  simp only [List.getElem?_cons_zero, List.getElem?_cons_succ] at c2
  have HS3 := Lib.hid hS3
  clear hS2 hS3
  go_still_tail 8, (by kernel_rfl)
  go_wp2
  clear hcv hcv2 q2 f1 c0 l0 l1 c2
  go_loopw [10] (fun i wr => (∃ k : Nat, k ≤ d.wait.length ∧ i = .int .i64 ((k : Int) - 1) ∧ ∀ (j : Nat) (q : Nat × List UInt8 × List UInt8), k ≤ j → d.wait[j]? = some q → q.1 ≠ s) ∧ Sat E wr (PT a [.slice (some ⟨lg, 0, none⟩) d.slots.length lcap, .bool d.live, .slice pa d.wait.length pcap, .pointer p] 35 ::
    Own 9 1 (.slice (some ⟨lg, 0, none⟩) d.slots.length lcap) d.slots.length ((d.slots.set s (turn at_ by_ x)).map SV) :: BytesM (.slice (some ⟨w.heap.size, 0, none⟩) 96 c) (turn at_ by_ x) ::
    Own 156 3 (.slice pa d.wait.length pcap) d.wait.length (wcells d.wait) :: R)) (fun i _ => (intOf i + 1).toNat)
  case atStart => exact ⟨⟨d.wait.length, Nat.le_refl _, by go_num, fun j q h1 h2 => by have := (List.getElem?_eq_some_iff.1 h2).1; omega⟩, HS3.out.drew⟩
  case round =>
    obtain ⟨⟨k, hk, rfl, hno⟩, hS⟩ := hrel
    have HNO := Lib.hid hno
    clear hno HS3
    rcases Nat.eq_zero_or_pos k with rfl | hpos
    · have HS := Lib.hid hS
      clear hS
      go_wp2
      go_ret
      refine ⟨rfl, RRot_done1 HOK.out h HX.out HXT.out (fun q hq => ?_) HS.out⟩
      obtain ⟨j, hj, rfl⟩ := List.getElem_of_mem hq
      exact HNO.out j _ (Nat.zero_le _) (by simp [hj])
    · obtain ⟨k, rfl⟩ : ∃ k', k = k' + 1 := ⟨k - 1, by omega⟩
      obtain ⟨pg, rfl⟩ := Own.at0 hS.to3 (by omega)
      have c2 := hS.cell 2
      have l0 := hS.lt
      have l1 := Own.lt hS.to3
      have w3 := wcells_get d.wait k (by omega)
      have hwl := wcells_length d.wait
      have q0 := (Own.cellAt hS.to3 (j := k * 3) (by rw [hwl]; omega)).trans w3.1
      have q2 := (Own.cellAt hS.to3 (j := k * 3 + 2) (by rw [hwl]; omega)).trans w3.2.2
      have f1 := Own.freeAt (j := k * 3 + 2) hS.to3
      have hset := Own.set (j := k * 3 + 2) (SV (turn at_ by_ x)) (by rw [hwl]; omega) hS.to3
      have hcv := run_string_of (P := Try.prog) 37 9 Try.underlying37 Try.underlying5 Try.underlying9 (some ⟨w.heap.size, 0, none⟩) c (turn at_ by_ x) (BytesM.rd hS.to2)
      have hcv2 := run_string_of (P := Try.prog) 37 9 Try.underlying37 Try.underlying5 Try.underlying9 (some ⟨w.heap.size, 0, none⟩) c (turn at_ by_ x) (BytesM.rd hS.to2.drew)
      rw [HXT.out] at hcv hcv2
      simp only [List.getElem?_cons_zero, List.getElem?_cons_succ] at c2
      have HS := Lib.hid hS
      have HSET := Lib.hid hset
      have ek : ((k + 1 : Nat) : Int) - 1 = (k : Int) := by omega
      rw [ek]
      obtain ⟨t, ht⟩ : ∃ t, d.wait[k] = t := ⟨_, rfl⟩
      rw [ht] at q0 q2
      have HT := Lib.hid ht
      clear hS w3 ek hwl hset ht
      by_cases hs : t.1 = s
      · subst hs
        go_wp2
        have hk' : k < d.wait.length := by omega
        go_still_tail 9, (by kernel_rfl)
        go_wp2
        go_ret
        exact ⟨rfl, RRot_done2 HOK.out h HX.out HXT.out (k := k) (u := t.2) (by rw [List.getElem?_eq_getElem (by omega), HT.out]) HNO.out HSET.out.drew⟩
      · have hsb : ((t.1 : Int) == (s : Int)) = false := by rw [beq_eq_false_iff_ne]; omega
        go_wp2
        go_roundw
        case rel =>
          refine ⟨⟨k, by omega, by go_num, fun j q h1 h2 => ?_⟩, HS.out⟩
          by_cases e : j = k
          · subst e
            rw [List.getElem?_eq_getElem (by omega), HT.out] at h2
            cases h2
            exact hs
          · exact HNO.out j q (by omega) h2
        case measure => simp [intOf]

end Go.Proofs.Ytpfhfeccdhmgiaa
