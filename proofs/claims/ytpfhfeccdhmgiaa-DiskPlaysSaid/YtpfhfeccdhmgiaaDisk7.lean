/- What is proved here: lemmas and contracts on the way to this seat's laws, part 'Disk7'; no condition. -/
import Derived.Test.YtpfhfeccdhmgiaaDisk6
import Derived.Test.YtpfhfeccdhmgiaaBits8
namespace Go.Proofs.Ytpfhfeccdhmgiaa
open Go.RowKit

variable {E : Env} {w : World} {R : List HP}

/-- A byte is turned. -/
def turn (at_ : Nat) (by_ : UInt8) (b : List UInt8) : List UInt8 := b.set at_ (b.getD at_ 0 ^^^ by_)

theorem turn_length (at_ : Nat) (by_ : UInt8) (b : List UInt8) : (turn at_ by_ b).length = b.length := by simp [turn]

/-- The last write to a slot is turned. -/
def turnLast (s : Nat) (f : List UInt8 → List UInt8) : List (Nat × List UInt8) → Option (List (Nat × List UInt8))
  | [] => none
  | q :: l => match turnLast s f l with
    | some l' => some (q :: l')
    | none => if q.1 = s then some ((q.1, f q.2) :: l) else none

theorem turnLast_none {s : Nat} {f : List UInt8 → List UInt8} : ∀ {l : List (Nat × List UInt8)}, (∀ q ∈ l, q.1 ≠ s) → turnLast s f l = none
  | [], _ => rfl
  | q :: l, h => by
    rw [turnLast, turnLast_none (fun x hx => h x (List.mem_cons_of_mem _ hx))]
    simp [h q (by simp)]

theorem turnLast_at {s : Nat} {f : List UInt8 → List UInt8} : ∀ {l : List (Nat × List UInt8)} {i : Nat} {b : List UInt8}, l[i]? = some (s, b) → (∀ (j : Nat) (q : Nat × List UInt8), i < j → l[j]? = some q → q.1 ≠ s) → turnLast s f l = some (l.set i (s, f b))
  | [], i, b, h, _ => by simp at h
  | q :: l, 0, b, h, h2 => by
    simp at h
    subst h
    rw [turnLast, turnLast_none]
    · simp
    · intro x hx
      obtain ⟨j, hj, rfl⟩ := List.getElem_of_mem hx
      exact h2 (j + 1) _ (by omega) (by simp)
  | q :: l, i + 1, b, h, h2 => by
    rw [turnLast, turnLast_at (l := l) (i := i) (b := b) (by simpa using h) (fun j x hj hx => h2 (j + 1) x (by omega) (by simpa using hx))]
    simp

def DiskM.rot (d : DiskM) (s at_ : Nat) (by_ : UInt8) : DiskM := match turnLast s (turn at_ by_) d.pend with
  | some l => { d with pend := l }
  | none => { d with slots := d.slots.set s (turn at_ by_ (d.slots.getD s [])) }

theorem pendPs_set {hs : List (Nat × Nat)} {l : List (Nat × List UInt8)} {i : Nat} (h1 : i < hs.length) (s : Nat) (b : List UInt8) : (pendPs hs l).set i (BytesP (sl hs[i]) b) = pendPs hs (l.set i (s, b)) := by
  apply List.ext_getElem?
  intro j
  simp only [pendPs, List.getElem?_set, List.getElem?_zipWith, List.length_zipWith]
  by_cases e : i = j
  · subst e
    by_cases h2 : i < l.length
    · simp [h1, h2]; omega
    · simp [h1, h2]; omega
  · simp [e]

theorem pcells_set {l : List (Nat × List UInt8)} {hs : List (Nat × Nat)} {i s : Nat} {b c : List UInt8} (h : l[i]? = some (s, b)) : pcells (l.set i (s, c)) hs = pcells l hs := by
  obtain ⟨hi, hib⟩ := List.getElem?_eq_some_iff.1 h
  unfold pcells
  have e : ∀ (l : List (Nat × List UInt8)) (hs : List (Nat × Nat)), (l.zip hs).flatMap (fun p => [Value.int .i64 (p.1.1 : Int), sl p.2]) = ((l.map (·.1)).zip hs).flatMap (fun p => [Value.int .i64 (p.1 : Int), sl p.2]) := by
    intro l
    induction l with
    | nil => intro hs; rfl
    | cons x l ih =>
      intro hs
      cases hs with
      | nil => rfl
      | cons y hs => simp only [List.zip_cons_cons, List.flatMap_cons, List.map_cons]; rw [ih hs]
  rw [e, e]
  congr 2
  rw [List.map_set]
  apply List.ext_getElem?
  intro j
  rw [List.getElem?_set]
  by_cases ej : i = j
  · subst ej
    simp [hib, hi]
  · simp [ej]

/-- A store into a slot's bytes. -/
theorem BytesP.set {g n c : Nat} {l : List UInt8} (i : Nat) (hi : i < l.length) (u : UInt8) (hS : Sat E w (BytesP (.slice (some ⟨g, 0, none⟩) n c) l :: R)) : Sat E (w.setCell ⟨g, i, none⟩ (BV u)) (BytesP (.slice (some ⟨g, 0, none⟩) n c) (l.set i u) :: R) := by
  obtain ⟨hx, h⟩ := Own.cases hS
  rcases h with ⟨h, _⟩ | ⟨g', cap, junk, h, hn, hc, hj, hp⟩
  · cases h
  · cases h
    have h2 := hp.store i (BV u)
    rw [List.set_append_left i (BV u) (by simpa using hi), ← List.map_set] at h2
    have h3 := Own.mk (n := (l.set i u).length) (size := 1) (cap := c) junk (by simp) (by simpa using hn) hc (by simp at hj ⊢; omega) h2
    unfold BytesP
    simp only [List.length_set] at h3 ⊢
    exact h3

theorem BytesP.at {g n c : Nat} {l : List UInt8} (i : Nat) (hi : i < l.length) (hS : Sat E w (BytesP (.slice (some ⟨g, 0, none⟩) n c) l :: R)) : w.cell? ⟨g, i, none⟩ = some (BV (l.getD i 0)) ∧ w.frozen? ⟨g, i, none⟩ = false := by
  obtain ⟨hx, h⟩ := Own.cases hS
  rcases h with ⟨h, _⟩ | ⟨g', cap, junk, h, hn, hc, hj, hp⟩
  · cases h
  · cases h
    refine ⟨?_, hp.free i⟩
    rw [hp.cell, List.getElem?_append_left (by simpa using hi)]
    simp [List.getD, hi]

/-- What a slot's bytes become where one is turned. -/
theorem rot_put {a : Nat} {p : Option Addr} {d : DiskM} {la : Option Addr} {lcap : Nat} {pa : Option Addr} {pcap : Nat} {gs hs : List (Nat × Nat)} (hok : d.ok ∧ gs.length = d.slots.length ∧ hs.length = d.pend.length) {s at_ : Nat} {x : Nat × Nat} (by_ : UInt8) (hs1 : s < d.slots.length) (hat : at_ < 96) (hn : NowAt d gs hs s x)
    (hS : LastS E w R a p d la lcap pa pcap gs hs d.slots) :
    w.cell? ⟨x.1, at_, none⟩ = some (BV ((d.now s).getD at_ 0)) ∧ w.frozen? ⟨x.1, at_, none⟩ = false ∧ Sat E (w.setCell ⟨x.1, at_, none⟩ (BV ((d.now s).getD at_ 0 ^^^ by_))) (DiskP a p (d.rot s at_ by_) :: R) := by
  obtain ⟨⟨o1, o2, o3⟩, hg, hh⟩ := hok
  rcases hn with ⟨i, b, h1, h2, h3⟩ | ⟨h1, h2⟩
  · rw [now_of_pend h1 h3]
    obtain ⟨hi, hib⟩ := List.getElem?_eq_some_iff.1 h1
    obtain ⟨hj, hjb⟩ := List.getElem?_eq_some_iff.1 h2
    have hb := (o2 _ (List.mem_of_getElem? h1))
    have h := Sat.out i (pendPs_get hj hi) (Sat.to4 hS)
    rw [hib, hjb] at h
    obtain ⟨k1, k2⟩ := BytesP.at at_ (by rw [hb.2]; exact hat) h
    refine ⟨k1, k2, ?_⟩
    have h9 := Sat.back i (BytesP.set at_ (by rw [hb.2]; exact hat) (b.getD at_ 0 ^^^ by_) h)
    have e := pendPs_set (hs := hs) (l := d.pend) hj s (turn at_ by_ b)
    rw [hjb] at e
    unfold turn at e
    rw [e] at h9
    unfold DiskM.rot
    rw [turnLast_at h1 h3]
    refine DiskP.close (d := { d with pend := d.pend.set i (s, turn at_ by_ b) }) (la := la) (lcap := lcap) (pa := pa) (pcap := pcap) (gs := gs) (hs := hs) ⟨⟨o1, ?_, o3⟩, hg, by simpa using hh⟩ ?_
    · intro q hq
      rcases List.mem_or_eq_of_mem_set hq with hq | rfl
      · exact o2 q hq
      · exact ⟨hb.1, by rw [turn_length]; exact hb.2⟩
    · dsimp only
      rw [List.length_set, pcells_set h1]
      exact h9.at4
  · rw [now_of_slot h1]
    obtain ⟨hj, hjb⟩ := List.getElem?_eq_some_iff.1 h2
    have h := LastS.get hS hj hs1 hjb
    have h96 : (d.slots.getD s []).length = 96 := by
      rw [show d.slots.getD s [] = d.slots[s] from by simp [List.getD, hs1]]
      exact o1 _ (List.getElem_mem hs1)
    obtain ⟨k1, k2⟩ := BytesP.at at_ (by rw [h96]; exact hat) h
    refine ⟨k1, k2, ?_⟩
    have h9 := LastS.put hj hjb (BytesP.set at_ (by rw [h96]; exact hat) ((d.slots.getD s []).getD at_ 0 ^^^ by_) h)
    unfold DiskM.rot
    rw [turnLast_none h1]
    refine DiskP.close (d := { d with slots := d.slots.set s (turn at_ by_ (d.slots.getD s [])) }) (la := la) (lcap := lcap) (pa := pa) (pcap := pcap) (gs := gs) (hs := hs) ⟨⟨?_, ?_, ?_⟩, ?_, hh⟩ ?_
    · intro q hq
      rcases List.mem_or_eq_of_mem_set hq with hq | rfl
      · exact o1 q hq
      · rw [turn_length]; exact h96
    · intro q hq; simpa using o2 q hq
    · simpa using o3
    · simpa using hg
    · dsimp only
      rw [List.length_set]
      exact h9

set_option maxHeartbeats 400000 in
theorem Rot_no1 {a : Nat} {p : Option Addr} {d : DiskM} (s at_ by_ : Int) (h : ¬ (0 ≤ s ∧ s < d.slots.length)) (hS : Sat E w (DiskP a p d :: R)) :
    Calls Try.prog 29 #[.pointer (some ⟨a, 0, none⟩), .int .i64 s, .int .i64 at_, .int .u8 by_] w fun e w' => e = .returned (.bool false) ∧ w = w' := by
  have hi := is_ok s hS
  rw [decide_eq_false h] at hi
  go_enter Try.func29, Try.ntmps29
  go_wp2_with (go_at_call 99; refine hi.mono ?_; rintro e w' ⟨rfl, rfl⟩)
  go_ret
  exact ⟨rfl, rfl⟩

set_option maxHeartbeats 400000 in
theorem Rot_no2 {a : Nat} {p : Option Addr} {d : DiskM} (s at_ by_ : Int) (h : 0 ≤ s ∧ s < d.slots.length) (h2 : at_ < 0 ∨ 96 ≤ at_) (hS : Sat E w (DiskP a p d :: R)) :
    Calls Try.prog 29 #[.pointer (some ⟨a, 0, none⟩), .int .i64 s, .int .i64 at_, .int .u8 by_] w fun e w' => e = .returned (.bool false) ∧ w = w' := by
  have hi := is_ok s hS
  rw [decide_eq_true h] at hi
  rcases h2 with h2 | h2
  · go_enter Try.func29, Try.ntmps29
    go_wp2_with (go_at_call 99; refine hi.mono ?_; rintro e w' ⟨rfl, rfl⟩)
    go_ret
    exact ⟨rfl, rfl⟩
  · have h3 : ¬ at_ < 0 := by omega
    go_enter Try.func29, Try.ntmps29
    go_wp2_with (go_at_call 99; refine hi.mono ?_; rintro e w' ⟨rfl, rfl⟩)
    go_ret
    exact ⟨rfl, rfl⟩

set_option maxHeartbeats 400000 in
theorem Rot_no3 {a : Nat} {p : Option Addr} {d : DiskM} (s at_ by_ : Int) (h : 0 ≤ s ∧ s < d.slots.length) (h2 : 0 ≤ at_) (h3 : at_ < 96) (hg : d.gone = true) (hS : Sat E w (DiskP a p d :: R)) :
    Calls Try.prog 29 #[.pointer (some ⟨a, 0, none⟩), .int .i64 s, .int .i64 at_, .int .u8 by_] w fun e w' => e = .returned (.bool false) ∧ w = w' := by
  have hi := is_ok s hS
  rw [decide_eq_true h] at hi
  obtain ⟨la, lcap, pa, pcap, gs, hs, _, hS⟩ := DiskP.open hS
  have c3 := hS.cell 3
  rw [hg] at c3
  simp at c3
  clear hg
  go_enter Try.func29, Try.ntmps29
  go_wp2_with (go_at_call 99; refine hi.mono ?_; rintro e w' ⟨rfl, rfl⟩)
  go_ret
  exact ⟨rfl, rfl⟩

set_option maxHeartbeats 400000 in
set_option maxRecDepth 100000 in
theorem Rot_yes {a : Nat} {p : Option Addr} {d : DiskM} (s at_ : Nat) (by_ : UInt8) (h : s < d.slots.length) (h3 : at_ < 96) (hg : d.gone = false) (hp : d.pend.length ≤ 1000000) (hS : Sat E w (DiskP a p d :: R)) :
    Calls Try.prog 29 #[.pointer (some ⟨a, 0, none⟩), .int .i64 s, .int .i64 at_, .int .u8 by_.toNat] w fun e w' => e = .returned (.bool true) ∧ Sat E w' (DiskP a p (d.rot s at_ by_) :: R) := by
  have hi := is_ok (s : Int) hS
  rw [decide_eq_true (show 0 ≤ (s : Int) ∧ (s : Int) < d.slots.length by omega)] at hi
  obtain ⟨la, lcap, pa, pcap, gs, hs, hok, hS⟩ := DiskP.open hS
  have c3 := hS.cell 3
  rw [hg] at c3
  simp at c3
  have hnow := now_ok hok s h hp hS
  have HOK := Lib.hid hok
  have HS : Hid (LastS E w R a p d la lcap pa pcap gs hs d.slots) := Lib.hid hS
  have HG := Lib.hid hg
  clear hg hok hS
  go_enter Try.func29, Try.ntmps29
  go_wp2_with (first
    | (go_at_call 99; refine hi.mono ?_; rintro e w' ⟨rfl, rfl⟩)
    | (go_at_call 104; refine hnow.mono ?_; rintro e w1 ⟨⟨⟨x1, x2⟩, rfl, hn⟩, hb⟩; have hrp := rot_put HOK.out by_ h h3 hn (Sat.ofBelow HS.out hb); have HRP := Lib.hid hrp.2.2; have r1 := hrp.1; have r2 := hrp.2.1; clear hnow hi c3 hrp))
  go_ret
  refine ⟨rfl, ?_⟩
  have h9 := HRP.out
  rw [← List.getD_eq_getElem?_getD, bits_xor_u8]
  exact h9

/-- What Full makes. -/
def full (c : UInt8) : List UInt8 := (List.range 96).map fun i => c + UInt8.ofNat i * 3

def fullTo (c : UInt8) (k : Nat) : List UInt8 := (List.range 96).map fun i => if i < k then c + UInt8.ofNat i * 3 else 0

theorem fullTo_len (c : UInt8) (k : Nat) : (fullTo c k).length = 96 := by simp [fullTo]
theorem full_len (c : UInt8) : (full c).length = 96 := by simp [full]
theorem fullTo_zero (c : UInt8) : fullTo c 0 = zeros := by
  apply List.ext_getElem
  · simp [fullTo, zeros]
  · intro i h1 h2
    simp only [fullTo, zeros, List.getElem_map, List.getElem_replicate]
    simp
theorem fullTo_all (c : UInt8) : fullTo c 96 = full c := by
  apply List.map_congr_left
  intro i hi
  rw [if_pos (List.mem_range.1 hi)]
theorem fullTo_succ (c : UInt8) (k : Nat) (_ : k < 96) : fullTo c (k + 1) = (fullTo c k).set k (c + UInt8.ofNat k * 3) := by
  apply List.ext_getElem
  · simp [fullTo]
  · intro i h1 h2
    rw [List.getElem_set]
    simp only [fullTo, List.getElem_map, List.getElem_range]
    by_cases e : k = i
    · subst e; simp
    · rw [if_neg e]
      by_cases h3 : i < k
      · rw [if_pos h3, if_pos (by omega)]
      · rw [if_neg h3, if_neg (by omega)]

theorem full_byte (c : UInt8) (k : Nat) (hk : k < 96) : ((c.toNat : Int) + (k : Int) * 3) % 256 = ((c + UInt8.ofNat k * 3).toNat : Int) := by
  rw [UInt8.toNat_add, UInt8.toNat_mul, UInt8.toNat_ofNat']
  have : (3 : UInt8).toNat = 3 := rfl
  rw [this]
  omega

set_option maxHeartbeats 1000000 in
set_option maxRecDepth 100000 in
theorem Full_ok (c : UInt8) (hS : Sat E w R) : Calls Try.prog 20 #[.int .u8 c.toNat] w fun e w' => ∃ g, e = .returned (.slice (some ⟨g, 0, none⟩) 96 96) ∧ Sat E w' (BytesP (.slice (some ⟨g, 0, none⟩) 96 96) (full c) :: R) := by
  have hmk := mk96
  have h0 := BytesP.fresh (by unfold maxLen; rw [zeros_len]; omega) (hS.alloc (zeros.map BV) 5)
  rw [zeros_len] at h0
  have H0 := Lib.hid h0
  clear h0 hS
  go_enter Try.func20, Try.ntmps20
  go_wp2
  clear hmk
  go_loopw [8] (fun i wr => ∃ k : Nat, k ≤ 96 ∧ i = .int .i64 k ∧ Sat E wr (BytesP (.slice (some ⟨w.heap.size, 0, none⟩) 96 96) (fullTo c k) :: R)) (fun i _ => 96 - (intOf i).toNat)
  case atStart => exact ⟨0, Nat.zero_le _, rfl, by rw [fullTo_zero]; exact H0.out⟩
  case round =>
    obtain ⟨k, hk, rfl, hS⟩ := hrel
    by_cases hlt : k < 96
    · obtain ⟨k1, k2⟩ := BytesP.at k (by rw [fullTo_len]; exact hlt) hS
      have h9 := BytesP.set k (by rw [fullTo_len]; exact hlt) (c + UInt8.ofNat k * 3) hS
      rw [← fullTo_succ c k hlt] at h9
      have H9 := Lib.hid h9
      have hc := UInt8.toNat_lt c
      clear h9 hS
      go_wp2
      go_roundw
      case rel => exact ⟨k + 1, by omega, by go_num, by rw [full_byte c k hlt]; exact H9.out⟩
      case measure => simp [intOf]; omega
    · obtain rfl : k = 96 := by omega
      rw [fullTo_all] at hS
      have HS := Lib.hid hS
      clear hS
      go_wp2
      go_ret
      exact ⟨_, rfl, HS.out⟩

end Go.Proofs.Ytpfhfeccdhmgiaa
