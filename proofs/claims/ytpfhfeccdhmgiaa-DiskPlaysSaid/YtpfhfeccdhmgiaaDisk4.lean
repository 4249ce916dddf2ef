/- What is proved here: lemmas and contracts on the way to this seat's laws, part 'Disk4'; no condition. -/
import Derived.Test.YtpfhfeccdhmgiaaLast
import Derived.Shelf.Abstract
namespace Go.Proofs.Ytpfhfeccdhmgiaa
open Go.RowKit

variable {E : Env} {w : World} {R : List HP}

def wrs (l : List (Nat × List UInt8)) (hs : List (Nat × Nat)) : List WR := (List.range l.length).map fun j => ⟨j, (l.getD j (0, [])).1, (hs.getD j (0, 0)).1, (hs.getD j (0, 0)).2⟩

theorem wrs_length (l : List (Nat × List UInt8)) (hs : List (Nat × Nat)) : (wrs l hs).length = l.length := by simp [wrs]
theorem wrs_get (l : List (Nat × List UInt8)) (hs : List (Nat × Nat)) (j : Nat) (h : j < (wrs l hs).length) (h1 : j < l.length) (h2 : j < hs.length) : (wrs l hs)[j] = ⟨j, l[j].1, hs[j].1, hs[j].2⟩ := by
  simp [wrs, List.getD, h1, h2]

/-- Which bytes a slot's are. -/
def NowAt (d : DiskM) (gs hs : List (Nat × Nat)) (s : Nat) (x : Nat × Nat) : Prop :=
  (∃ i b, d.pend[i]? = some (s, b) ∧ hs[i]? = some x ∧ ∀ (j : Nat) (q : Nat × List UInt8), i < j → d.pend[j]? = some q → q.1 ≠ s) ∨ ((∀ q ∈ d.pend, q.1 ≠ s) ∧ gs[s]? = some x)

theorem lastWr_at {d : DiskM} {gs hs : List (Nat × Nat)} {s : Nat} {x : Nat × Nat} (hh : hs.length = d.pend.length) (hx : gs[s]? = some x) : ∃ y, lastWr (wrs d.pend hs) s (sl x) = sl y ∧ NowAt d gs hs s y := by
  have hlen := wrs_length d.pend hs
  unfold lastWr
  cases hf : (wrs d.pend hs).reverse.find? (fun x => x.s == s) with
  | none =>
    refine ⟨x, rfl, .inr ⟨?_, hx⟩⟩
    intro q hq e
    obtain ⟨j, hj, rfl⟩ := List.getElem_of_mem hq
    have hm : (wrs d.pend hs)[j]'(by omega) ∈ (wrs d.pend hs).reverse := List.mem_reverse.2 (List.getElem_mem _)
    have := List.find?_eq_none.1 hf _ hm
    rw [wrs_get d.pend hs j (by omega) hj (by omega)] at this
    simp [e] at this
  | some z =>
    obtain ⟨h1, us, bs, h2, h3⟩ := List.find?_eq_some_iff_append.1 hf
    have h4 : wrs d.pend hs = bs.reverse ++ z :: us.reverse := by
      have := congrArg List.reverse h2
      simpa using this
    have hi : bs.length < (wrs d.pend hs).length := by rw [h4]; simp
    have hz : (wrs d.pend hs)[bs.length] = z := by
      simp only [h4]
      rw [List.getElem_append_right (by simp)]
      simp
    have hp : bs.length < d.pend.length := by omega
    rw [wrs_get d.pend hs _ hi hp (by omega)] at hz
    subst hz
    simp only [beq_iff_eq] at h1
    refine ⟨hs[bs.length], rfl, .inl ⟨bs.length, d.pend[bs.length].2, ?_, ?_, ?_⟩⟩
    · rw [List.getElem?_eq_getElem hp]; rw [← h1]
    · simp
    · intro j q hj hq e
      obtain ⟨hjl, rfl⟩ := List.getElem?_eq_some_iff.1 hq
      have hm : (wrs d.pend hs)[j]'(by omega) ∈ us := by
        have : (wrs d.pend hs)[j]? = (us.reverse)[j - bs.length - 1]? := by
          rw [h4, List.getElem?_append_right (by simp; omega)]
          simp only [List.length_reverse]
          rw [show j - bs.length = (j - bs.length - 1) + 1 by omega]
          simp
        rw [List.getElem?_eq_getElem (by omega)] at this
        exact List.mem_reverse.1 (List.mem_of_getElem? this.symm)
      have := h3 _ hm
      rw [wrs_get d.pend hs j (by omega) hjl (by omega)] at this
      simp [e] at this

/-- A slot's bytes, as they are kept. -/
def DiskM.now (d : DiskM) (s : Nat) : List UInt8 := match d.pend.reverse.find? (fun q => q.1 == s) with | some q => q.2 | none => d.slots.getD s []

theorem now_of_pend {d : DiskM} {s i : Nat} {b : List UInt8} (h1 : d.pend[i]? = some (s, b)) (h2 : ∀ (j : Nat) (q : Nat × List UInt8), i < j → d.pend[j]? = some q → q.1 ≠ s) : d.now s = b := by
  obtain ⟨hi, hib⟩ := List.getElem?_eq_some_iff.1 h1
  have e : d.pend.reverse.find? (fun q => q.1 == s) = some (s, b) := by
    refine List.find?_eq_some_iff_append.2 ⟨by simp, (d.pend.drop (i + 1)).reverse, (d.pend.take i).reverse, ?_, ?_⟩
    · have : d.pend = d.pend.take i ++ (s, b) :: d.pend.drop (i + 1) := by
        rw [← hib]; simp
      have := congrArg List.reverse this
      simpa using this
    · intro q hq
      have hq := List.mem_reverse.1 hq
      obtain ⟨j, hj, rfl⟩ := List.getElem_of_mem hq
      rw [List.getElem_drop]
      have := h2 (i + 1 + j) _ (by omega) (List.getElem?_eq_getElem (by simp at hj; omega))
      simpa using this
  unfold DiskM.now
  rw [e]

theorem now_of_slot {d : DiskM} {s : Nat} (h : ∀ q ∈ d.pend, q.1 ≠ s) : d.now s = d.slots.getD s [] := by
  have e : d.pend.reverse.find? (fun q => q.1 == s) = none := List.find?_eq_none.2 fun q hq => by simpa using h q (List.mem_reverse.1 hq)
  unfold DiskM.now
  rw [e]

theorem now_ok {a : Nat} {p : Option Addr} {d : DiskM} {la : Option Addr} {lcap : Nat} {pa : Option Addr} {pcap : Nat} {gs hs : List (Nat × Nat)} (hok : d.ok ∧ gs.length = d.slots.length ∧ hs.length = d.pend.length) (s : Nat) (hs1 : s < d.slots.length) (hp : d.pend.length ≤ 1000000)
    (hS : Sat E w (PT a [.pointer p, .slice la d.slots.length lcap, .slice pa d.pend.length pcap, .bool d.gone] 150 :: Own 37 1 (.slice la d.slots.length lcap) d.slots.length (gs.map sl) ::
    Own 154 2 (.slice pa d.pend.length pcap) d.pend.length (pcells d.pend hs) :: All (slotPs gs d.slots) :: All (pendPs hs d.pend) :: R)) :
    Calls Try.prog 104 #[.pointer (some ⟨a, 0, none⟩), .int .i64 s] w fun e w' => (∃ x, e = .returned (sl x) ∧ NowAt d gs hs s x) ∧ Below w.heap.size w w' := by
  have hsg : s < gs.length := by omega
  obtain ⟨gb, rfl⟩ := Own.at0 hS.to1 (by omega)
  have q2 := (Own.cellAt hS.to1 (j := s) (by simpa using hsg)).trans (show (gs.map sl)[s]? = some (sl gs[s]) by simp [hsg])
  have c1 := hS.cell 1
  have c2 := hS.cell 2
  simp at c1 c2
  have hl := wrs_length d.pend hs
  have hI : Wrs w.heap.size w (.slice pa (wrs d.pend hs).length pcap) (wrs d.pend hs) := by
    rcases (Own.cases hS.to2).2 with ⟨h, h0, _⟩ | ⟨g, cap, junk, h, _⟩
    · left
      have h00 : wrs d.pend hs = [] := List.eq_nil_of_length_eq_zero (by omega)
      rw [hl]; exact ⟨h, h00⟩
    · cases h
      right
      refine ⟨g, pcap, rfl, Own.lt hS.to2, ?_⟩
      intro j hj
      have h1 : j < d.pend.length := by omega
      have hpc := pcells_get d.pend hs j h1 (by omega)
      have hpl := pcells_length d.pend hs hok.2.2
      rw [wrs_get d.pend hs j hj h1 (by omega)]
      exact ⟨(Own.cellAt hS.to2 (j := j * 2) (by omega)).trans hpc.1, (Own.cellAt hS.to2 (j := j * 2 + 1) (by omega)).trans hpc.2⟩
  rw [← hl] at c2
  have h := now_in Fence.wide 3 (fun _ => trivial) rfl (by omega) a s gb d.slots.length lcap gs[s].1 gs[s].2 pcap pa (wrs d.pend hs) w (by omega) (fun j hj => by rw [wrs_get d.pend hs j hj (by omega) (by omega)]) hS.lt (Own.lt hS.to1) (by have := hok.1.2.2; omega) c1 c2 hs1 q2 hI
  refine (callsIn_wide.1 h).mono ?_
  rintro e w' ⟨rfl, hb⟩
  obtain ⟨y, hy, hn⟩ := lastWr_at (gs := gs) (s := s) hok.2.2 (x := gs[s]) (by simp)
  exact ⟨⟨y, by rw [← hy], hn⟩, hb⟩

end Go.Proofs.Ytpfhfeccdhmgiaa
