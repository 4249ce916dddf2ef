/- What is proved here: lemmas and contracts on the way to this seat's laws, part 'Disk3'; no condition. -/
import Derived.Test.YtpfhfeccdhmgiaaDisk2
import Derived.StillTailTactics
namespace Go.Proofs.Ytpfhfeccdhmgiaa
open Go.RowKit

variable {E : Env} {w : World} {R : List HP}

theorem Own.cellAt {T size n g c j : Nat} {xs : List Value} (hS : Sat E w (Own T size (.slice (some ⟨g, 0, none⟩) n c) n xs :: R)) (hj : j < xs.length) : w.cell? ⟨g, j, none⟩ = xs[j]? := by
  rcases (Own.cases hS).2 with ⟨h, _⟩ | ⟨g', cap, junk, h, _, _, _, hp⟩
  · cases h
  · cases h
    rw [hp.cell, List.getElem?_append_left hj]

theorem Own.lt {T size n g c : Nat} {xs : List Value} (hS : Sat E w (Own T size (.slice (some ⟨g, 0, none⟩) n c) n xs :: R)) : g < w.heap.size := by
  rcases (Own.cases hS).2 with ⟨h, _⟩ | ⟨g', cap, junk, h, _, _, _, hp⟩
  · cases h
  · cases h; exact hp.lt

theorem Own.at0 {T size n c : Nat} {ao : Option Addr} {xs : List Value} (hS : Sat E w (Own T size (.slice ao n c) n xs :: R)) (hn : 0 < n) : ∃ g, ao = some ⟨g, 0, none⟩ := by
  obtain ⟨g, cap, h⟩ := Own.pos hS hn
  cases h
  exact ⟨g, rfl⟩

theorem pcells_get : ∀ (l : List (Nat × List UInt8)) (hs : List (Nat × Nat)) (j : Nat) (h1 : j < l.length) (h2 : j < hs.length), (pcells l hs)[j * 2]? = some (.int .i64 (l[j].1 : Int)) ∧ (pcells l hs)[j * 2 + 1]? = some (sl hs[j])
  | x :: l, y :: hs, 0, _, _ => by simp [pcells]
  | x :: l, y :: hs, j + 1, h1, h2 => by
    have h := pcells_get l hs j (by simpa using h1) (by simpa using h2)
    have e1 : (j + 1) * 2 = j * 2 + 2 := by omega
    have e2 : (j + 1) * 2 + 1 = j * 2 + 1 + 2 := by omega
    rw [e2, e1]
    unfold pcells at h ⊢
    simpa using h

theorem pcells_length (l : List (Nat × List UInt8)) (hs : List (Nat × Nat)) (h : hs.length = l.length) : (pcells l hs).length = l.length * 2 := by
  unfold pcells
  rw [List.length_flatMap]
  have e : ∀ x ∈ (l.zip hs), (fun p : (Nat × List UInt8) × (Nat × Nat) => [Value.int .i64 (p.1.1 : Int), sl p.2].length) x = 2 := fun _ _ => rfl
  rw [List.map_congr_left e, List.map_const', List.sum_replicate_nat]
  simp [h]

def DiskM.lastK (d : DiskM) (keep : Int) (torn : Nat) : Nat → List (List UInt8)
  | 0 => d.slots
  | k + 1 => match d.pend[k]? with
    | some (s, b) => if (k : Int) < keep then (d.lastK keep torn k).set s b else if (k : Int) = keep then (d.lastK keep torn k).set s (b.take torn ++ ((d.lastK keep torn k).getD s []).drop torn) else d.lastK keep torn k
    | none => d.lastK keep torn k

def DiskM.last (d : DiskM) (keep : Int) (torn : Nat) : DiskM := { d with slots := d.lastK keep torn d.pend.length, pend := [] }

theorem DiskM.lastK_length (d : DiskM) (keep : Int) (torn : Nat) : ∀ k, (d.lastK keep torn k).length = d.slots.length
  | 0 => rfl
  | k + 1 => by
    unfold DiskM.lastK
    split
    · split
      · simp [d.lastK_length keep torn k]
      · split
        · simp [d.lastK_length keep torn k]
        · exact d.lastK_length keep torn k
    · exact d.lastK_length keep torn k

theorem DiskM.lastK_96 (d : DiskM) (hok : d.ok) (keep : Int) (torn : Nat) : ∀ k, ∀ s ∈ d.lastK keep torn k, s.length = 96
  | 0 => hok.1
  | k + 1 => by
    have ih := d.lastK_96 hok keep torn k
    intro x hx
    unfold DiskM.lastK at hx
    split at hx
    · rename_i s b hb
      have hb2 := hok.2.1 (s, b) (List.mem_of_getElem? hb)
      split at hx
      · rcases List.mem_or_eq_of_mem_set hx with h | h
        · exact ih x h
        · rw [h]; exact hb2.2
      · split at hx
        · rcases List.mem_or_eq_of_mem_set hx with h | h
          · exact ih x h
          · rw [h]
            have hl : s < (d.lastK keep torn k).length := by rw [d.lastK_length]; exact hb2.1
            have h96 := ih ((d.lastK keep torn k)[s]) (List.getElem_mem hl)
            have hb3 := hb2.2
            rw [show (d.lastK keep torn k).getD s [] = (d.lastK keep torn k)[s] from by simp [List.getD, hl]]
            simp only [List.length_append, List.length_take, List.length_drop]
            rw [h96]
            have : b.length = 96 := hb3
            omega
        · exact ih x hx
    · exact ih x hx

theorem slotPs_get {gs : List (Nat × Nat)} {l : List (List UInt8)} {s : Nat} (h1 : s < gs.length) (h2 : s < l.length) : (slotPs gs l)[s]? = some (BytesP (sl gs[s]) l[s]) := by
  simp [slotPs, List.getElem?_zipWith, h1, h2]

theorem pendPs_get {hs : List (Nat × Nat)} {l : List (Nat × List UInt8)} {s : Nat} (h1 : s < hs.length) (h2 : s < l.length) : (pendPs hs l)[s]? = some (BytesP (sl hs[s]) l[s].2) := by
  simp [pendPs, List.getElem?_zipWith, h1, h2]

theorem slotPs_set {gs : List (Nat × Nat)} {l : List (List UInt8)} {s : Nat} (h1 : s < gs.length) (b : List UInt8) : (slotPs gs l).set s (BytesP (sl gs[s]) b) = slotPs gs (l.set s b) := by
  apply List.ext_getElem?
  intro i
  simp only [slotPs, List.getElem?_set, List.getElem?_zipWith, List.length_zipWith]
  by_cases e : s = i
  · subst e
    by_cases h2 : s < l.length
    · simp [h1, h2]; omega
    · simp [h1, h2]; omega
  · simp [e]

end Go.Proofs.Ytpfhfeccdhmgiaa
