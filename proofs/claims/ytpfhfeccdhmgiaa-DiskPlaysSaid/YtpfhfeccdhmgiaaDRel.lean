/- What is proved here: lemmas and contracts on the way to this seat's laws, part 'DRel'; no condition. -/
import Derived.Test.YtpfhfeccdhmgiaaAwake
/- How the disk and the reference's disk lie to each other: plain Lean. -/
namespace Go.Proofs.Ytpfhfeccdhmgiaa
open Go.RowKit

def nows (sl : List (List UInt8)) : List (Nat × List UInt8) → List (List UInt8)
  | [] => sl
  | q :: l => nows (sl.set q.1 q.2) l

def waits (sl : List (List UInt8)) : List (Nat × List UInt8) → List (Nat × List UInt8 × List UInt8)
  | [] => []
  | q :: l => (q.1, sl.getD q.1 [], q.2) :: waits (sl.set q.1 q.2) l

theorem nows_len : ∀ (l : List (Nat × List UInt8)) (sl : List (List UInt8)), (nows sl l).length = sl.length
  | [], _ => rfl
  | q :: l, sl => by rw [nows, nows_len l]; simp

theorem nows_app : ∀ (l k : List (Nat × List UInt8)) (sl : List (List UInt8)), nows sl (l ++ k) = nows (nows sl l) k
  | [], _, _ => rfl
  | q :: l, k, sl => by simp [nows, nows_app l k]

theorem waits_app : ∀ (l k : List (Nat × List UInt8)) (sl : List (List UInt8)), waits sl (l ++ k) = waits sl l ++ waits (nows sl l) k
  | [], _, _ => rfl
  | q :: l, k, sl => by simp [nows, waits, waits_app l k]

theorem waits_len : ∀ (l : List (Nat × List UInt8)) (sl : List (List UInt8)), (waits sl l).length = l.length
  | [], _ => rfl
  | q :: l, sl => by simp [waits, waits_len l]

/-- The reference's disk for a disk. -/
def DiskM.ref (d : DiskM) : RDiskM := ⟨nows d.slots d.pend, !d.gone, waits d.slots d.pend⟩

theorem DiskM.ref_len (d : DiskM) : d.ref.slots.length = d.slots.length := nows_len _ _
theorem DiskM.ref_wait (d : DiskM) : d.ref.wait.length = d.pend.length := waits_len _ _

theorem ref_new (n : Nat) : (DiskM.new n).ref = RDiskM.new n := rfl

theorem nows_getD : ∀ (l : List (Nat × List UInt8)) (sl : List (List UInt8)) (s : Nat), s < sl.length → (nows sl l).getD s [] = (match l.reverse.find? (fun q => q.1 == s) with | some q => q.2 | none => sl.getD s [])
  | [], _, _, _ => rfl
  | q :: l, sl, s, h => by
    rw [nows, nows_getD l _ s (by simpa using h)]
    rw [List.reverse_cons, List.find?_append]
    cases hf : l.reverse.find? (fun q => q.1 == s) with
    | some x => simp
    | none =>
      by_cases e : q.1 = s
      · subst e
        simp [List.getD, h]
      · have e' : (q.1 == s) = false := by simp [e]
        simp [e', List.getD, List.getElem?_set, e]

theorem ref_now (d : DiskM) (s : Nat) (h : s < d.slots.length) : d.ref.slots.getD s [] = d.now s := by
  unfold DiskM.ref DiskM.now
  exact nows_getD _ _ _ h

theorem ref_write (d : DiskM) (f : FuseM) (s : Int) (b : List UInt8) : d.ref.write f s b = ((d.write f s b).1, (d.write f s b).2.1.ref, (d.write f s b).2.2) := by
  unfold RDiskM.write DiskM.write
  rw [d.ref_len]
  by_cases h1 : ¬ (0 ≤ s ∧ s < d.slots.length) ∨ b.length ≠ 96
  · rw [if_pos h1, if_pos h1]
  · rw [if_neg h1, if_neg h1]
    cases hg : d.gone with
    | true => simp [DiskM.ref, hg]
    | false =>
      simp only [DiskM.ref, hg]
      by_cases hf : f.dead = true
      · simp [hf, hg]
      · simp [hf, nows_app, waits_app, nows, waits]

theorem ref_fail (d : DiskM) : DiskM.ref { d with gone := true } = { d.ref with live := false } := rfl

theorem lastK_all (d : DiskM) (keep : Int) (t : Nat) : ∀ k : Nat, (k : Int) ≤ keep → k ≤ d.pend.length → d.lastK keep t k = nows d.slots (d.pend.take k)
  | 0, _, _ => by simp [DiskM.lastK, nows]
  | k + 1, h, h2 => by
    rw [DiskM.lastK, List.getElem?_eq_getElem (by omega)]
    simp only
    rw [if_pos (by omega), lastK_all d keep t k (by omega) (by omega), List.take_succ_eq_append_getElem (by omega), nows_app]
    rfl

theorem ref_sync (d : DiskM) (f : FuseM) : d.ref.sync f = ((d.sync f).1, (d.sync f).2.ref) := by
  unfold RDiskM.sync DiskM.sync
  cases hg : d.gone with
  | true => simp [DiskM.ref, hg]
  | false =>
    simp only [DiskM.ref, hg]
    by_cases hf : f.dead = true
    · simp [hf, hg]
    · simp only [hf]
      simp only [DiskM.last, Bool.not_false, Bool.not_true, if_false, Bool.false_eq_true]
      rw [lastK_all d _ 0 _ (by omega) (by omega), List.take_length]
      simp [hg, nows, waits]

theorem undo_waits : ∀ (l : List (Nat × List UInt8)) (sl : List (List UInt8)), (∀ q ∈ l, q.1 < sl.length) → (waits sl l).foldr (fun q acc => acc.set q.1 q.2.1) (nows sl l) = sl
  | [], _, _ => rfl
  | q :: l, sl, h => by
    rw [waits, nows, List.foldr_cons, undo_waits l (sl.set q.1 q.2) (fun x hx => by simpa using h x (List.mem_cons_of_mem _ hx))]
    have hq := h q (by simp)
    simp [List.getD, hq]

theorem waits_drop : ∀ (l : List (Nat × List UInt8)) (sl : List (List UInt8)) (k : Nat), (waits sl l).drop k = waits (nows sl (l.take k)) (l.drop k)
  | l, sl, 0 => by simp [nows]
  | [], sl, k + 1 => by simp [waits]
  | q :: l, sl, k + 1 => by simp [waits, nows, waits_drop l]

theorem ref_undo (d : DiskM) (k : Nat) (h : ∀ q ∈ d.pend, q.1 < d.slots.length) : d.ref.undo k = nows d.slots (d.pend.take k) := by
  unfold RDiskM.undo DiskM.ref
  dsimp only
  rw [waits_drop]
  have e : nows d.slots d.pend = nows (nows d.slots (d.pend.take k)) (d.pend.drop k) := by rw [← nows_app, List.take_append_drop]
  rw [e]
  exact undo_waits _ _ (fun q hq => by rw [nows_len]; exact h q (List.mem_of_mem_drop hq))

theorem waits_get (l : List (Nat × List UInt8)) (sl : List (List UInt8)) (k : Nat) (h : k < l.length) : (waits sl l)[k]? = some (l[k].1, (nows sl (l.take k)).getD l[k].1 [], l[k].2) := by
  have e := waits_drop l sl k
  have e2 : ((waits sl l).drop k)[0]? = (waits sl l)[k]? := by simp
  rw [← e2, e, List.drop_eq_getElem_cons h]
  simp [waits]

theorem lastK_stop (d : DiskM) (keep : Int) (t : Nat) (k : Nat) (h : keep < k) : ∀ j, (d.lastK keep t (k + j)) = d.lastK keep t k
  | 0 => rfl
  | j + 1 => by
    rw [← Nat.add_assoc, DiskM.lastK]
    split
    · rw [if_neg (by omega), if_neg (by omega)]; exact lastK_stop d keep t k h j
    · exact lastK_stop d keep t k h j

theorem ref_crash (d : DiskM) (keep torn : Int) (h : ∀ q ∈ d.pend, q.1 < d.slots.length) : d.ref.crash keep torn = (d.crash keep torn).ref := by
  unfold RDiskM.crash DiskM.crash
  obtain ⟨t, ht⟩ : ∃ t, (min (max torn 0) 96).toNat = t := ⟨_, rfl⟩
  obtain ⟨K, hK⟩ : ∃ K : Nat, max keep 0 = (K : Int) := ⟨(max keep 0).toNat, by omega⟩
  rw [ht, hK, d.ref_wait]
  unfold RDiskM.torn DiskM.last
  by_cases hlt : K < d.pend.length
  · have e : (min (K : Int) d.pend.length).toNat = K := by omega
    rw [e, ref_undo d K h]
    have hw : d.ref.wait[K]? = some (d.pend[K].1, (nows d.slots (d.pend.take K)).getD d.pend[K].1 [], d.pend[K].2) := waits_get _ _ _ hlt
    rw [hw]
    have h1 := lastK_stop d (K : Int) t (K + 1) (by omega) (d.pend.length - (K + 1))
    rw [show K + 1 + (d.pend.length - (K + 1)) = d.pend.length by omega] at h1
    rw [h1, DiskM.lastK, List.getElem?_eq_getElem hlt]
    simp only
    rw [if_neg (by omega), if_pos trivial, lastK_all d (K : Int) t K (by omega) (by omega)]
    simp [DiskM.ref, nows, waits]
  · have e : (min (K : Int) d.pend.length).toNat = d.pend.length := by omega
    rw [e, ref_undo d _ h]
    have hw : d.ref.wait[d.pend.length]? = none := by rw [List.getElem?_eq_none]; rw [d.ref_wait]; omega
    rw [hw, lastK_all d (K : Int) t d.pend.length (by omega) (Nat.le_refl _), List.take_length]
    simp [DiskM.ref, nows, waits]

theorem nows_set_other : ∀ (l : List (Nat × List UInt8)) (sl : List (List UInt8)) (s : Nat) (x : List UInt8), (∀ q ∈ l, q.1 ≠ s) → nows (sl.set s x) l = (nows sl l).set s x
  | [], _, _, _, _ => rfl
  | q :: l, sl, s, x, h => by
    have hq := h q (by simp)
    rw [nows, nows, List.set_comm _ _ (Ne.symm hq), nows_set_other l _ s x (fun y hy => h y (List.mem_cons_of_mem _ hy))]

theorem waits_set_other : ∀ (l : List (Nat × List UInt8)) (sl : List (List UInt8)) (s : Nat) (x : List UInt8), (∀ q ∈ l, q.1 ≠ s) → waits (sl.set s x) l = waits sl l
  | [], _, _, _, _ => rfl
  | q :: l, sl, s, x, h => by
    have hq := h q (by simp)
    rw [waits, waits, List.set_comm _ _ (Ne.symm hq), waits_set_other l _ s x (fun y hy => h y (List.mem_cons_of_mem _ hy))]
    congr 2
    simp [List.getD, List.getElem?_set, Ne.symm hq]

theorem turnLast_eq_none {s : Nat} {f : List UInt8 → List UInt8} : ∀ {l : List (Nat × List UInt8)}, turnLast s f l = none → ∀ q ∈ l, q.1 ≠ s
  | [], _, q, h => by simp at h
  | q :: l, h, x, hx => by
    rw [turnLast] at h
    cases ht : turnLast s f l with
    | some l' => rw [ht] at h; simp at h
    | none =>
      rw [ht] at h
      rcases List.mem_cons.1 hx with rfl | hx
      · intro e; simp [e] at h
      · exact turnLast_eq_none ht x hx

theorem turnLast_ref {s : Nat} {f : List UInt8 → List UInt8} : ∀ {l l' : List (Nat × List UInt8)} (sl : List (List UInt8)), s < sl.length → turnLast s f l = some l' →
    nows sl l' = (nows sl l).set s (f ((nows sl l).getD s [])) ∧ nowLast s (f ((nows sl l).getD s [])) (waits sl l) = some (waits sl l')
  | [], l', sl, hs, h => by simp [turnLast] at h
  | q :: l, l', sl, hs, h => by
    rw [turnLast] at h
    cases ht : turnLast s f l with
    | some l2 =>
      rw [ht] at h
      simp at h
      subst h
      obtain ⟨h1, h2⟩ := turnLast_ref (l := l) (sl.set q.1 q.2) (by simpa using hs) ht
      refine ⟨by simp [nows, h1], ?_⟩
      simp only [nows, waits, nowLast]
      rw [h2]
    | none =>
      rw [ht] at h
      have hn := turnLast_eq_none ht
      by_cases e : q.1 = s
      · simp [e] at h
        subst h
        have hnow : (nows (sl.set q.1 q.2) l).getD s [] = q.2 := by
          rw [e, nows_set_other l sl s q.2 hn]
          simp [List.getD, nows_len, hs]
        refine ⟨?_, ?_⟩
        · simp only [nows]
          rw [hnow, e, nows_set_other l sl s _ hn, nows_set_other l sl s _ hn]
          simp
        · simp only [nows, waits, nowLast]
          rw [hnow]
          have h0 : nowLast s (f q.2) (waits (sl.set q.1 q.2) l) = none := by
            apply nowLast_none
            intro x hx
            have : ∀ (l : List (Nat × List UInt8)) (sl : List (List UInt8)), (∀ q ∈ l, q.1 ≠ s) → ∀ x ∈ waits sl l, x.1 ≠ s := by
              intro l
              induction l with
              | nil => intro sl _ x hx; simp [waits] at hx
              | cons a l ih =>
                intro sl hh x hx
                rw [waits] at hx
                rcases List.mem_cons.1 hx with rfl | hx
                · exact hh a (by simp)
                · exact ih _ (fun y hy => hh y (List.mem_cons_of_mem _ hy)) x hx
            exact this l _ hn x hx
          rw [h0]
          simp only [e, if_true]
          rw [waits_set_other l sl s _ hn, waits_set_other l sl s _ hn]
      · simp [e] at h

theorem nowLast_waits_none {s : Nat} {b : List UInt8} : ∀ (l : List (Nat × List UInt8)) (sl : List (List UInt8)), (∀ q ∈ l, q.1 ≠ s) → nowLast s b (waits sl l) = none := by
  intro l sl h
  apply nowLast_none
  revert sl
  induction l with
  | nil => intro sl x hx; simp [waits] at hx
  | cons a l ih =>
    intro sl x hx
    rw [waits] at hx
    rcases List.mem_cons.1 hx with rfl | hx
    · exact h a (by simp)
    · exact ih (fun y hy => h y (List.mem_cons_of_mem _ hy)) _ x hx

theorem ref_rot (d : DiskM) (s at_ : Nat) (by_ : UInt8) (hs : s < d.slots.length) : d.ref.rot s at_ by_ = (d.rot s at_ by_).ref := by
  unfold RDiskM.rot DiskM.rot
  cases ht : turnLast s (turn at_ by_) d.pend with
  | some l' =>
    obtain ⟨h1, h2⟩ := turnLast_ref d.slots hs ht
    simp only [DiskM.ref]
    rw [h1, h2]
    rfl
  | none =>
    have hn := turnLast_eq_none ht
    simp only [DiskM.ref]
    rw [nows_set_other _ _ _ _ hn, waits_set_other _ _ _ _ hn, nowLast_waits_none _ _ hn]
    have e : (nows d.slots d.pend).getD s [] = d.slots.getD s [] := by
      rw [nows_getD _ _ _ hs]
      have : d.pend.reverse.find? (fun q => q.1 == s) = none := by
        rw [List.find?_eq_none]
        intro x hx
        simpa using hn x (List.mem_reverse.1 hx)
      rw [this]
    rw [e]
    rfl

end Go.Proofs.Ytpfhfeccdhmgiaa
