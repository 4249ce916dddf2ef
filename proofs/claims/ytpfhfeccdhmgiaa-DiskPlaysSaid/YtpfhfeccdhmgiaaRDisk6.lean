/- What is proved here: lemmas and contracts on the way to this seat's laws, part 'RDisk6'; no condition. -/
import Derived.Test.YtpfhfeccdhmgiaaRDisk5
import Derived.StillTailTactics
/- What a crash leaves, in the reference: 'Disk.Crash'. -/
namespace Go.Proofs.Ytpfhfeccdhmgiaa
open Go.RowKit

variable {E : Env} {w : World} {R : List HP}

def RDiskM.undo (d : RDiskM) (j : Nat) : List (List UInt8) := (d.wait.drop j).foldr (fun q acc => acc.set q.1 q.2.1) d.slots

theorem RDiskM.undo_end (d : RDiskM) : d.undo d.wait.length = d.slots := by simp [RDiskM.undo]
theorem RDiskM.undo_step (d : RDiskM) {j : Nat} (h : j < d.wait.length) : d.undo j = (d.undo (j + 1)).set d.wait[j].1 d.wait[j].2.1 := by
  unfold RDiskM.undo
  rw [List.drop_eq_getElem_cons h, List.foldr_cons]
theorem undo_len (l : List (Nat × List UInt8 × List UInt8)) (s : List (List UInt8)) : (l.foldr (fun q acc => acc.set q.1 q.2.1) s).length = s.length := by
  induction l with
  | nil => rfl
  | cons q l ih => simp [ih]
theorem RDiskM.undo_length (d : RDiskM) (j : Nat) : (d.undo j).length = d.slots.length := undo_len _ _

def RDiskM.torn (d : RDiskM) (k t : Nat) : RDiskM :=
  { d with slots := match d.wait[k]? with | some q => (d.undo k).set q.1 (q.2.2.take t ++ q.2.1.drop t) | none => d.undo k, wait := [] }

def RDiskM.crash (d : RDiskM) (keep torn : Int) : RDiskM := d.torn (min (max keep 0) d.wait.length).toNat (min (max torn 0) 96).toNat

theorem sv_cut (u v : List UInt8) (t : Nat) (h : v.length = 96) : (ByteArray.mk u.toArray).extract 0 t ++ (ByteArray.mk v.toArray).extract t 96 = ⟨(u.take t ++ v.drop t).toArray⟩ := by
  apply ByteArray.ext
  apply Array.ext'
  simp [ByteArray.data_append, ByteArray.data_extract]
  exact List.take_of_length_le (by simp; omega)

abbrev RSt (E : Env) (w : World) (R : List HP) (a : Nat) (p : Option Addr) (d : RDiskM) (la : Option Addr) (lcap : Nat) (pa : Option Addr) (pcap : Nat) (sl : List (List UInt8)) : Prop :=
  Sat E w (PT a [.slice la d.slots.length lcap, .bool d.live, .slice pa d.wait.length pcap, .pointer p] 35 :: Own 9 1 (.slice la d.slots.length lcap) d.slots.length (sl.map SV) ::
    Own 156 3 (.slice pa d.wait.length pcap) d.wait.length (wcells d.wait) :: R)

theorem RCrash_none {a t : Nat} {p : Option Addr} {d : RDiskM} {la : Option Addr} {lcap : Nat} {pa : Option Addr} {pcap : Nat} (hok : d.ok)
    (hS : Sat E w (PT a [.slice la d.slots.length lcap, .bool d.live, .slice pa d.wait.length pcap, .pointer p] 35 :: Own 9 1 (.slice la d.slots.length lcap) d.slots.length ((d.undo d.wait.length).map SV) ::
    Own 156 3 (.slice pa d.wait.length pcap) d.wait.length (wcells d.wait) :: R)) : Sat E (w.setCell ⟨a, 2, none⟩ (.slice none 0 0)) (RDiskP a p (d.torn d.wait.length t) :: R) := by
  have h1 := (Sat.store hS 2 (.slice none 0 0)).to2.weak
  have h2 := (Own.nil 156 3 h1).at2
  rw [d.undo_end] at h2
  have e : d.torn d.wait.length t = { d with wait := [] } := by simp [RDiskM.torn, d.undo_end]
  rw [e]
  exact RDiskP.close (d := { d with wait := [] }) (la := la) (lcap := lcap) (pa := none) (pcap := 0) ⟨hok.1, by simp, hok.2.2⟩ h2

theorem RCrash_some {a t k s : Nat} {u v : List UInt8} {p : Option Addr} {d : RDiskM} {la : Option Addr} {lcap : Nat} {pa : Option Addr} {pcap : Nat} (hok : d.ok) (hk : k < d.wait.length) (hw : d.wait[k] = (s, u, v))
    (hS : RSt E w R a p d la lcap pa pcap ((d.undo k).set s (v.take t ++ u.drop t))) : Sat E (w.setCell ⟨a, 2, none⟩ (.slice none 0 0)) (RDiskP a p (d.torn k t) :: R) := by
  unfold RSt at hS
  have h1 := (Sat.store hS 2 (.slice none 0 0)).to2.weak
  have h2 := (Own.nil 156 3 h1).at2
  have e : d.torn k t = { d with slots := (d.undo k).set s (v.take t ++ u.drop t), wait := [] } := by
    unfold RDiskM.torn
    rw [List.getElem?_eq_getElem hk, hw]
  rw [e]
  have hu : ∀ (l : List (Nat × List UInt8 × List UInt8)), (∀ q ∈ l, q.2.1.length = 96) → ∀ x ∈ l.foldr (fun q acc => acc.set q.1 q.2.1) d.slots, x.length = 96 := by
    intro l
    induction l with
    | nil => intro _ x hx; exact hok.1 x hx
    | cons q l ih =>
      intro hl x hx
      rcases List.mem_or_eq_of_mem_set hx with hx | rfl
      · exact ih (fun q hq => hl q (List.mem_cons_of_mem _ hq)) x hx
      · exact hl q (by simp)
  have hq := hok.2.1 _ (List.getElem_mem hk)
  rw [hw] at hq
  obtain ⟨o1, o2, o3⟩ := hq
  dsimp only at o1 o2 o3
  refine RDiskP.close (d := { d with slots := (d.undo k).set s (v.take t ++ u.drop t), wait := [] }) (la := la) (lcap := lcap) (pa := none) (pcap := 0) ⟨?_, by simp, ?_⟩ ?_
  · intro x hx
    rcases List.mem_or_eq_of_mem_set hx with hx | rfl
    · exact hu _ (fun q hq => (hok.2.1 q (List.mem_of_mem_drop hq)).2.1) x hx
    · rw [List.length_append, List.length_take, List.length_drop, o2, o3]; omega
  · simpa [d.undo_length] using hok.2.2
  · dsimp only
    rw [List.length_set, d.undo_length]
    exact h2

set_option maxHeartbeats 2000000 in
set_option maxRecDepth 100000 in
theorem RCrash_ok {a : Nat} {p : Option Addr} {d : RDiskM} (keep torn : Int) (hp : d.wait.length ≤ 1000000) (hS : Sat E w (RDiskP a p d :: R)) :
    Calls Try.prog 32 #[.pointer (some ⟨a, 0, none⟩), .int .i64 keep, .int .i64 torn] w fun e w' => e = .returned (.tuple #[]) ∧ Sat E w' (RDiskP a p (d.crash keep torn) :: R) := by
  unfold RDiskM.crash
  obtain ⟨k1, hk1⟩ : ∃ k1 : Int, (if keep < 0 then (0 : Int) else keep) = k1 := ⟨_, rfl⟩
  obtain ⟨t1, ht1⟩ : ∃ t1 : Int, (if torn < 0 then (0 : Int) else torn) = t1 := ⟨_, rfl⟩
  obtain ⟨k, hk⟩ : ∃ k : Nat, (min (max keep 0) d.wait.length).toNat = k := ⟨_, rfl⟩
  obtain ⟨t, ht⟩ : ∃ t : Nat, (min (max torn 0) 96).toNat = t := ⟨_, rfl⟩
  have hkm : k ≤ d.wait.length := by omega
  have htm : t ≤ 96 := by omega
  have hk2 : (if (d.wait.length : Int) < k1 then (d.wait.length : Int) else k1) = (k : Int) := by
    split at hk1 <;> split <;> omega
  have ht2 : (if (96 : Int) < t1 then (96 : Int) else t1) = (t : Int) := by
    split at ht1 <;> split <;> omega
  rw [hk, ht]
  clear hk ht
  obtain ⟨la, lcap, pa, pcap, hok, hS⟩ := RDiskP.open hS
  have c0 := hS.cell 0
  have c2 := hS.cell 2
  simp only [List.getElem?_cons_zero, List.getElem?_cons_succ] at c0 c2
  have HS : Hid (RSt E w R a p d la lcap pa pcap d.slots) := Lib.hid hS
  have HOK := Lib.hid hok
  clear hS hok
  go_enter Try.func32, Try.ntmps32
  go_wp2
  clear hk1 hk2 ht1 ht2 c0 c2
  go_loopw [6] (fun i wr => ∃ j : Nat, k ≤ j ∧ j ≤ d.wait.length ∧ i = .int .i64 ((j : Int) - 1) ∧ RSt E wr R a p d la lcap pa pcap (d.undo j)) (fun i _ => (intOf i + 1).toNat)
  case atStart => exact ⟨d.wait.length, hkm, Nat.le_refl _, by go_num, by rw [d.undo_end]; exact HS.out⟩
  case round =>
    obtain ⟨j, hj1, hj2, rfl, hS⟩ := hrel
    unfold RSt at hS
    clear HS
    rcases Nat.eq_or_lt_of_le hj1 with rfl | hlt
    · have c0 := hS.cell 0
      have c2 := hS.cell 2
      have f2 := hS.free 2
      simp only [List.getElem?_cons_zero, List.getElem?_cons_succ] at c0 c2
      rcases Nat.eq_or_lt_of_le hkm with rfl | hlt
      · have H9 := Lib.hid (RCrash_none HOK.out (t := t) hS)
        clear hS
        go_wp2
        go_end0
        exact ⟨rfl, H9.out⟩
      · obtain ⟨pg, rfl⟩ := Own.at0 hS.to2 (by omega)
        have w3 := wcells_get d.wait k hlt
        have hwl := wcells_length d.wait
        have q0 := (Own.cellAt hS.to2 (j := k * 3) (by rw [hwl]; omega)).trans w3.1
        have q1 := (Own.cellAt hS.to2 (j := k * 3 + 1) (by rw [hwl]; omega)).trans w3.2.1
        have q2 := (Own.cellAt hS.to2 (j := k * 3 + 2) (by rw [hwl]; omega)).trans w3.2.2
        have l2 := Own.lt hS.to2
        have hq := HOK.out.2.1 _ (List.getElem_mem hlt)
        obtain ⟨⟨s, u, v⟩, ht3⟩ : ∃ t3, d.wait[k] = t3 := ⟨_, rfl⟩
        rw [ht3] at hq q0 q1 q2
        dsimp only at hq q0 q1 q2
        have HT := Lib.hid ht3
        have HQ := Lib.hid hq
        have HS : Hid (RSt E wr R a p d la lcap (some ⟨pg, 0, none⟩) pcap (d.undo k)) := Lib.hid hS
        clear hS w3 hwl hq ht3
        go_wp2
        have hS2 := HS.out.alloc [.int .i64 (s : Int), SV u, SV v] 156
        obtain ⟨W, hW⟩ : ∃ W, wr.alloc (.cells #[.int .i64 (s : Int), .string ⟨u.toArray⟩, .string ⟨v.toArray⟩] 156) = W := ⟨_, rfl⟩
        rw [hW]
        rw [show wr.alloc (.cells [.int .i64 (s : Int), SV u, SV v].toArray 156) = W from hW] at hS2
        have n0 := hS2.cell 0
        have n1 := hS2.cell 1
        have n2 := hS2.cell 2
        have ln := hS2.lt
        have hS3 := hS2.weak
        have m0 := hS3.cell 0
        have m2 := hS3.cell 2
        have fm2 := hS3.free 2
        have l0 := hS3.lt
        obtain ⟨o1, o2, o3⟩ := HQ.out
        have o4 := HOK.out.2.2
        have z1 := (sv_size u).trans o2
        have z2 := (sv_size v).trans o3
        obtain ⟨lg, rfl⟩ := Own.at0 hS3.to1 (by omega)
        have l1 := Own.lt hS3.to1
        have hln : s < ((d.undo k).map SV).length := by rw [List.length_map, d.undo_length]; exact o1
        have r1 := (Own.cellAt hS3.to1 (j := s) hln)
        rw [List.getElem?_eq_getElem hln] at r1
        have f1 := Own.freeAt (j := s) hS3.to1
        have hset := Own.set (j := s) (SV (v.take t ++ u.drop t)) hln hS3.to1
        rw [← List.map_set] at hset
        have HN : Hid (RSt E _ R a p d (some ⟨lg, 0, none⟩) lcap (some ⟨pg, 0, none⟩) pcap ((d.undo k).set s (v.take t ++ u.drop t))) := Lib.hid hset.to1
        have hcut := sv_cut v u t o2
        have s1 : ∀ wx, (Instr.slice 9 (.string ⟨v.toArray⟩) none (some (.int .i64 (t : Int))) none).run Try.prog wx = .ok (.string ((ByteArray.mk v.toArray).extract 0 t)) wx := fun wx => run_slice_string_h wx 9 _ Try.underlying9 .i64 t (by omega) (by rw [z2]; omega)
        have s2 : ∀ wx, (Instr.slice 9 (.string ⟨u.toArray⟩) (some (.int .i64 (t : Int))) none none).run Try.prog wx = .ok (.string ((ByteArray.mk u.toArray).extract t 96)) wx := fun wx => by
          have h := run_slice_string_l (P := Try.prog) wx 9 ⟨u.toArray⟩ Try.underlying9 .i64 t (by omega) (by rw [z1]; omega)
          rw [z1] at h
          exact h
        obtain ⟨A, hA⟩ : ∃ A, (ByteArray.mk v.toArray).extract 0 t = A := ⟨_, rfl⟩
        obtain ⟨B, hB⟩ : ∃ B, (ByteArray.mk u.toArray).extract t 96 = B := ⟨_, rfl⟩
        rw [hA] at s1 hcut
        rw [hB] at s2 hcut
        have hab : ¬ 9223372036854775807 < A.size + B.size := by
          have h := congrArg ByteArray.size hcut
          rw [ByteArray.size_append] at h
          have h2 : (ByteArray.mk (v.take t ++ u.drop t).toArray).size = (v.take t ++ u.drop t).length := by simp [ByteArray.size]
          rw [h2, List.length_append, List.length_take, List.length_drop, o2, o3] at h
          omega
        clear hA hB z1 z2 o2 o3
        obtain ⟨cell1, hcell⟩ : ∃ x, ((d.undo k).map SV)[s] = x := ⟨_, rfl⟩
        rw [hcell] at r1
        have e2 := hset.to1.cell 2
        have ef2 := hset.to1.free 2
        rw [show SV (v.take t ++ u.drop t) = Value.string ⟨(v.take t ++ u.drop t).toArray⟩ from rfl] at e2 ef2
        simp only [List.getElem?_cons_zero, List.getElem?_cons_succ] at n0 n1 n2 m0 m2 e2
        clear hS2 hS3 hset hW hcell f2 c0 c2 q0 q1 q2 l2
        go_still_tail 16, (by kernel_rfl)
        go_wp2
        go_end0
        exact ⟨rfl, RCrash_some HOK.out hlt HT.out HN.out.drew⟩
    · obtain ⟨j, rfl⟩ : ∃ j', j = j' + 1 := ⟨j - 1, by omega⟩
      have hlt' : j < d.wait.length := by omega
      obtain ⟨pg, rfl⟩ := Own.at0 hS.to2 (by omega)
      have w3 := wcells_get d.wait j hlt'
      have hwl := wcells_length d.wait
      have q0 := (Own.cellAt hS.to2 (j := j * 3) (by rw [hwl]; omega)).trans w3.1
      have q1 := (Own.cellAt hS.to2 (j := j * 3 + 1) (by rw [hwl]; omega)).trans w3.2.1
      have l0 := hS.lt
      have l2 := Own.lt hS.to2
      have c0 := hS.cell 0
      have c2 := hS.cell 2
      simp only [List.getElem?_cons_zero, List.getElem?_cons_succ] at c0 c2
      obtain ⟨t3, ht3⟩ : ∃ t3, d.wait[j] = t3 := ⟨_, rfl⟩
      have hq := HOK.out.2.1 _ (List.getElem_mem hlt')
      rw [ht3] at hq q0 q1
      have ho1 := hq.1
      have ho2 := HOK.out.2.2
      obtain ⟨lg, rfl⟩ := Own.at0 hS.to1 (by omega)
      have l1 := Own.lt hS.to1
      have hln : t3.1 < ((d.undo (j + 1)).map SV).length := by rw [List.length_map, d.undo_length]; exact ho1
      have r1 := (Own.cellAt hS.to1 (j := t3.1) hln)
      rw [List.getElem?_eq_getElem hln] at r1
      obtain ⟨cell1, hcell⟩ : ∃ x, ((d.undo (j + 1)).map SV)[t3.1] = x := ⟨_, rfl⟩
      rw [hcell] at r1
      have f1 := Own.freeAt (j := t3.1) hS.to1
      have hset := Own.set (j := t3.1) (SV t3.2.1) hln hS.to1
      rw [← List.map_set] at hset
      have hst := d.undo_step hlt'
      rw [ht3] at hst
      rw [← hst] at hset
      have HN : Hid (RSt E _ R a p d (some ⟨lg, 0, none⟩) lcap (some ⟨pg, 0, none⟩) pcap (d.undo j)) := Lib.hid hset.to1
      have ek : ((j + 1 : Nat) : Int) - 1 = (j : Int) := by omega
      rw [ek]
      clear hS w3 hwl hset hst ek hln hq ht3 hcell
      go_wp2
      go_still_tail 21, (by kernel_rfl)
      go_wp2
      go_roundw
      case rel => exact ⟨j, by omega, by omega, by go_num, HN.out.drew⟩
      case measure => simp [intOf]

end Go.Proofs.Ytpfhfeccdhmgiaa
