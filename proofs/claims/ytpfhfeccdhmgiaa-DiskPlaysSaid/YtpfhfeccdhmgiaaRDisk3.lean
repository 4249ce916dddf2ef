/- What is proved here: lemmas and contracts on the way to this seat's laws, part 'RDisk3'; no condition. -/
import Derived.Test.YtpfhfeccdhmgiaaRDisk2
namespace Go.Proofs.Ytpfhfeccdhmgiaa
open Go.RowKit

variable {E : Env} {w : World} {R : List HP}

set_option maxHeartbeats 400000 in
theorem slot_ok {a : Nat} {p : Option Addr} {d : RDiskM} (s : Int) (hS : Sat E w (RDiskP a p d :: R)) :
    Calls Try.prog 102 #[.pointer (some ⟨a, 0, none⟩), .int .i64 s] w fun e w' => e = .returned (.bool (decide (0 ≤ s ∧ s < d.slots.length))) ∧ w = w' := by
  obtain ⟨la, lcap, pa, pcap, h, hS⟩ := RDiskP.open hS
  have c1 := hS.cell 0
  simp at c1
  by_cases h0 : 0 ≤ s
  · by_cases h1 : s < d.slots.length
    · rw [decide_eq_true (show 0 ≤ s ∧ s < d.slots.length from ⟨h0, h1⟩)]
      go_enter Try.func102, Try.ntmps102
      go_wp2
      go_ret
      exact ⟨rfl, rfl⟩
    · rw [decide_eq_false (show ¬ (0 ≤ s ∧ s < d.slots.length) from by omega)]
      go_enter Try.func102, Try.ntmps102
      go_wp2
      go_ret
      exact ⟨rfl, rfl⟩
  · rw [decide_eq_false (show ¬ (0 ≤ s ∧ s < d.slots.length) from by omega)]
    go_enter Try.func102, Try.ntmps102
    go_wp2
    go_ret
    exact ⟨rfl, rfl⟩

def RDiskM.write (f : FuseM) (d : RDiskM) (s : Int) (b : List UInt8) : Int × RDiskM × FuseM :=
  if ¬ (0 ≤ s ∧ s < d.slots.length) ∨ b.length ≠ 96 then (1, d, f)
  else if !d.live then (5, d, f)
  else if f.dead then (4, d, f)
  else (0, { d with slots := d.slots.set s.toNat b, wait := d.wait ++ [(s.toNat, d.slots.getD s.toNat [], b)] }, f.spend)

theorem sv_size (l : List UInt8) : (ByteArray.mk l.toArray).size = l.length := by simp [ByteArray.size]

set_option maxHeartbeats 400000 in
theorem RWrite_no {a : Nat} {p : Option Addr} {d : RDiskM} (s : Int) (l : List UInt8) (h : ¬ (0 ≤ s ∧ s < d.slots.length)) (hS : Sat E w (RDiskP a p d :: R)) :
    Calls Try.prog 21 #[.pointer (some ⟨a, 0, none⟩), .int .i64 s, SV l] w fun e w' => e = .returned (.int .i64 1) ∧ w = w' := by
  have hi := slot_ok s hS
  rw [decide_eq_false h] at hi
  go_enter Try.func21, Try.ntmps21
  go_wp2_with (go_at_call 102; refine hi.mono ?_; rintro e w' ⟨rfl, rfl⟩)
  go_ret
  exact ⟨rfl, rfl⟩

set_option maxHeartbeats 400000 in
theorem RWrite_len {a : Nat} {p : Option Addr} {d : RDiskM} (s : Int) (l : List UInt8) (h : 0 ≤ s ∧ s < d.slots.length) (hn : l.length ≠ 96) (hS : Sat E w (RDiskP a p d :: R)) :
    Calls Try.prog 21 #[.pointer (some ⟨a, 0, none⟩), .int .i64 s, SV l] w fun e w' => e = .returned (.int .i64 1) ∧ w = w' := by
  have hi := slot_ok s hS
  rw [decide_eq_true h] at hi
  have hb : ((l.length : Int) != 96) = true := by rw [bne_iff_ne]; omega
  have hz := sv_size l
  go_enter Try.func21, Try.ntmps21
  go_wp2_with (go_at_call 102; refine hi.mono ?_; rintro e w' ⟨rfl, rfl⟩)
  go_ret
  exact ⟨rfl, rfl⟩

set_option maxHeartbeats 400000 in
theorem RWrite_gone {a : Nat} {p : Option Addr} {d : RDiskM} (s : Int) (l : List UInt8) (h : 0 ≤ s ∧ s < d.slots.length) (hn : l.length = 96) (hg : d.live = false) (hS : Sat E w (RDiskP a p d :: R)) :
    Calls Try.prog 21 #[.pointer (some ⟨a, 0, none⟩), .int .i64 s, SV l] w fun e w' => e = .returned (.int .i64 5) ∧ w = w' := by
  have hi := slot_ok s hS
  rw [decide_eq_true h] at hi
  have hz := (sv_size l).trans hn
  obtain ⟨la, lcap, pa, pcap, _, hS⟩ := RDiskP.open hS
  have c3 := hS.cell 1
  rw [hg] at c3
  simp at c3
  clear hg
  go_enter Try.func21, Try.ntmps21
  go_wp2_with (go_at_call 102; refine hi.mono ?_; rintro e w' ⟨rfl, rfl⟩)
  go_ret
  exact ⟨rfl, rfl⟩

set_option maxHeartbeats 400000 in
theorem RWrite_dead {a b : Nat} {d : RDiskM} {f : FuseM} (s : Int) (l : List UInt8) (h : 0 ≤ s ∧ s < d.slots.length) (hn : l.length = 96) (hg : d.live = true) (hf : f.dead = true) (hS : Sat E w (RFuseP (some ⟨b, 0, none⟩) f :: RDiskP a (some ⟨b, 0, none⟩) d :: R)) :
    Calls Try.prog 21 #[.pointer (some ⟨a, 0, none⟩), .int .i64 s, SV l] w fun e w' => e = .returned (.int .i64 4) ∧ Sat E w' (RFuseP (some ⟨b, 0, none⟩) f :: RDiskP a (some ⟨b, 0, none⟩) d :: R) := by
  have hi := slot_ok s hS.to1
  rw [decide_eq_true h] at hi
  have hz := (sv_size l).trans hn
  have hsp := RSpend_ok b f hS
  rw [hf, FuseM.spend_dead hf] at hsp
  obtain ⟨la, lcap, pa, pcap, _, hS⟩ := RDiskP.open hS.to1
  have c3 := hS.cell 1
  have c0 := hS.cell 3
  rw [hg] at c3
  simp at c3 c0
  clear hg hf
  go_enter Try.func21, Try.ntmps21
  go_wp2_with (first
    | (go_at_call 102; refine hi.mono ?_; rintro e w' ⟨rfl, rfl⟩)
    | (go_at_call 103; refine hsp.mono ?_; rintro e w' ⟨rfl, hS1⟩))
  go_ret
  exact ⟨rfl, hS1⟩

theorem three_new {w : World} {b : Nat} (hb : w.heap.size = b) (u v x : Value) (T : TypeId) : ∀ j y, [u, v, x][j]? = some y → (w.alloc (.cells #[u, v, x] T)).cell? ((⟨b, 0, none⟩ : Addr).add j) = some y := by
  subst hb
  intro j y hj
  rw [addr0]
  exact (cell_new1 w [u, v, x] T j).1.trans hj

theorem wcells_length (l : List (Nat × List UInt8 × List UInt8)) : (wcells l).length = l.length * 3 := by
  induction l with
  | nil => rfl
  | cons x l ih => simp only [wcells, List.flatMap_cons, List.length_append, List.length_cons, List.length_nil] at ih ⊢; omega

theorem wcells_get : ∀ (l : List (Nat × List UInt8 × List UInt8)) (j : Nat) (h1 : j < l.length), (wcells l)[j * 3]? = some (.int .i64 (l[j].1 : Int)) ∧ (wcells l)[j * 3 + 1]? = some (SV l[j].2.1) ∧ (wcells l)[j * 3 + 2]? = some (SV l[j].2.2)
  | x :: l, 0, _ => by simp [wcells]
  | x :: l, j + 1, h1 => by
    have h := wcells_get l j (by simpa using h1)
    have e1 : (j + 1) * 3 = j * 3 + 3 := by omega
    have e2 : (j + 1) * 3 + 1 = j * 3 + 1 + 3 := by omega
    have e3 : (j + 1) * 3 + 2 = j * 3 + 2 + 3 := by omega
    rw [e3, e2, e1]
    unfold wcells at h ⊢
    simpa using h

theorem RWrite_done {a s g' cap' lcap lg : Nat} {p : Option Addr} {d : RDiskM} {l : List UInt8} (hok : d.ok) (hl : l.length = 96) (h : s < d.slots.length)
    (hS : Sat E w (PT a [.slice (some ⟨lg, 0, none⟩) d.slots.length lcap, .bool d.live, .slice (some ⟨g', 0, none⟩) (d.wait.length + 1) cap', .pointer p] 35 :: Own 156 3 (.slice (some ⟨g', 0, none⟩) (d.wait.length + 1) cap') (d.wait.length + 1) (wcells d.wait ++ [.int .i64 (s : Int), SV (d.slots.getD s []), SV l]) ::
      Own 9 1 (.slice (some ⟨lg, 0, none⟩) d.slots.length lcap) d.slots.length (d.slots.map SV) :: R)) :
    Sat E (w.setCell ⟨lg, s, none⟩ (SV l)) (RDiskP a p { d with slots := d.slots.set s l, wait := d.wait ++ [(s, d.slots.getD s [], l)] } :: R) := by
  obtain ⟨o1, o2, o3⟩ := hok
  have h96 : (d.slots.getD s []).length = 96 := by
    rw [show d.slots.getD s [] = d.slots[s] from by simp [List.getD, h]]
    exact o1 _ (List.getElem_mem h)
  refine RDiskP.close (la := some ⟨lg, 0, none⟩) (lcap := lcap) (pa := some ⟨g', 0, none⟩) (pcap := cap') ⟨?_, ?_, by simpa using o3⟩ ?_
  · intro x hx
    rcases List.mem_or_eq_of_mem_set hx with hx | rfl
    · exact o1 x hx
    · exact hl
  · intro q hq
    rcases List.mem_append.1 hq with e | e
    · simpa using o2 q e
    · simp at e; subst e; exact ⟨by simpa using h, h96, hl⟩
  · have h9 := (Own.set (j := s) (SV l) (by simpa using h) hS.to2).at1
    rw [← List.map_set] at h9
    simp only [List.length_set, List.length_append, List.length_singleton]
    have e : wcells (d.wait ++ [(s, d.slots.getD s [], l)]) = wcells d.wait ++ [.int .i64 (s : Int), SV (d.slots.getD s []), SV l] := by simp [wcells]
    rw [e]
    exact h9

set_option maxHeartbeats 2000000 in
set_option maxRecDepth 100000 in
theorem RWrite_yes {a : Nat} {p : Option Addr} {d : RDiskM} {f : FuseM} (s : Nat) (l : List UInt8) (hl : l.length = 96) (h : s < d.slots.length) (hg : d.live = true) (hf : f.dead = false) (hp : d.wait.length ≤ 1000000)
    (hpb : p = none ∨ ∃ b, p = some ⟨b, 0, none⟩) (hS : Sat E w (RFuseP p f :: RDiskP a p d :: R)) :
    Calls Try.prog 21 #[.pointer (some ⟨a, 0, none⟩), .int .i64 s, SV l] w fun e w' => e = .returned (.int .i64 0) ∧
      Sat E w' (RFuseP p f.spend :: RDiskP a p { d with slots := d.slots.set s l, wait := d.wait ++ [(s, d.slots.getD s [], l)] } :: R) := by
  obtain ⟨i0, hi0, hz0, hz1, hz2⟩ := info_parts Try.infoRWrite
  have hi := slot_ok (s : Int) hS.to1
  rw [decide_eq_true (show 0 ≤ (s : Int) ∧ (s : Int) < d.slots.length by omega)] at hi
  have hz := (sv_size l).trans hl
  obtain ⟨la, lcap, pa, pcap, hok, hS'⟩ := RDiskP.open hS.to1
  have c3 := hS'.cell 1
  have c0 := hS'.cell 3
  rw [hg] at c3
  simp at c3 c0
  have HOK := Lib.hid hok
  have HG := Lib.hid hg
  have HL := Lib.hid hl
  clear hok hg hS' hl
  -- what stands behind the fuse
  have hsp : (p = none ∧ f.spend = f) ∨ (∃ b, p = some ⟨b, 0, none⟩ ∧ Calls Try.prog 103 #[.pointer (some ⟨b, 0, none⟩)] w fun e w' => e = .returned (.bool true) ∧ Sat E w' (RFuseP p f.spend :: RDiskP a p d :: R)) := by
    rcases hpb with rfl | ⟨b, rfl⟩
    · left
      rcases RFuseP.cases hS with ⟨_, hb⟩ | ⟨b, h, _⟩
      · exact ⟨rfl, by simp [FuseM.spend, hb]⟩
      · cases h
    · right
      refine ⟨b, rfl, ?_⟩
      have h := RSpend_ok b f hS
      rw [hf] at h
      exact h
  clear hf hpb
  rcases hsp with ⟨rfl, e⟩ | ⟨b, rfl, hsp⟩
  · have hS1 := hS
    rw [← e] at hS1
    clear e hS
    go_enter Try.func21, Try.ntmps21
    go_wp2_with (first
      | (go_at_call 102; refine hi.mono ?_; rintro e w' ⟨rfl, rfl⟩))
    clear hi c0 c3
    obtain ⟨la, lcap, pa, pcap, hok, hS2⟩ := RDiskP.open hS1.to1
    obtain ⟨lg, rfl⟩ := Own.at0 hS2.to1 (by omega)
    have d0 := hS2.cell 0
    have d2 := hS2.cell 2
    have e2 := hS2.free 2
    have l2 := hS2.lt
    have q2 := (Own.cellAt hS2.to1 (j := s) (by simpa using h)).trans (show (d.slots.map SV)[s]? = some (SV (d.slots.getD s [])) by simp [h, List.getD])
    have lq := Own.lt hS2.to1
    simp only [List.getElem?_cons_zero, List.getElem?_cons_succ] at d0 d2
    obtain ⟨was, hwas⟩ : ∃ x, d.slots.getD s [] = x := ⟨_, rfl⟩
    rw [hwas] at q2
    have HW := Lib.hid hwas
    clear hwas hok
    have hs64 : s < d.slots.length := h
    go_region_law (refine step_append_sat ((hS2.drew.allocAny _).to2) rfl (.tmp 41) (.tmp 52) 33 rfl i0 (.agg #[.int .i64 0, .string ⟨#[]⟩, .string ⟨#[]⟩]) 40 Try.underlying33 hi0 hz0 hz1 hz2 rfl (by decide) rfl _ 1 1 [.int .i64 s, SV was, SV l] rfl rfl (three_new (by simp) _ _ _ _) (by simp [Value.oneCell']) (by unfold maxLen; omega) (by omega) ?_; intro v' w' hS' _; obtain ⟨g', cap', rfl⟩ := Own.pos hS' (by omega); have hS4 := hS'.to1; have d4 := hS4.cell 2; have e4 := hS4.free 2; simp at d4)
    all_goals
      have hS5 := hS4.store 2 (.slice (some ⟨g', 0, none⟩) (d.wait.length + 1) cap')
      obtain ⟨W5, hW5⟩ : ∃ W5, w'.setCell ⟨a, 2, none⟩ (.slice (some ⟨g', 0, none⟩) (d.wait.length + 1) cap') = W5 := ⟨_, rfl⟩
      rw [hW5] at hS5 ⊢
      clear hW5 hS4 hS' d4 e4 d0 d2 e2 l2 q2 lq hS2 hS1
      have d5 := hS5.cell 0
      have k5 := (Own.cellAt hS5.to2 (j := s) (by simpa using h)).trans (show (d.slots.map SV)[s]? = some (SV (d.slots.getD s [])) by simp [h, List.getD])
      have f5 := Own.freeAt (j := s) hS5.to2
      simp at d5
      rw [HW.out] at k5
      have HS := Lib.hid hS5
      clear hS5
      go_wp2
      go_ret
      exact ⟨rfl, Sat.to1 (RWrite_done HOK.out HL.out h (by rw [HW.out]; exact HS.out))⟩
  · clear hS
    go_enter Try.func21, Try.ntmps21
    go_wp2_with (first
      | (go_at_call 102; refine hi.mono ?_; rintro e w' ⟨rfl, rfl⟩)
      | (go_at_call 103; refine hsp.mono ?_; rintro e w1 ⟨rfl, hS1⟩; clear hsp hi c0 c3))
    obtain ⟨la, lcap, pa, pcap, hok, hS2⟩ := RDiskP.open hS1.to1
    obtain ⟨lg, rfl⟩ := Own.at0 hS2.to1 (by omega)
    have d0 := hS2.cell 0
    have d2 := hS2.cell 2
    have e2 := hS2.free 2
    have l2 := hS2.lt
    have q2 := (Own.cellAt hS2.to1 (j := s) (by simpa using h)).trans (show (d.slots.map SV)[s]? = some (SV (d.slots.getD s [])) by simp [h, List.getD])
    have lq := Own.lt hS2.to1
    simp only [List.getElem?_cons_zero, List.getElem?_cons_succ] at d0 d2
    obtain ⟨was, hwas⟩ : ∃ x, d.slots.getD s [] = x := ⟨_, rfl⟩
    rw [hwas] at q2
    have HW := Lib.hid hwas
    clear hwas hok
    have hs64 : s < d.slots.length := h
    go_region_law (refine step_append_sat ((hS2.drew.allocAny _).to2) rfl (.tmp 41) (.tmp 52) 33 rfl i0 (.agg #[.int .i64 0, .string ⟨#[]⟩, .string ⟨#[]⟩]) 40 Try.underlying33 hi0 hz0 hz1 hz2 rfl (by decide) rfl _ 1 1 [.int .i64 s, SV was, SV l] rfl rfl (three_new (by simp) _ _ _ _) (by simp [Value.oneCell']) (by unfold maxLen; omega) (by omega) ?_; intro v' w' hS' _; obtain ⟨g', cap', rfl⟩ := Own.pos hS' (by omega); have hS4 := hS'.to1; have d4 := hS4.cell 2; have e4 := hS4.free 2; simp at d4)
    all_goals
      have hS5 := hS4.store 2 (.slice (some ⟨g', 0, none⟩) (d.wait.length + 1) cap')
      obtain ⟨W5, hW5⟩ : ∃ W5, w'.setCell ⟨a, 2, none⟩ (.slice (some ⟨g', 0, none⟩) (d.wait.length + 1) cap') = W5 := ⟨_, rfl⟩
      rw [hW5] at hS5 ⊢
      clear hW5 hS4 hS' d4 e4 d0 d2 e2 l2 q2 lq hS2 hS1
      have d5 := hS5.cell 0
      have k5 := (Own.cellAt hS5.to2 (j := s) (by simpa using h)).trans (show (d.slots.map SV)[s]? = some (SV (d.slots.getD s [])) by simp [h, List.getD])
      have f5 := Own.freeAt (j := s) hS5.to2
      simp at d5
      rw [HW.out] at k5
      have HS := Lib.hid hS5
      clear hS5
      go_wp2
      go_ret
      exact ⟨rfl, Sat.to1 (RWrite_done HOK.out HL.out h (by rw [HW.out]; exact HS.out))⟩

theorem RWrite_ok {a : Nat} {p : Option Addr} {d : RDiskM} {f : FuseM} (s : Int) (l : List UInt8) (hp : d.wait.length ≤ 1000000) (hpb : (p = none ∧ f.bound = false) ∨ ∃ b, p = some ⟨b, 0, none⟩) (hS : Sat E w (RFuseP p f :: RDiskP a p d :: R)) :
    Calls Try.prog 21 #[.pointer (some ⟨a, 0, none⟩), .int .i64 s, SV l] w fun e w' =>
      e = .returned (.int .i64 (d.write f s l).1) ∧ Sat E w' (RFuseP p (d.write f s l).2.2 :: RDiskP a p (d.write f s l).2.1 :: R) := by
  unfold RDiskM.write
  by_cases h1 : 0 ≤ s ∧ s < d.slots.length
  · by_cases h2 : l.length = 96
    · rw [if_neg (show ¬ (¬ (0 ≤ s ∧ s < d.slots.length) ∨ l.length ≠ 96) by omega)]
      cases hg : d.live with
      | false =>
        rw [if_pos (show (!false) = true from rfl)]
        refine (RWrite_gone s l h1 h2 hg hS.to1).mono ?_
        rintro e w' ⟨rfl, rfl⟩
        exact ⟨rfl, hS⟩
      | true =>
        rw [if_neg (by simp)]
        cases hf : f.dead with
        | true =>
          rw [if_pos rfl]
          rcases hpb with ⟨_, hb⟩ | ⟨b, rfl⟩
          · simp [FuseM.dead, hb] at hf
          · exact RWrite_dead s l h1 h2 hg hf hS
        | false =>
          rw [if_neg (by simp)]
          obtain ⟨n, rfl⟩ : ∃ n : Nat, s = n := ⟨s.toNat, by omega⟩
          have h := RWrite_yes n l h2 (by omega) hg hf hp (hpb.imp (·.1) id) hS
          first | exact h | (rw [hg] at h; exact h) | (rw [← hg]; exact h)
    · rw [if_pos (by omega)]
      refine (RWrite_len s l h1 h2 hS.to1).mono ?_
      rintro e w' ⟨rfl, rfl⟩
      exact ⟨rfl, hS⟩
  · rw [if_pos (by omega)]
    refine (RWrite_no s l h1 hS.to1).mono ?_
    rintro e w' ⟨rfl, rfl⟩
    exact ⟨rfl, hS⟩

end Go.Proofs.Ytpfhfeccdhmgiaa
