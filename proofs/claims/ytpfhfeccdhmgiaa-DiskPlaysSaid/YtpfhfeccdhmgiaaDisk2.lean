/- What is proved here: lemmas and contracts on the way to this seat's laws, part 'Disk2'; no condition. -/
import Derived.Test.YtpfhfeccdhmgiaaDisk
import Derived.Test.YtpfhfeccdhmgiaaNow
import Derived.Lib.SliceRun
import Derived.Test.YtpfhfeccdhmgiaaCopy
namespace Go.Proofs.Ytpfhfeccdhmgiaa
open Go.RowKit

variable {E : Env} {w : World} {R : List HP}

set_option maxHeartbeats 1000000 in
set_option maxRecDepth 100000 in
theorem New_0 (s : Int) (p : Option Addr) (hs : s < 0) (hS : Sat E w R) :
    Calls Try.prog 15 #[.int .i64 s, .pointer p] w fun e w' => ∃ a, e = .returned (.pointer (some ⟨a, 0, none⟩)) ∧ Sat E w' (DiskP a p (.new 0) :: R) := by
  have hA := hS.alloc [.pointer p, .slice none 0 0, .slice none 0 0, .bool false] 150
  have HA := Lib.hid hA
  clear hA hS
  go_enter Try.func15, Try.ntmps15
  go_wp2
  go_loopw [12] (fun i wr => i = .int .i64 0 ∧ wr = (w.alloc (.cells #[.pointer p, .slice none 0 0, .slice none 0 0, .bool false] 150))) (fun _ _ => 0)
  case atStart => exact ⟨rfl, rfl⟩
  case round =>
    obtain ⟨rfl, rfl⟩ := hrel
    go_wp2
    go_ret
    exact ⟨w.heap.size, rfl, New_done (gs := []) rfl (by omega) (Own.nil _ _ (HA.out.nilRow)).to2⟩

theorem New_ok (s : Int) (p : Option Addr) (hS : Sat E w R) :
    Calls Try.prog 15 #[.int .i64 s, .pointer p] w fun e w' => ∃ a, e = .returned (.pointer (some ⟨a, 0, none⟩)) ∧ Sat E w' (DiskP a p (.new (min (max s 0) 64).toNat) :: R) := by
  by_cases h : s < 0
  · have e : (min (max s 0) 64).toNat = 0 := by omega
    rw [e]; exact New_0 s p h hS
  · exact New_n s p _ (by omega) hS

set_option maxHeartbeats 400000 in
theorem Slots_ok {a : Nat} {p : Option Addr} {d : DiskM} (hS : Sat E w (DiskP a p d :: R)) :
    Calls Try.prog 17 #[.pointer (some ⟨a, 0, none⟩)] w fun e w' => e = .returned (.int .i64 d.slots.length) ∧ w = w' := by
  obtain ⟨la, lcap, pa, pcap, gs, hs, h, hS⟩ := DiskP.open hS
  have c1 := hS.cell 1
  simp at c1
  go_enter Try.func17, Try.ntmps17
  go_wp2
  go_ret
  exact ⟨rfl, rfl⟩

set_option maxHeartbeats 400000 in
theorem Live_ok {a : Nat} {p : Option Addr} {d : DiskM} (hS : Sat E w (DiskP a p d :: R)) :
    Calls Try.prog 34 #[.pointer (some ⟨a, 0, none⟩)] w fun e w' => e = .returned (.bool (!d.gone)) ∧ w = w' := by
  obtain ⟨la, lcap, pa, pcap, gs, hs, h, hS⟩ := DiskP.open hS
  have c1 := hS.cell 3
  simp at c1
  go_enter Try.func34, Try.ntmps34
  go_wp2
  go_ret
  exact ⟨rfl, rfl⟩

set_option maxHeartbeats 400000 in
theorem Pending_ok {a : Nat} {p : Option Addr} {d : DiskM} (hS : Sat E w (DiskP a p d :: R)) :
    Calls Try.prog 37 #[.pointer (some ⟨a, 0, none⟩)] w fun e w' => e = .returned (.int .i64 d.pend.length) ∧ w = w' := by
  obtain ⟨la, lcap, pa, pcap, gs, hs, h, hS⟩ := DiskP.open hS
  have c1 := hS.cell 2
  simp at c1
  go_enter Try.func37, Try.ntmps37
  go_wp2
  go_ret
  exact ⟨rfl, rfl⟩

set_option maxHeartbeats 400000 in
theorem Fail_ok {a : Nat} {p : Option Addr} {d : DiskM} (hS : Sat E w (DiskP a p d :: R)) :
    Calls Try.prog 26 #[.pointer (some ⟨a, 0, none⟩)] w fun e w' => e = .returned (.tuple #[]) ∧ Sat E w' (DiskP a p { d with gone := true } :: R) := by
  obtain ⟨la, lcap, pa, pcap, gs, hs, h, hS⟩ := DiskP.open hS
  have c1 := hS.cell 3
  have f1 := hS.free 3
  have h2 := hS.store 3 (.bool true)
  have H := Lib.hid h
  have H2 := Lib.hid h2
  clear h2 hS h
  simp at c1
  go_enter Try.func26, Try.ntmps26
  go_wp2
  go_end0
  exact ⟨rfl, DiskP.close (d := { d with gone := true }) H.out H2.out⟩

set_option maxHeartbeats 400000 in
theorem is_ok {a : Nat} {p : Option Addr} {d : DiskM} (s : Int) (hS : Sat E w (DiskP a p d :: R)) :
    Calls Try.prog 99 #[.pointer (some ⟨a, 0, none⟩), .int .i64 s] w fun e w' => e = .returned (.bool (decide (0 ≤ s ∧ s < d.slots.length))) ∧ w = w' := by
  obtain ⟨la, lcap, pa, pcap, gs, hs, h, hS⟩ := DiskP.open hS
  have c1 := hS.cell 1
  simp at c1
  by_cases h0 : 0 ≤ s
  · by_cases h1 : s < d.slots.length
    · rw [decide_eq_true (show 0 ≤ s ∧ s < d.slots.length from ⟨h0, h1⟩)]
      go_enter Try.func99, Try.ntmps99
      go_wp2
      go_ret
      exact ⟨rfl, rfl⟩
    · rw [decide_eq_false (show ¬ (0 ≤ s ∧ s < d.slots.length) from by omega)]
      go_enter Try.func99, Try.ntmps99
      go_wp2
      go_ret
      exact ⟨rfl, rfl⟩
  · rw [decide_eq_false (show ¬ (0 ≤ s ∧ s < d.slots.length) from by omega)]
    go_enter Try.func99, Try.ntmps99
    go_wp2
    go_ret
    exact ⟨rfl, rfl⟩

theorem Own.mt (T size : Nat) {g : Nat} (hS : Sat E w (PT g [] T :: R)) : Sat E w (Own T size (.slice (some ⟨g, 0, none⟩) 0 0) 0 [] :: R) :=
  Own.mk [] (by simp) (Nat.le_refl _) (by unfold maxLen; omega) (by simp) (by simpa using hS)

set_option maxHeartbeats 400000 in
set_option maxRecDepth 100000 in
theorem Clone_ok (ad : Addr) (cap : Nat) (l : List UInt8) (hl : l.length ≤ 140737488351232) (hr : RB w (some ad) l) (hS : Sat E w R) :
    Calls Try.prog 101 #[.slice (some ad) l.length cap] w fun e w' => ∃ g c, e = .returned (.slice (some ⟨g, 0, none⟩) l.length c) ∧ Sat E w' (BytesP (.slice (some ⟨g, 0, none⟩) l.length c) l :: R) := by
  obtain ⟨i0, hi, hz0, hz1, hz2⟩ := info_parts Try.infoU8
  have hA := Own.mt 5 1 (hS.alloc [] 5)
  have hc : ∀ j u, (l.map BV)[j]? = some u → (w.alloc (.cells #[] 5)).cell? (ad.add j) = some u := fun j u hu => cell_alloc1 _ (hr.2 ad rfl j u hu)
  have q := fun (w : World) (a : Option Addr) (n c n' c' : Nat) => Lib.run_eql_slice_nil (P := Try.prog) w 37 5 a n c n' c' Try.underlying37
  clear hS hr
  go_enter Try.func101, Try.ntmps101
  go_wp2_with (at_builtin; refine wpList_append_sat hA rfl (.tmp 5) (.tmp 6) 37 rfl i0 (.int .u8 0) 1 Try.underlying37 hi hz0 hz1 hz2 rfl (by decide) rfl ad l.length cap (l.map BV) rfl (by simp) hc (bv_one l) (by unfold maxLen; omega) (by omega) ?_)
  intro v' w' h1 h2
  obtain ⟨g, c, rfl⟩ : ∃ g c, v' = .slice (some ⟨g, 0, none⟩) l.length c := by
    rcases (Own.cases h1).2 with ⟨e, _⟩ | ⟨g, c, _, e, _⟩
    · exact (h2 e).elim
    · exact ⟨g, c, e⟩
  clear h2
  go_wp2
  go_ret
  exact ⟨g, c, rfl, h1⟩

theorem Clone_n {n : Nat} (ad : Addr) (cap : Nat) (l : List UInt8) (hn : l.length = n) (hl : n ≤ 140737488351232) (hr : RB w (some ad) l) (hS : Sat E w R) :
    Calls Try.prog 101 #[.slice (some ad) n cap] w fun e w' => ∃ g c, e = .returned (.slice (some ⟨g, 0, none⟩) n c) ∧ Sat E w' (BytesP (.slice (some ⟨g, 0, none⟩) n c) l :: R) := by
  subst hn
  exact Clone_ok ad cap l hl hr hS

/-- What a disk that is written to becomes, and its error. -/
def DiskM.write (f : FuseM) (d : DiskM) (s : Int) (b : List UInt8) : Int × DiskM × FuseM :=
  if ¬ (0 ≤ s ∧ s < d.slots.length) ∨ b.length ≠ 96 then (1, d, f)
  else if d.gone then (5, d, f)
  else if f.dead then (4, d, f)
  else (0, { d with pend := d.pend ++ [(s.toNat, b)] }, f.spend)

theorem FuseM.spend_dead {f : FuseM} (h : f.dead = true) : f.spend = f := by
  obtain ⟨k, b⟩ := f
  simp only [FuseM.dead, Bool.and_eq_true] at h
  simp [FuseM.spend, h.1, h.2]

/-- What the others have lets these bytes be read. -/
def Rd (E : Env) (R : List HP) (ao : Option Addr) (l : List UInt8) : Prop := ∀ w, Sat E w R → RB w ao l

theorem Try.infoWrite : (Try.prog.info? 154).map (fun i => (i.zero, i.size, i.bytes)) = some (some (.agg #[.int .i64 0, .slice none 0 0]), 2, 32) := by kernel_rfl

theorem Write_no {a : Nat} {p : Option Addr} {d : DiskM} {f : FuseM} (s : Int) (ao : Option Addr) (cap n : Nat) (h : ¬ (0 ≤ s ∧ s < d.slots.length)) (hS : Sat E w (FuseP p f :: DiskP a p d :: R)) :
    Calls Try.prog 19 #[.pointer (some ⟨a, 0, none⟩), .int .i64 s, .slice ao n cap] w fun e w' => e = .returned (.int .i64 1) ∧ w = w' := by
  have hi := is_ok s hS.to1
  rw [decide_eq_false h] at hi
  go_enter Try.func19, Try.ntmps19
  go_wp2_with (go_at_call 99; refine hi.mono ?_; rintro e w' ⟨rfl, rfl⟩)
  go_ret
  exact ⟨rfl, rfl⟩

theorem Write_len {a : Nat} {p : Option Addr} {d : DiskM} {f : FuseM} (s : Int) (ao : Option Addr) (cap n : Nat) (h : 0 ≤ s ∧ s < d.slots.length) (hn : n ≠ 96) (hS : Sat E w (FuseP p f :: DiskP a p d :: R)) :
    Calls Try.prog 19 #[.pointer (some ⟨a, 0, none⟩), .int .i64 s, .slice ao n cap] w fun e w' => e = .returned (.int .i64 1) ∧ w = w' := by
  have hi := is_ok s hS.to1
  rw [decide_eq_true h] at hi
  have hb : ((n : Int) != 96) = true := by rw [bne_iff_ne]; omega
  go_enter Try.func19, Try.ntmps19
  go_wp2_with (go_at_call 99; refine hi.mono ?_; rintro e w' ⟨rfl, rfl⟩)
  go_ret
  exact ⟨rfl, rfl⟩

theorem Write_gone {a : Nat} {p : Option Addr} {d : DiskM} {f : FuseM} (s : Int) (ao : Option Addr) (cap : Nat) (h : 0 ≤ s ∧ s < d.slots.length) (hg : d.gone = true) (hS : Sat E w (FuseP p f :: DiskP a p d :: R)) :
    Calls Try.prog 19 #[.pointer (some ⟨a, 0, none⟩), .int .i64 s, .slice ao 96 cap] w fun e w' => e = .returned (.int .i64 5) ∧ w = w' := by
  have hi := is_ok s hS.to1
  rw [decide_eq_true h] at hi
  obtain ⟨la, lcap, pa, pcap, gs, hs, _, hS⟩ := DiskP.open hS.to1
  have c3 := hS.cell 3
  rw [hg] at c3
  simp at c3
  clear hg
  go_enter Try.func19, Try.ntmps19
  go_wp2_with (go_at_call 99; refine hi.mono ?_; rintro e w' ⟨rfl, rfl⟩)
  go_ret
  exact ⟨rfl, rfl⟩

theorem Write_dead {a : Nat} {p : Option Addr} {d : DiskM} {f : FuseM} (s : Int) (ao : Option Addr) (cap : Nat) (h : 0 ≤ s ∧ s < d.slots.length) (hg : d.gone = false) (hf : f.dead = true) (hS : Sat E w (FuseP p f :: DiskP a p d :: R)) :
    Calls Try.prog 19 #[.pointer (some ⟨a, 0, none⟩), .int .i64 s, .slice ao 96 cap] w fun e w' => e = .returned (.int .i64 4) ∧ Sat E w' (FuseP p f :: DiskP a p d :: R) := by
  have hi := is_ok s hS.to1
  have hsp := Spend_ok p f hS
  rw [hf, FuseM.spend_dead hf] at hsp
  rw [decide_eq_true h] at hi
  obtain ⟨la, lcap, pa, pcap, gs, hs, _, hS⟩ := DiskP.open hS.to1
  have c3 := hS.cell 3
  have c0 := hS.cell 0
  rw [hg] at c3
  simp at c3 c0
  clear hg hf
  go_enter Try.func19, Try.ntmps19
  go_wp2_with (first | (go_at_call 99; refine hi.mono ?_; rintro e w' ⟨rfl, rfl⟩) | (go_at_call 100; refine hsp.mono ?_; rintro e w' ⟨rfl, hS1⟩))
  go_ret
  exact ⟨rfl, hS1⟩

theorem pcells_push {l : List (Nat × List UInt8)} {hs : List (Nat × Nat)} (h : hs.length = l.length) (x : Nat × List UInt8) (y : Nat × Nat) : pcells (l ++ [x]) (hs ++ [y]) = pcells l hs ++ [.int .i64 (x.1 : Int), sl y] := by
  unfold pcells
  rw [List.zip_append h.symm]
  simp

theorem pendPs_push {l : List (Nat × List UInt8)} {hs : List (Nat × Nat)} (h : hs.length = l.length) (x : Nat × List UInt8) (y : Nat × Nat) : pendPs (hs ++ [y]) (l ++ [x]) = pendPs hs l ++ [BytesP (sl y) x.2] := by
  unfold pendPs
  rw [List.zipWith_append h]
  simp

theorem Write_done {a s g3 c4 g' cap' lcap : Nat} {p la : Option Addr} {d : DiskM} {l : List UInt8} {gs hs : List (Nat × Nat)} {A : HP} (hok : d.ok ∧ gs.length = d.slots.length ∧ hs.length = d.pend.length) (hl : l.length = 96) (h : s < d.slots.length)
    (hS : Sat E w (PT a [.pointer p, .slice la d.slots.length lcap, .slice (some ⟨g', 0, none⟩) (d.pend.length + 1) cap', .bool d.gone] 150 :: Own 154 2 (.slice (some ⟨g', 0, none⟩) (d.pend.length + 1) cap') (d.pend.length + 1) (pcells d.pend hs ++ [.int .i64 (s : Int), .slice (some ⟨g3, 0, none⟩) 96 c4]) ::
      BytesP (.slice (some ⟨g3, 0, none⟩) 96 c4) l :: Own 37 1 (.slice la d.slots.length lcap) d.slots.length (gs.map sl) :: All (slotPs gs d.slots) :: All (pendPs hs d.pend) :: A :: R)) :
    Sat E w (A :: DiskP a p { d with pend := d.pend ++ [(s, l)] } :: R) := by
  obtain ⟨⟨o1, o2, o3⟩, h1, h2⟩ := hok
  have k := (Sat.push (hS.to2.to5)).at4.to2.to1
  refine Sat.to1 ?_
  refine DiskP.close (d := { d with pend := d.pend ++ [(s, l)] }) (la := la) (lcap := lcap) (pa := some ⟨g', 0, none⟩) (pcap := cap') (gs := gs) (hs := hs ++ [(g3, c4)]) ⟨⟨o1, ?_, o3⟩, h1, by simp [h2]⟩ ?_
  · intro q hq
    rcases List.mem_append.1 hq with e | e
    · exact o2 q e
    · simp at e; subst e; exact ⟨h, hl⟩
  · dsimp only
    rw [pcells_push h2, pendPs_push h2]
    simp only [List.length_append, List.length_singleton]
    exact k

set_option maxHeartbeats 1000000 in
set_option maxRecDepth 100000 in
theorem Write_yes {a : Nat} {p : Option Addr} {d : DiskM} {f : FuseM} (s : Nat) (ad : Addr) (cap : Nat) (l : List UInt8) (hl : l.length = 96) (h : s < d.slots.length) (hg : d.gone = false) (hf : f.dead = false) (hp : d.pend.length ≤ 1000000)
    (hr : Rd E R (some ad) l) (hS : Sat E w (FuseP p f :: DiskP a p d :: R)) :
    Calls Try.prog 19 #[.pointer (some ⟨a, 0, none⟩), .int .i64 s, .slice (some ad) 96 cap] w fun e w' => e = .returned (.int .i64 0) ∧ Sat E w' (FuseP p f.spend :: DiskP a p { d with pend := d.pend ++ [(s, l)] } :: R) := by
  obtain ⟨i0, hi0, hz0, hz1, hz2⟩ := info_parts Try.infoWrite
  have hi := is_ok (s : Int) hS.to1
  have hsp := Spend_ok p f hS
  rw [hf] at hsp
  rw [decide_eq_true (show 0 ≤ (s : Int) ∧ (s : Int) < d.slots.length by omega)] at hi
  obtain ⟨la, lcap, pa, pcap, gs, hs, hok, hS'⟩ := DiskP.open hS.to1
  have c3 := hS'.cell 3
  have c0 := hS'.cell 0
  rw [hg] at c3
  simp at c3 c0
  clear hS' hok hf
  go_enter Try.func19, Try.ntmps19
  go_wp2_with (first | (go_at_call 99; refine hi.mono ?_; rintro e w' ⟨rfl, rfl⟩) | (go_at_call 100; refine hsp.mono ?_; rintro e w1 ⟨rfl, hS1⟩; clear hsp hi hS c0 c3 la lcap pa pcap gs hs))
  obtain ⟨la, lcap, pa, pcap, gs, hs, hok, hS2⟩ := DiskP.open hS1.to1
  have HOK := Lib.hid hok
  have HG := Lib.hid hg
  clear hok hg hS1
  have d2 := hS2.cell 2
  have e2 := hS2.free 2
  have l2 := hS2.lt
  simp at d2
  go_region_law (first
    | (refine step_append_sat ((hS3.allocAny _).to3) rfl (.tmp 33) (.tmp 38) 148 rfl i0 (.agg #[.int .i64 0, .slice none 0 0]) 32 Try.underlying148 hi0 hz0 hz1 hz2 rfl (by decide) rfl _ 1 1 [.int .i64 s, .slice (some ⟨g3, 0, none⟩) 96 c4] rfl rfl (two_new rfl _ _ _) (by simp [Value.oneCell']) (by unfold maxLen; omega) (by omega) ?_; intro v' w' hS' _; obtain ⟨g', cap', rfl⟩ := Own.pos hS' (by omega); have hS4 := hS'.to2; have d4 := hS4.cell 2; have e4 := hS4.free 2; simp at d4)
    | (go_simp; go_at_call 101; refine (Clone_n ad cap l hl (by omega) (hr _ hS2.drew.weak.weak.weak.weak.weak.weak) hS2.drew).mono ?_; rintro e w3 ⟨g3, c4, rfl, hS3⟩; have hS3' := hS3.to1; have d3 := hS3'.cell 2; have e3 := hS3'.free 2; have l3 := hS3'.lt; simp at d3))
  all_goals
    go_wp2
    go_ret
    exact ⟨rfl, Write_done HOK.out hl h (hS4.store 2 _)⟩

end Go.Proofs.Ytpfhfeccdhmgiaa
