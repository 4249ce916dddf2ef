/- What is proved here: lemmas and contracts on the way to this seat's laws, part 'Disk6'; no condition. -/
import Derived.Test.YtpfhfeccdhmgiaaDisk5
namespace Go.Proofs.Ytpfhfeccdhmgiaa
open Go.RowKit

variable {E : Env} {w : World} {R : List HP}

theorem FuseP.get {b : Nat} {f : FuseM} (hS : Sat E w (FuseP (some ⟨b, 0, none⟩) f :: R)) : 0 ≤ f.left ∧ f.left ≤ 9223372036854775807 ∧ Sat E w (PT b [.int .i64 f.left, .bool f.bound] 147 :: R) := by
  rcases FuseP.cases hS with ⟨h, _⟩ | ⟨b', h, h1, h2, h3⟩
  · cases h
  · cases h; exact ⟨h1, h2, h3⟩

set_option maxHeartbeats 400000 in
theorem Set_ok (b : Nat) (f : FuseM) (k : Int) (hk : k ≤ 9223372036854775807) (hS : Sat E w (FuseP (some ⟨b, 0, none⟩) f :: R)) :
    Calls Try.prog 33 #[.pointer (some ⟨b, 0, none⟩), .int .i64 k] w fun e w' => e = .returned (.tuple #[]) ∧ Sat E w' (FuseP (some ⟨b, 0, none⟩) (.mk' k) :: R) := by
  have hN := NewFuse_ok k hk hS
  clear hS
  go_enter Try.func33, Try.ntmps33
  go_wp2_with (go_at_call 13; refine hN.mono ?_; rintro e w1 ⟨c, rfl, hS1⟩; obtain ⟨hk0, hk1, hS2⟩ := FuseP.get hS1; obtain ⟨_, _, hS3⟩ := FuseP.get hS2.to1; have hS4 := hS3.to1; have c0 := hS4.cell 0; have c1 := hS4.cell 1; have d0 := hS3.cell 0; have d1 := hS3.cell 1; have f0 := hS3.free 0; have f1 := hS3.free 1; have HS := Lib.hid hS3; have H0 := Lib.hid hk0; have H1 := Lib.hid hk1; clear hS1 hS2 hS3 hS4 hk0 hk1 hN; simp at c0 c1 d0 d1)
  go_end0
  have h9 := (HS.out.store 0 (.int .i64 (FuseM.mk' k).left)).store 1 (.bool (FuseM.mk' k).bound)
  exact ⟨rfl, FuseP.mk H0.out H1.out h9.to1.weak⟩

set_option maxHeartbeats 1000000 in
set_option maxRecDepth 100000 in
theorem Replace_ok {a : Nat} {p : Option Addr} {d : DiskM} (hS : Sat E w (DiskP a p d :: R)) :
    Calls Try.prog 27 #[.pointer (some ⟨a, 0, none⟩)] w fun e w' => e = .returned (.tuple #[]) ∧ Sat E w' (DiskP a p (.new d.slots.length) :: R) := by
  obtain ⟨la, lcap, pa, pcap, gs, hs, hok, hS'⟩ := DiskP.open hS
  have c0 := hS'.cell 0
  have c1 := hS'.cell 1
  simp at c0 c1
  have h64 := hok.1.2.2
  have hN := New_ok (w := w.drew) (d.slots.length : Int) p hS.drew
  have e : (min (max (d.slots.length : Int) 0) 64).toNat = d.slots.length := by omega
  rw [e] at hN
  clear e hS hS' hok h64
  go_enter Try.func27, Try.ntmps27
  go_wp2_with fail
  go_region_law (go_simp; go_at_call 15; refine hN.mono ?_; rintro e w1 ⟨b, rfl, hS1⟩; obtain ⟨la', lcap', pa', pcap', gs', hs', hok', hS2⟩ := DiskP.open hS1; obtain ⟨la2, lcap2, pa2, pcap2, gs2, hs2, hok2, hS3⟩ := DiskP.open hS2.to5; have hS4 := hS3.to5; have k0 := hS4.cell 0; have k1 := hS4.cell 1; have k2 := hS4.cell 2; have k3 := hS4.cell 3; have d0 := hS3.cell 0; have d1 := hS3.cell 1; have d2 := hS3.cell 2; have d3 := hS3.cell 3; have f0 := hS3.free 0; have f1 := hS3.free 1; have f2 := hS3.free 2; have f3 := hS3.free 3; simp at k0 k1 k2 k3 d0 d1 d2 d3)
  all_goals
    have h9 := (((hS3.store 0 (.pointer p)).store 1 (.slice la' (DiskM.new d.slots.length).slots.length lcap')).store 2 (.slice pa' (DiskM.new d.slots.length).pend.length pcap')).store 3 (.bool (DiskM.new d.slots.length).gone)
    have H9 := Lib.hid (DiskP.close (d := .new d.slots.length) (gs := gs') (hs := hs') hok' (h9.pk 10 [0, 6, 7, 8, 9]))
    clear h9 hS1 hS2 hS3 hS4 hok' hok2 hN
    go_wp2
    go_end0
    exact ⟨rfl, H9.out⟩

end Go.Proofs.Ytpfhfeccdhmgiaa
