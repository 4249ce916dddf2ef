/- What is proved here: lemmas and contracts on the way to this seat's laws, part 'Awake'; no condition. -/
import Derived.Test.YtpfhfeccdhmgiaaRDisk6
import Derived.Deep.RegionHeld3
/- 'awake' of the law of disks is true. -/
namespace Go.Proofs.Ytpfhfeccdhmgiaa
open Go.RowKit

variable {E : Env} {w : World} {R : List HP}

def awD : DiskM := ⟨[zeros, zeros], [(0, full 1)], false⟩

theorem aw1 : (DiskM.new 2).write (FuseM.mk' 1) 0 (full 1) = (0, awD, ⟨0, true⟩) := by
  simp [DiskM.write, full_len, DiskM.new, FuseM.dead, FuseM.mk', FuseM.spend, awD]; rfl

theorem aw2 : awD.write ⟨0, true⟩ 1 (full 2) = (4, awD, ⟨0, true⟩) := by
  simp [DiskM.write, full_len, FuseM.dead, awD]

theorem aw3 : awD.crash 0 0 = ⟨[zeros, zeros], [], false⟩ := by
  simp [DiskM.crash, DiskM.last, DiskM.lastK, awD]
  rfl

theorem Rd.bytes {g n c : Nat} {l : List UInt8} : Rd E (BytesP (.slice (some ⟨g, 0, none⟩) n c) l :: R) (some ⟨g, 0, none⟩) l := fun _ h => RB.ofBytes h

set_option maxHeartbeats 2000000 in
set_option maxRecDepth 100000 in
theorem awake_ok (hS : Sat E w R) : Calls Try.prog 18 #[] w fun e w' => e = .returned (.bool true) ∧ Sat E w' R := by
  have hN := NewFuse_ok 1 (by omega) hS
  clear hS
  go_enter Try.func18, Try.ntmps18
  go_wp2_with (first
    | (go_at_call 13; refine hN.mono ?_; rintro e w1 ⟨b, rfl, hS1⟩; have HS1 := Lib.hid hS1; clear hS1 hN)
    | (go_at_call 15; refine (New_ok 2 (some ⟨b, 0, none⟩) HS1.out).mono ?_; rintro e w2 ⟨a, rfl, hS2⟩; have HS2 := Lib.hid hS2; clear hS2 HS1)
    | (go_at_call 20; refine (Full_ok 1 HS2.out).mono ?_; rintro e w3 ⟨g, rfl, hS3⟩; have HS3 := Lib.hid hS3; clear hS3 HS2)
    | (go_at_call 19; refine (Write_ok (R := BytesP (.slice (some ⟨g, 0, none⟩) 96 96) (full 1) :: R) (d := DiskM.new 2) (f := .mk' 1) 0 (some ⟨g, 0, none⟩) 96 (full 1) (by simp [DiskM.new]) Rd.bytes (HS3.out.pk 3 [2, 1, 0])).mono ?_; rintro e w4 ⟨rfl, hS4⟩; rw [aw1] at hS4 ⊢; dsimp only at hS4 ⊢; have HS4 := Lib.hid hS4; have hD := Dead_ok _ _ hS4; clear hS4 HS3)
    | (go_at_call 35; refine hD.mono ?_; rintro e w5 ⟨rfl, rfl⟩; clear hD)
    | (go_at_call 20; refine (Full_ok 2 HS4.out).mono ?_; rintro e w6 ⟨g2, rfl, hS6⟩; have HS6 := Lib.hid hS6; clear hS6 HS4)
    | (go_at_call 19; refine (Write_ok (R := BytesP (.slice (some ⟨g2, 0, none⟩) 96 96) (full 2) :: BytesP (.slice (some ⟨g, 0, none⟩) 96 96) (full 1) :: R) (d := awD) (f := ⟨0, true⟩) 1 (some ⟨g2, 0, none⟩) 96 (full 2) (by simp [awD]) Rd.bytes (HS6.out.pk 3 [1, 2, 0])).mono ?_; rintro e w7 ⟨rfl, hS7⟩; rw [aw2] at hS7 ⊢; dsimp only at hS7 ⊢; have HS7 := Lib.hid hS7.to1; clear hS7 HS6)
    | (go_at_call 31; refine (Crash_ok 0 0 (by simp [awD]) HS7.out).mono ?_; rintro e w8 ⟨rfl, hS8⟩; rw [aw3] at hS8; have HS8 := Lib.hid hS8; clear hS8 HS7)
    | (go_at_call 22; refine (Read_yes 0 (by simp) rfl (by simp) HS8.out).mono ?_; rintro e w9 ⟨g3, c3, rfl, hS9⟩; rw [show (DiskM.mk [zeros, zeros] [] false).now 0 = zeros from rfl] at hS9; have HS9 := Lib.hid hS9; clear hS9 HS8))
  rw [show FuseM.dead ⟨0, true⟩ = true from rfl]
  have h9 := HS9.out
  have hcv := run_string_of (P := Try.prog) 37 9 Try.underlying37 Try.underlying5 Try.underlying9 (some ⟨g3, 0, none⟩) c3 zeros (RB.ofBytes h9)
  have hcv2 := run_string_of (P := Try.prog) 37 9 Try.underlying37 Try.underlying5 Try.underlying9 (some ⟨g3, 0, none⟩) c3 zeros (RB.ofBytes h9.drew)
  rw [zeros_len] at hcv hcv2
  clear h9
  go_region_held3 (fun w' => Sat E w' (BytesP (.slice (some ⟨g3, 0, none⟩) 96 c3) zeros :: DiskP a (some ⟨b, 0, none⟩) ⟨[zeros, zeros], [], false⟩ :: FuseP (some ⟨b, 0, none⟩) ⟨0, true⟩ :: BytesP (.slice (some ⟨g2, 0, none⟩) 96 96) (full 2) :: BytesP (.slice (some ⟨g, 0, none⟩) 96 96) (full 1) :: R) ∧ (convert 37 9 (.slice (some ⟨g3, 0, none⟩) 96 c3)).run Try.prog w' = .ok (SV zeros) w')
    (first | exact hHeld | exact ⟨HS9.out.drew, hcv2⟩ | exact ⟨HS10.out, hcv3⟩)
    (first
    | (go_at_call 98; refine (Blank_ok HS9.out.drew).mono ?_; rintro e w10 ⟨rfl, hS10⟩; have hcv3 := run_string_of (P := Try.prog) 37 9 Try.underlying37 Try.underlying5 Try.underlying9 (some ⟨g3, 0, none⟩) c3 zeros (RB.ofBytes hS10); rw [zeros_len] at hcv3; have HS10 := Lib.hid hS10; clear hS10)
    | (go_at_call 17; refine (Slots_ok HS10.out.to1).mono ?_; rintro e w11 ⟨rfl, rfl⟩))
  all_goals
    go_wp2
    go_ret
    exact ⟨rfl, HS10.out.weak.weak.weak.weak.weak⟩

end Go.Proofs.Ytpfhfeccdhmgiaa
