/- What is proved here: lemmas and contracts on the way to this seat's laws, part 'Last'; no condition. -/
import Derived.Test.YtpfhfeccdhmgiaaDisk3
namespace Go.Proofs.Ytpfhfeccdhmgiaa
open Go.RowKit

variable {E : Env} {w : World} {R : List HP}

/-- The state between two rounds of last. -/
def LastS (E : Env) (wr : World) (R : List HP) (a : Nat) (p : Option Addr) (d : DiskM) (la : Option Addr) (lcap : Nat) (pa : Option Addr) (pcap : Nat) (gs hs : List (Nat × Nat)) (cur : List (List UInt8)) : Prop :=
  Sat E wr (PT a [.pointer p, .slice la d.slots.length lcap, .slice pa d.pend.length pcap, .bool d.gone] 150 :: Own 37 1 (.slice la d.slots.length lcap) d.slots.length (gs.map sl) ::
    Own 154 2 (.slice pa d.pend.length pcap) d.pend.length (pcells d.pend hs) :: All (slotPs gs cur) :: All (pendPs hs d.pend) :: R)

theorem LastS.rd {wr : World} {a : Nat} {p : Option Addr} {d : DiskM} {la : Option Addr} {lcap : Nat} {pa : Option Addr} {pcap : Nat} {gs hs : List (Nat × Nat)} {cur : List (List UInt8)}
    (hS : LastS E wr R a p d la lcap pa pcap gs hs cur) {k : Nat} (h1 : k < hs.length) (h2 : k < d.pend.length) {s y1 y2 : Nat} {b : List UInt8} (hx : hs[k] = (y1, y2)) (hr : d.pend[k] = (s, b)) : RB wr (some ⟨y1, 0, none⟩) b := by
  have h := Sat.out k (pendPs_get h1 h2) (Sat.to4 hS)
  rw [hx, hr] at h
  exact RB.ofBytes h

theorem BytesP.cap {g n c : Nat} {l : List UInt8} (hS : Sat E w (BytesP (.slice (some ⟨g, 0, none⟩) n c) l :: R)) : n ≤ c := by
  rcases (Own.cases hS).2 with ⟨h, _⟩ | ⟨g', cap, junk, h, hn, _, _, _⟩
  · cases h
  · cases h; exact hn

theorem LastS.cap {wr : World} {a : Nat} {p : Option Addr} {d : DiskM} {la : Option Addr} {lcap : Nat} {pa : Option Addr} {pcap : Nat} {gs hs : List (Nat × Nat)} {cur : List (List UInt8)}
    (hS : LastS E wr R a p d la lcap pa pcap gs hs cur) {k : Nat} (h1 : k < hs.length) (h2 : k < d.pend.length) {y1 y2 : Nat} (hx : hs[k] = (y1, y2)) : 96 ≤ y2 := by
  have h := Sat.out k (pendPs_get h1 h2) (Sat.to4 hS)
  rw [hx] at h
  exact BytesP.cap h

theorem LastS.get {wr : World} {a : Nat} {p : Option Addr} {d : DiskM} {la : Option Addr} {lcap : Nat} {pa : Option Addr} {pcap : Nat} {gs hs : List (Nat × Nat)} {cur : List (List UInt8)}
    (hS : LastS E wr R a p d la lcap pa pcap gs hs cur) {s : Nat} (h1 : s < gs.length) (h2 : s < cur.length) {x1 x2 : Nat} (hx : gs[s] = (x1, x2)) :
    Sat E wr (BytesP (.slice (some ⟨x1, 0, none⟩) 96 x2) (cur.getD s []) :: All ((slotPs gs cur).set s emp) :: PT a [.pointer p, .slice la d.slots.length lcap, .slice pa d.pend.length pcap, .bool d.gone] 150 :: Own 37 1 (.slice la d.slots.length lcap) d.slots.length (gs.map sl) ::
    Own 154 2 (.slice pa d.pend.length pcap) d.pend.length (pcells d.pend hs) :: All (pendPs hs d.pend) :: R) := by
  have h := Sat.out s (slotPs_get h1 h2) (Sat.to3 hS)
  rw [hx] at h
  rw [show cur.getD s [] = cur[s] from by simp [List.getD, h2]]
  exact h

theorem LastS.put {wr : World} {a : Nat} {p : Option Addr} {d : DiskM} {la : Option Addr} {lcap : Nat} {pa : Option Addr} {pcap : Nat} {gs hs : List (Nat × Nat)} {cur : List (List UInt8)} {s : Nat} (h1 : s < gs.length) {x1 x2 : Nat} (hx : gs[s] = (x1, x2)) {b : List UInt8}
    (hS : Sat E wr (BytesP (.slice (some ⟨x1, 0, none⟩) 96 x2) b :: All ((slotPs gs cur).set s emp) :: PT a [.pointer p, .slice la d.slots.length lcap, .slice pa d.pend.length pcap, .bool d.gone] 150 :: Own 37 1 (.slice la d.slots.length lcap) d.slots.length (gs.map sl) ::
    Own 154 2 (.slice pa d.pend.length pcap) d.pend.length (pcells d.pend hs) :: All (pendPs hs d.pend) :: R)) : LastS E wr R a p d la lcap pa pcap gs hs (cur.set s b) := by
  have h := Sat.back s hS
  have e := slotPs_set (l := cur) h1 b
  rw [hx] at e
  rw [e] at h
  exact h.at3

theorem DiskM.lastK_lt {d : DiskM} {keep : Int} {torn k s : Nat} {b : List UInt8} (h : k < d.pend.length) (hr : d.pend[k] = (s, b)) (hk : (k : Int) < keep) : d.lastK keep torn (k + 1) = (d.lastK keep torn k).set s b := by
  have e : d.pend[k]? = some (s, b) := by rw [← hr]; simp [h]
  rw [DiskM.lastK]
  simp only [e]
  rw [if_pos hk]
theorem DiskM.lastK_eq {d : DiskM} {keep : Int} {torn k s : Nat} {b : List UInt8} (h : k < d.pend.length) (hr : d.pend[k] = (s, b)) (hk : (k : Int) = keep) :
    d.lastK keep torn (k + 1) = (d.lastK keep torn k).set s (b.take torn ++ ((d.lastK keep torn k).getD s []).drop torn) := by
  have e : d.pend[k]? = some (s, b) := by rw [← hr]; simp [h]
  rw [DiskM.lastK]
  simp only [e]
  rw [if_neg (by omega), if_pos hk]
theorem DiskM.lastK_gt {d : DiskM} {keep : Int} {torn k s : Nat} {b : List UInt8} (h : k < d.pend.length) (hr : d.pend[k] = (s, b)) (hk : keep < (k : Int)) : d.lastK keep torn (k + 1) = d.lastK keep torn k := by
  have e : d.pend[k]? = some (s, b) := by rw [← hr]; simp [h]
  rw [DiskM.lastK]
  simp only [e]
  rw [if_neg (by omega), if_neg (by omega)]

theorem DiskM.lastK_get {d : DiskM} (hok : d.ok) {keep : Int} {torn k s : Nat} (hs : s < d.slots.length) : ((d.lastK keep torn k).getD s []).length = 96 := by
  have hl : s < (d.lastK keep torn k).length := by rw [d.lastK_length]; exact hs
  rw [show (d.lastK keep torn k).getD s [] = (d.lastK keep torn k)[s] from by simp [List.getD, hl]]
  exact d.lastK_96 hok keep torn k _ (List.getElem_mem hl)

theorem last_done {wr : World} {a : Nat} {p : Option Addr} {d : DiskM} {la : Option Addr} {lcap : Nat} {pa : Option Addr} {pcap : Nat} {gs hs : List (Nat × Nat)} {keep : Int} {torn : Nat} (hok : d.ok ∧ gs.length = d.slots.length ∧ hs.length = d.pend.length)
    (hS : LastS E wr R a p d la lcap pa pcap gs hs (d.lastK keep torn d.pend.length)) : Sat E (wr.setCell ⟨a, 2, none⟩ (.slice none 0 0)) (DiskP a p (d.last keep torn) :: R) := by
  have h1 := (Sat.store hS 2 (.slice none 0 0)).to2.weak.to3.weak
  have h2 := (Own.nil 154 2 (Sat.nilRow h1).at3).at2
  refine DiskP.close (d := d.last keep torn) (la := la) (lcap := lcap) (pa := none) (pcap := 0) (gs := gs) (hs := []) ⟨⟨?_, ?_, ?_⟩, ?_, rfl⟩ ?_
  · exact d.lastK_96 hok.1 keep torn _
  · intro p hp; cases hp
  · show (d.lastK keep torn _).length ≤ 64
    rw [d.lastK_length]; exact hok.1.2.2
  · show _ = (d.lastK keep torn _).length
    rw [d.lastK_length]; exact hok.2.1
  · simp only [DiskM.last, d.lastK_length]
    exact h2

set_option maxHeartbeats 2000000 in
set_option maxRecDepth 100000 in
theorem last_ok {a : Nat} {p : Option Addr} {d : DiskM} (keep : Int) (torn : Nat) (hk : 0 ≤ keep) (ht : torn ≤ 96) (hp : d.pend.length ≤ 1000000) (hS : Sat E w (DiskP a p d :: R)) :
    Calls Try.prog 105 #[.pointer (some ⟨a, 0, none⟩), .int .i64 keep, .int .i64 torn] w fun e w' => e = .returned (.tuple #[]) ∧ Sat E w' (DiskP a p (d.last keep torn) :: R) := by
  obtain ⟨la, lcap, pa, pcap, gs, hs, hok, hS⟩ := DiskP.open hS
  have c2 := hS.cell 2
  have f2 := hS.free 2
  simp at c2
  have HOK := Lib.hid hok
  have HS := Lib.hid hS
  clear hok hS
  go_enter Try.func105, Try.ntmps105
  go_wp2
  clear c2 f2
  go_loopw [13] (fun i wr => ∃ k : Nat, k ≤ d.pend.length ∧ i = .int .i64 k ∧ LastS E wr R a p d la lcap pa pcap gs hs (d.lastK keep torn k)) (fun i _ => d.pend.length - (intOf i).toNat)
  case atStart => exact ⟨0, Nat.zero_le _, rfl, HS.out⟩
  case round =>
    obtain ⟨k, hkl, rfl, hS⟩ := hrel
    unfold LastS at hS
    by_cases hlt : k < d.pend.length
    · obtain ⟨⟨o1, o2, o3⟩, hgl, hhl⟩ := HOK.out
      have hkh : k < hs.length := by omega
      obtain ⟨pg, rfl⟩ := Own.at0 hS.to2 (by omega)
      have hpc := pcells_get d.pend hs k hlt hkh
      have hpl := pcells_length d.pend hs hhl
      have q0 := (Own.cellAt hS.to2 (j := k * 2) (by omega)).trans hpc.1
      have q1 := (Own.cellAt hS.to2 (j := k * 2 + 1) (by omega)).trans hpc.2
      obtain ⟨s, hs'⟩ : ∃ s, d.pend[k].1 = s := ⟨_, rfl⟩
      obtain ⟨b, hb'⟩ : ∃ b, d.pend[k].2 = b := ⟨_, rfl⟩
      have hsb := o2 d.pend[k] (List.getElem_mem hlt)
      rw [hs'] at q0 hsb
      rw [hb'] at hsb
      have hsg : s < gs.length := by omega
      obtain ⟨lg, rfl⟩ := Own.at0 hS.to1 (by omega)
      have q2 := (Own.cellAt hS.to1 (j := s) (by simpa using hsg)).trans (show (gs.map sl)[s]? = some (sl gs[s]) by simp [hsg])
      have d1 := hS.cell 1
      simp at d1
      obtain ⟨x, hx⟩ : ∃ x, gs[s] = x := ⟨_, rfl⟩
      obtain ⟨y, hy⟩ : ∃ y, hs[k] = y := ⟨_, rfl⟩
      rw [hx] at q2
      rw [hy] at q1
      obtain ⟨x1, x2⟩ := x
      obtain ⟨y1, y2⟩ := y
      dsimp only [sl] at q1 q2
      have la1 := hS.lt
      have la2 := Own.lt hS.to1
      have la3 := Own.lt hS.to2
      have hs64 : s < 64 := by omega
      have hsn : s < d.slots.length := by omega
      have hm := hp
      clear hpc hpl hp
      have HR := Lib.hid (show d.pend[k] = (s, b) from Prod.ext hs' hb')
      have HX := Lib.hid hx
      have HY := Lib.hid hy
      have HS : Hid (LastS E wr R a p d _ lcap _ pcap gs hs (d.lastK keep torn k)) := Lib.hid hS
      have HB := Lib.hid hsb
      have HG := Lib.hid hgl
      have HH := Lib.hid hhl
      clear hx hy hS hsb hs' hb' o1 o2 o3 hgl hhl
      rcases Int.lt_trichotomy (k : Int) keep with h1 | h1 | h1
      · go_wp2
        obtain ⟨W, hW⟩ : ∃ W, wr.alloc (.cells #[.int .i64 (s : Int), .slice (some ⟨y1, 0, none⟩) 96 y2] 154) = W := ⟨_, rfl⟩
        have hS1 : LastS E W R a p d _ lcap _ pcap gs hs (d.lastK _ torn k) := hW ▸ Sat.allocAny HS.out (.cells #[.int .i64 (s : Int), .slice (some ⟨y1, 0, none⟩) 96 y2] 154)
        have k0 : W.cell? ⟨wr.heap.size, 0, none⟩ = some (.int .i64 (s : Int)) := hW ▸ (cell_new1 wr [.int .i64 (s : Int), .slice (some ⟨y1, 0, none⟩) 96 y2] 154 0).1
        have k1 : W.cell? ⟨wr.heap.size, 1, none⟩ = some (.slice (some ⟨y1, 0, none⟩) 96 y2) := hW ▸ (cell_new1 wr [.int .i64 (s : Int), .slice (some ⟨y1, 0, none⟩) 96 y2] 154 1).1
        have k2 := (Own.cellAt (Sat.to1 hS1) (j := s) (by simpa using hsg)).trans (show (gs.map sl)[s]? = some (sl (x1, x2)) by rw [← HX.out]; simp [hsg])
        have k3 := Sat.cell hS1 1
        simp at k3
        dsimp only [sl] at k2
        rw [hW]
        have hrd := LastS.rd hS1 hkh hlt HY.out HR.out
        have hgt := LastS.get hS1 hsg (by rw [DiskM.lastK_length]; exact hsn) HX.out
        have HGT := Lib.hid hgt
        have HRD := Lib.hid hrd
        clear hS1 hrd hgt hW q0 q1 q2 d1 la1 la2 la3
        go_still_tail 10, (by kernel_rfl)
        refine wpList_copy_bytes HGT.out.drew (DiskM.lastK_get HOK.out.1 hsn) 96 y2 (l := b) (by rw [HB.out.2]; rfl) HRD.out rfl (.tmp 29) (.tmp 31) 37 37 rfl Try.underlying37 Try.sizeU8 rfl rfl ?_
        intro w' h'
        rw [List.drop_eq_nil_of_le (by rw [DiskM.lastK_get HOK.out.1 hsn, HB.out.2]; exact Nat.le_refl _), List.append_nil] at h'
        have hn := LastS.put hsg HX.out h'
        rw [← DiskM.lastK_lt hlt HR.out h1] at hn
        have HN := Lib.hid hn
        clear hn h' k0 k1 k2 k3
        go_wp2
        go_roundw
        case rel => exact ⟨k + 1, by omega, by go_num, HN.out⟩
        case measure => simp [intOf]; omega
      · subst h1
        go_wp2
        obtain ⟨W, hW⟩ : ∃ W, wr.alloc (.cells #[.int .i64 (s : Int), .slice (some ⟨y1, 0, none⟩) 96 y2] 154) = W := ⟨_, rfl⟩
        have hS1 : LastS E W R a p d _ lcap _ pcap gs hs (d.lastK _ torn k) := hW ▸ Sat.allocAny HS.out (.cells #[.int .i64 (s : Int), .slice (some ⟨y1, 0, none⟩) 96 y2] 154)
        have k0 : W.cell? ⟨wr.heap.size, 0, none⟩ = some (.int .i64 (s : Int)) := hW ▸ (cell_new1 wr [.int .i64 (s : Int), .slice (some ⟨y1, 0, none⟩) 96 y2] 154 0).1
        have k1 : W.cell? ⟨wr.heap.size, 1, none⟩ = some (.slice (some ⟨y1, 0, none⟩) 96 y2) := hW ▸ (cell_new1 wr [.int .i64 (s : Int), .slice (some ⟨y1, 0, none⟩) 96 y2] 154 1).1
        have k2 := (Own.cellAt (Sat.to1 hS1) (j := s) (by simpa using hsg)).trans (show (gs.map sl)[s]? = some (sl (x1, x2)) by rw [← HX.out]; simp [hsg])
        have k3 := Sat.cell hS1 1
        simp at k3
        dsimp only [sl] at k2
        rw [hW]
        have hrd := LastS.rd hS1 hkh hlt HY.out HR.out
        have hgt := LastS.get hS1 hsg (by rw [DiskM.lastK_length]; exact hsn) HX.out
        have HGT := Lib.hid hgt
        have HRD := Lib.hid hrd
        have hcap := LastS.cap hS1 hkh hlt HY.out
        have hcap2 : torn ≤ y2 := by omega
        clear hS1 hrd hgt hW q0 q1 q2 d1 la1 la2 la3
        go_still_tail 12, (by kernel_rfl)
        refine wpList_copy_bytes HGT.out.drew (DiskM.lastK_get HOK.out.1 hsn) torn y2 (l := b.take torn) (by rw [List.length_take, HB.out.2]) (HRD.out.take torn) rfl (.tmp 44) (.tmp 48) 37 37 rfl Try.underlying37 Try.sizeU8 rfl rfl ?_
        intro w' h'
        rw [show (b.take torn).length = torn from by rw [List.length_take, HB.out.2]; omega] at h'
        have hn := LastS.put hsg HX.out h'
        rw [← DiskM.lastK_eq hlt HR.out rfl] at hn
        have HN := Lib.hid hn
        clear hn h' k0 k1 k2 k3
        go_wp2
        go_roundw
        case rel => exact ⟨k + 1, by omega, by go_num, HN.out⟩
        case measure => simp [intOf]; omega
      · have hb2 : ((k : Int) == keep) = false := by simp; omega
        have hb3 : ¬ (k : Int) < keep := by omega
        have hn : LastS E (wr.alloc (.cells #[.int .i64 (s : Int), .slice (some ⟨y1, 0, none⟩) 96 y2] 154)) R a p d _ lcap _ pcap gs hs (d.lastK keep torn k) := Sat.allocAny HS.out _
        rw [← DiskM.lastK_gt hlt HR.out h1] at hn
        have HN := Lib.hid hn
        clear hn
        go_wp2
        go_roundw
        case rel => exact ⟨k + 1, by omega, by go_num, HN.out⟩
        case measure => simp [intOf]; omega
    · obtain rfl : k = d.pend.length := by omega
      have c2 := hS.cell 2
      have f2 := hS.free 2
      simp at c2
      have HS : Hid (LastS E wr R a p d la lcap pa pcap gs hs (d.lastK keep torn d.pend.length)) := Lib.hid hS
      clear hS
      go_wp2
      go_end0
      exact ⟨rfl, last_done HOK.out HS.out⟩

end Go.Proofs.Ytpfhfeccdhmgiaa
