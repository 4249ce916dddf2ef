/- What is proved here: lemmas and contracts on the way to this seat's laws, part 'DLaw0'; no condition. -/
import Derived.Test.YtpfhfeccdhmgiaaDRel
import Derived.Deep.RegionHeld3
import Derived.Deep.DeepCutAuto
import Derived.Deep.CutBlock
/- The law of disks: what its walk speaks of. -/
namespace Go.Proofs.Ytpfhfeccdhmgiaa
open Go.RowKit

/-- A call of the script. -/
structure OpM where
  kind : Int
  slot : Int
  at_ : Int
  n : Int
  fill : UInt8
  b : List UInt8

def OpsAt (w : World) (ao : Option Addr) (l : List OpM) : Prop := l ≠ [] → ∃ blk off, ao = some ⟨blk, off, none⟩ ∧ ∀ i (h : i < l.length), ∃ bo bc,
  w.cell? ⟨blk, off + i * 6, none⟩ = some (.int .i64 l[i].kind) ∧ w.cell? ⟨blk, off + i * 6 + 1, none⟩ = some (.int .i64 l[i].slot) ∧ w.cell? ⟨blk, off + i * 6 + 2, none⟩ = some (.int .i64 l[i].at_) ∧
  w.cell? ⟨blk, off + i * 6 + 3, none⟩ = some (.int .i64 l[i].n) ∧ w.cell? ⟨blk, off + i * 6 + 4, none⟩ = some (.int .u8 l[i].fill.toNat) ∧ w.cell? ⟨blk, off + i * 6 + 5, none⟩ = some (.slice bo l[i].b.length bc) ∧ RB w bo l[i].b

variable {E : Env} {w : World} {R : List HP}

def Row (w0 : World) (b1 b2 a1 a2 : Nat) (D : DiskM) (F : FuseM) : List HP :=
  [FuseP (some ⟨b1, 0, none⟩) F, DiskP a1 (some ⟨b1, 0, none⟩) D, RFuseP (some ⟨b2, 0, none⟩) F, RDiskP a2 (some ⟨b2, 0, none⟩) D.ref, OldP w0 w0.heap.size]

theorem Row.open {w0 : World} {b1 b2 a1 a2 : Nat} {D : DiskM} {F : FuseM} (hS : Sat E w (Row w0 b1 b2 a1 a2 D F)) : ∃ la lcap pa pcap RR, Sat E w RR ∧ ∀ w', Sat E w' RR →
    Sat E w' (Row w0 b1 b2 a1 a2 D F) ∧ w'.cell? ⟨a2, 0, none⟩ = some (.slice la D.slots.length lcap) ∧ w'.cell? ⟨a2, 1, none⟩ = some (.bool (!D.gone)) ∧ w'.cell? ⟨a2, 2, none⟩ = some (.slice pa D.pend.length pcap) ∧
    w'.frozen? ⟨a2, 1, none⟩ = false ∧ a2 < w'.heap.size ∧
    ∀ s, s < D.slots.length → ∃ lg, la = some ⟨lg, 0, none⟩ ∧ lg < w'.heap.size ∧ w'.cell? ⟨lg, s, none⟩ = some (SV (D.now s)) := by
  have h := Sat.to3 hS
  obtain ⟨la, lcap, pa, pcap, hok, h⟩ := RDiskP.open h
  refine ⟨la, lcap, pa, pcap, _, h, fun w' h' => ?_⟩
  have c0 := h'.cell 0
  have c1 := h'.cell 1
  have c2 := h'.cell 2
  have f1 := h'.free 1
  simp only [List.getElem?_cons_zero, List.getElem?_cons_succ] at c0 c1 c2
  rw [D.ref_len] at c0
  rw [D.ref_wait] at c2
  refine ⟨(RDiskP.close hok h').at3, c0, c1, c2, f1, h'.lt, fun s hs => ?_⟩
  have hs' : s < D.ref.slots.length := by rw [D.ref_len]; exact hs
  obtain ⟨lg, rfl⟩ := Own.at0 h'.to1 (by omega)
  refine ⟨lg, rfl, Own.lt h'.to1, (Own.cellAt h'.to1 (j := s) (by simpa using hs')).trans ?_⟩
  rw [← ref_now D s hs]
  simp [List.getD, hs']

theorem Row.start {w0 : World} {b1 b2 a1 a2 : Nat} {n : Nat} {F : FuseM} (hS : Sat E w [RDiskP a2 (some ⟨b2, 0, none⟩) (.new n), DiskP a1 (some ⟨b1, 0, none⟩) (.new n), RFuseP (some ⟨b2, 0, none⟩) F, FuseP (some ⟨b1, 0, none⟩) F, OldP w0 w0.heap.size]) :
    Sat E w (Row w0 b1 b2 a1 a2 (.new n) F) := hS.pk 5 [3, 1, 2, 0, 4]

theorem below_of {w' : World} {l : List HP} (hE : (⟨w.os, w.tape, w.output⟩ : Env) = E) (hS : Sat E w' (OldP w w.heap.size :: l)) : Below w.heap.size w w' := by
  subst hE
  exact ⟨hS.os, hS.tape, hS.output, Sat.oldLt hS, fun b hb => Sat.below hS b hb⟩

theorem write_pend (D : DiskM) (F : FuseM) (s : Int) (b : List UInt8) : (D.write F s b).2.1.pend.length ≤ D.pend.length + 1 := by
  unfold DiskM.write
  split
  · simp
  · split
    · simp
    · split <;> simp

theorem sync_pend (D : DiskM) (F : FuseM) : (D.sync F).2.pend.length ≤ D.pend.length := by
  unfold DiskM.sync
  split
  · simp
  · split <;> simp [DiskM.last]

theorem turnLast_len {s : Nat} {f : List UInt8 → List UInt8} : ∀ {l l' : List (Nat × List UInt8)}, turnLast s f l = some l' → l'.length = l.length
  | [], l', h => by simp [turnLast] at h
  | q :: l, l', h => by
    rw [turnLast] at h
    cases ht : turnLast s f l with
    | some l2 => rw [ht] at h; simp at h; subst h; simp [turnLast_len ht]
    | none =>
      rw [ht] at h
      by_cases e : q.1 = s
      · simp [e] at h; subst h; simp
      · simp [e] at h

theorem rot_pend (D : DiskM) (s at_ : Nat) (by_ : UInt8) : (D.rot s at_ by_).pend.length = D.pend.length := by
  unfold DiskM.rot
  cases ht : turnLast s (turn at_ by_) D.pend with
  | some l => exact turnLast_len ht
  | none => rfl

theorem now_len {d : DiskM} (hok : d.ok) {s : Nat} (hs : s < d.slots.length) : (d.now s).length = 96 := by
  unfold DiskM.now
  cases hf : d.pend.reverse.find? (fun q => q.1 == s) with
  | some q => exact (hok.2.1 q (List.mem_reverse.1 (List.mem_of_find?_eq_some hf))).2
  | none =>
    dsimp only
    rw [show d.slots.getD s [] = d.slots[s] from by simp [List.getD, hs]]
    exact hok.1 _ (List.getElem_mem hs)

theorem DiskP.okOf {a : Nat} {p : Option Addr} {d : DiskM} (hS : Sat E w (DiskP a p d :: R)) : d.ok := by
  obtain ⟨_, _, _, _, _, _, h, _⟩ := DiskP.open hS
  exact h.1

theorem Row.fail {w0 : World} {b1 b2 a1 a2 : Nat} {D : DiskM} {F : FuseM} {X : HP} (hS : Sat E w (DiskP a1 (some ⟨b1, 0, none⟩) { D with gone := true } :: X :: FuseP (some ⟨b1, 0, none⟩) F :: RFuseP (some ⟨b2, 0, none⟩) F :: RDiskP a2 (some ⟨b2, 0, none⟩) D.ref :: [OldP w0 w0.heap.size])) :
    w.cell? ⟨a2, 1, none⟩ = some (.bool (!D.gone)) ∧ w.frozen? ⟨a2, 1, none⟩ = false ∧ a2 < w.heap.size ∧ Sat E (w.setCell ⟨a2, 1, none⟩ (.bool false)) (Row w0 b1 b2 a1 a2 { D with gone := true } F) := by
  obtain ⟨la, lcap, pa, pcap, hok, h⟩ := RDiskP.open hS.to4
  refine ⟨h.cell 1, h.free 1, h.lt, ?_⟩
  have h2 := h.store 1 (.bool false)
  have h3 : Sat E (w.setCell ⟨a2, 1, none⟩ (.bool false)) (RDiskP a2 (some ⟨b2, 0, none⟩) { D.ref with live := false } :: _) := RDiskP.close (d := { D.ref with live := false }) hok h2
  exact h3.pk 6 [3, 1, 4, 0, 5]

theorem Row.set {w0 : World} {b1 b2 a1 a2 c : Nat} {D : DiskM} {F G : FuseM} {X : HP} (hS : Sat E w (RFuseP (some ⟨c, 0, none⟩) G :: FuseP (some ⟨b1, 0, none⟩) G :: X :: DiskP a1 (some ⟨b1, 0, none⟩) D :: RFuseP (some ⟨b2, 0, none⟩) F :: RDiskP a2 (some ⟨b2, 0, none⟩) D.ref :: [OldP w0 w0.heap.size])) :
    w.cell? ⟨c, 0, none⟩ = some (.bool (!G.bound)) ∧ w.cell? ⟨c, 1, none⟩ = some (.int .i64 G.left) ∧ w.cell? ⟨b2, 0, none⟩ = some (.bool (!F.bound)) ∧ w.cell? ⟨b2, 1, none⟩ = some (.int .i64 F.left) ∧
    w.frozen? ⟨b2, 0, none⟩ = false ∧ w.frozen? ⟨b2, 1, none⟩ = false ∧ b2 < w.heap.size ∧ Sat E ((w.setCell ⟨b2, 0, none⟩ (.bool (!G.bound))).setCell ⟨b2, 1, none⟩ (.int .i64 G.left)) (Row w0 b1 b2 a1 a2 D G) := by
  obtain ⟨g0, g1, h⟩ := RFuseP.get hS
  obtain ⟨_, _, k⟩ := RFuseP.get (Sat.to4 h)
  refine ⟨h.cell 0, h.cell 1, k.cell 0, k.cell 1, k.free 0, k.free 1, k.lt, ?_⟩
  have h2 := (k.store 0 (.bool (!G.bound))).store 1 (.int .i64 G.left)
  have h3 := RFuseP.mk (bd := G.bound) g0 g1 h2
  exact h3.pk 7 [2, 4, 0, 5, 6]

theorem Rd.old {w0 : World} {bo : Option Addr} {l : List UInt8} {k : Nat} (hk : R[k]? = some (OldP w0 w0.heap.size)) (h : RB w0 bo l) : Rd E R bo l := by
  intro w' hS
  refine ⟨h.1, fun ad e j u hu => ?_⟩
  have hc := h.2 ad e j u hu
  have hlt : (ad.add j).block < w0.heap.size := by
    rcases Nat.lt_or_ge (ad.add j).block w0.heap.size with h | h
    · exact h
    · simp [World.cell?, Array.getElem?_eq_none h] at hc
  obtain ⟨ps, h1, h2, h3⟩ := hS.all
  obtain ⟨q1, q2⟩ := h1 k _ hk
  have hb : w'.heap[(ad.add j).block]? = w0.heap[(ad.add j).block]? := by
    have e2 := q2 _ hlt
    have hsome : ∃ o, w0.heap[(ad.add j).block]? = some o := ⟨w0.heap[(ad.add j).block], by simp [hlt]⟩
    obtain ⟨ob, ho⟩ := hsome
    rw [ho] at e2 ⊢
    exact h3 k _ _ e2
  rw [World.cell?_of_block hb]
  exact hc

end Go.Proofs.Ytpfhfeccdhmgiaa
