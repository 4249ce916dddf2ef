/- What is proved here: lemmas and contracts on the way to this seat's laws, part 'Str'; no condition. -/
import Derived.Test.YtpfhfeccdhmgiaaCopy
import Derived.Test.YtpfhfeccdhmgiaaBits8
import Derived.Lib.ConvBytes
import Derived.Laws.BytesString
namespace Go.Proofs.Ytpfhfeccdhmgiaa
open Go.RowKit

variable {E : Env} {w : World} {R : List HP}

/-- A string of these bytes. -/
abbrev SV (l : List UInt8) : Value := .string ⟨l.toArray⟩

/-- Cells, perhaps with a mark behind them. -/
def PTm (b : Nat) (cs : List Value) (T : TypeId) : HP := fun h => ∃ f : Nat × Nat, (f = (0, 0) ∨ f = (cs.length, cs.length + 1)) ∧ h b = some (.cells cs.toArray T f)

theorem Sat.heapm {b : Nat} {cs : List Value} {T : TypeId} {l : List HP} (hS : Sat E w (PTm b cs T :: l)) : ∃ f : Nat × Nat, (f = (0, 0) ∨ f = (cs.length, cs.length + 1)) ∧ w.heap[b]? = some (.cells cs.toArray T f) := by
  obtain ⟨ps, h1, h2, h3⟩ := hS.all
  obtain ⟨f, hf, h⟩ := h1 0 _ rfl
  exact ⟨f, hf, h3 0 _ _ h⟩

theorem Sat.cellm {b : Nat} {cs : List Value} {T : TypeId} {l : List HP} (hS : Sat E w (PTm b cs T :: l)) (i : Nat) : w.cell? ⟨b, i, none⟩ = cs[i]? := by
  obtain ⟨f, _, h⟩ := hS.heapm
  simp [World.cell?, h]

theorem Sat.freem {b : Nat} {cs : List Value} {T : TypeId} {l : List HP} (hS : Sat E w (PTm b cs T :: l)) (i : Nat) (hi : i < cs.length) : w.frozen? ⟨b, i, none⟩ = false := by
  obtain ⟨f, hf, h⟩ := hS.heapm
  rcases hf with rfl | rfl
  · simp [World.frozen?, h]
  · simp [World.frozen?, h]; omega

theorem Sat.ltm {b : Nat} {cs : List Value} {T : TypeId} {l : List HP} (hS : Sat E w (PTm b cs T :: l)) : b < w.heap.size := by
  obtain ⟨f, _, h⟩ := hS.heapm
  exact (Array.getElem?_eq_some_iff.1 h).1

theorem Sat.storem {b : Nat} {cs : List Value} {T : TypeId} {l : List HP} (hS : Sat E w (PTm b cs T :: l)) (i : Nat) (v : Value) : Sat E (w.setCell ⟨b, i, none⟩ v) (PTm b (cs.set i v) T :: l) := by
  obtain ⟨f, hf, h⟩ := hS.heapm
  refine ⟨hS.os, hS.tape, hS.output, hS.all.upd (b := b) (o' := .cells (cs.set i v).toArray T f) ?_ ?_ ?_⟩
  · rintro k ⟨f', hf', hk⟩; exact ⟨⟨_, hk⟩, ⟨f, by simpa using hf, by simp⟩⟩
  · show (w.setCell ⟨b, i, none⟩ v).heap[b]? = _
    rw [heap_setCell h]; simp
  · intro j x hj hx
    exact (Below.heap_setCell w ⟨b, i, none⟩ v j hj).trans hx

/-- Bytes in a block of their own, which may bear a mark. -/
def BytesM (v : Value) (l : List UInt8) : HP := fun h => ∃ g cap junk, (v = .slice (some ⟨g, 0, none⟩) l.length cap ∧ l.length ≤ cap) ∧ PTm g (l.map BV ++ junk) 5 h

theorem BytesM.open {v : Value} {l : List UInt8} (hS : Sat E w (BytesM v l :: R)) : ∃ g cap junk, (v = .slice (some ⟨g, 0, none⟩) l.length cap ∧ l.length ≤ cap) ∧ Sat E w (PTm g (l.map BV ++ junk) 5 :: R) := by
  obtain ⟨g, h⟩ := hS.ex
  obtain ⟨cap, h⟩ := h.ex
  obtain ⟨junk, h⟩ := h.ex
  obtain ⟨h1, h⟩ := h.pure
  exact ⟨g, cap, junk, h1, h⟩

theorem BytesM.rd {g n c : Nat} {l : List UInt8} (hS : Sat E w (BytesM (.slice (some ⟨g, 0, none⟩) n c) l :: R)) : RB w (some ⟨g, 0, none⟩) l := by
  obtain ⟨g', cap, junk, ⟨h1, _⟩, h⟩ := BytesM.open hS
  cases h1
  refine ⟨fun e => (by cases e), fun ad e j u hu => ?_⟩
  cases e
  rw [addr0, h.cellm, List.getElem?_append_left (List.getElem?_eq_some_iff.1 hu).1]
  exact hu

theorem BytesM.at {g n c : Nat} {l : List UInt8} (i : Nat) (hi : i < l.length) (hS : Sat E w (BytesM (.slice (some ⟨g, 0, none⟩) n c) l :: R)) : w.cell? ⟨g, i, none⟩ = some (BV (l.getD i 0)) ∧ w.frozen? ⟨g, i, none⟩ = false := by
  obtain ⟨g', cap, junk, ⟨h1, _⟩, h⟩ := BytesM.open hS
  cases h1
  refine ⟨?_, h.freem i (by simp; omega)⟩
  rw [h.cellm, List.getElem?_append_left (by simpa using hi)]
  simp [List.getD, hi]

theorem BytesM.set {g n c : Nat} {l : List UInt8} (i : Nat) (hi : i < l.length) (u : UInt8) (hS : Sat E w (BytesM (.slice (some ⟨g, 0, none⟩) n c) l :: R)) : Sat E (w.setCell ⟨g, i, none⟩ (BV u)) (BytesM (.slice (some ⟨g, 0, none⟩) n c) (l.set i u) :: R) := by
  obtain ⟨g', cap, junk, ⟨h1, h2⟩, h⟩ := BytesM.open hS
  cases h1
  have h3 := h.storem i (BV u)
  rw [List.set_append_left i (BV u) (by simpa using hi), ← List.map_set] at h3
  exact h3.imp fun _ hk => ⟨g, c, junk, ⟨by simp, by simpa using h2⟩, hk⟩

theorem push_fold (ns : List Int) (s : ByteArray) : ns.foldl (fun r n => r.push (UInt8.ofNat n.toNat)) s = ⟨s.data ++ (ns.map fun n => UInt8.ofNat n.toNat).toArray⟩ := by
  induction ns generalizing s with
  | nil => simp
  | cons n ns ih => rw [List.foldl_cons, ih]; simp [ByteArray.push]

/-- 'string(b)'. -/
theorem run_string_of {P : Program} (src dst : TypeId) (hs : P.underlying src = some (.slice 5)) (he : P.underlying 5 = some (.int .u8)) (hd : P.underlying dst = some .string) (ao : Option Addr) (c : Nat) (l : List UInt8) (h : RB w ao l) :
    (convert src dst (.slice ao l.length c)).run P w = .ok (SV l) w := by
  rw [run_convert_bytes_string w src dst 5 ao l.length c hs he hd]
  cases ao with
  | none =>
    have := h.1 rfl
    subst this
    simp [Conv.bytesToString]
    rfl
  | some a =>
    have hl := run_loadCells_list (P := P) w a (l.map BV) (fun j v hv => h.2 a rfl j v hv)
    have e : l.map BV = (l.map fun c => (c.toNat : Int)).map (Value.int .u8) := by simp
    rw [e] at hl
    have h2 := run_bytesToString (P := P) w a l.length c (l.map fun c => (c.toNat : Int)) (by simpa using hl)
    rw [h2, push_fold]
    congr 2
    simp [ByteArray.empty, ByteArray.emptyWithCapacity]
    have e2 : ((fun n : Int => UInt8.ofNat n.toNat) ∘ fun c : UInt8 => (c.toNat : Int)) = id := by
      funext x; simp
    rw [e2]; simp
    rfl

/-- '[]byte(s)'. -/
theorem run_bytes_of {P : Program} {u : TypeDesc} (src dst : TypeId) (hs : P.underlying src = some u) (hd : P.underlying dst = some (.slice 5)) (he : P.underlying 5 = some (.int .u8)) (l : List UInt8) (hS : Sat E w R) :
    ∃ c w', (convert src dst (SV l)).run P w = .ok (.slice (some ⟨w.heap.size, 0, none⟩) l.length c) w' ∧ Sat E w' (BytesM (.slice (some ⟨w.heap.size, 0, none⟩) l.length c) l :: R) ∧ Below w.heap.size w w' := by
  have hr := Lib.run_convert_string_bytes (P := P) w src dst 5 ⟨l.toArray⟩ hs hd he
  have hsz : (ByteArray.mk l.toArray).size = l.length := by simp [ByteArray.size]
  rw [hsz] at hr
  have hb : Below w.heap.size w (Lib.bytesWorld w 5 ⟨l.toArray⟩) := ⟨rfl, rfl, rfl, by rw [Lib.bytesWorld_size]; omega, fun k hk => Lib.bytesWorld_at_old w _ _ k hk⟩
  refine ⟨_, _, hr, ?_, hb⟩
  have hn := Lib.bytesWorld_at_new w 5 ⟨l.toArray⟩
  have hge := grownCap_ge w l.length 0 5
  refine ⟨hb.os.trans hS.os, hb.tape.trans hS.tape, hb.output.trans hS.output, ?_⟩
  refine All.new (b := w.heap.size) hS.all (by simp [heapOf]) ?_ hn ?_
  · refine ⟨w.heap.size, _, List.replicate (grownCap w l.length 0 5 - l.length) (.int .u8 0), ⟨rfl, hge⟩, (_, _), .inr rfl, ?_⟩
    simp [Lib.bytesCells, ByteArray.size]
  · intro i hi
    by_cases hlt : i < w.heap.size
    · exact Lib.bytesWorld_at_old w _ _ i hlt
    · have e1 : heapOf w i = none := by simp [heapOf]; omega
      have e2 : (Lib.bytesWorld w 5 ⟨l.toArray⟩).heap[i]? = none := by
        rw [Array.getElem?_eq_none]; rw [Lib.bytesWorld_size]; omega
      rw [e1]; exact e2

end Go.Proofs.Ytpfhfeccdhmgiaa
