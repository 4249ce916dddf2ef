/- What is proved here: lemmas and contracts on the way to this seat's laws, part 'Base'; no condition. -/
import Derived.Test.YtpfhfeccdhmgiaaRows
import Derived.WalkKit
import Derived.Lib.Hide
import Derived.Deep.Draws
namespace Go.Proofs.Ytpfhfeccdhmgiaa
open Go.RowKit

/-- A piece of a heap. -/
abbrev Piece := Nat → Option Obj
/-- What may be said of a piece. -/
abbrev HP := Piece → Prop

def emp : HP := fun _ => True

/-- All of a row, each of a piece of its own. -/
def All (l : List HP) : HP := fun h => ∃ hs : Nat → Piece, (∀ (i : Nat) (A : HP), l[i]? = some A → A (hs i)) ∧
  (∀ i j, i ≠ j → ∀ b o p, hs i b = some o → hs j b = some p → False) ∧ (∀ i b o, hs i b = some o → h b = some o)

structure Env where
  os : Os
  tape : Nat → Question → Nat
  output : Array (Nat × ByteArray)

def heapOf (w : World) : Piece := fun b => w.heap[b]?

structure Sat (E : Env) (w : World) (l : List HP) : Prop where
  os : w.os = E.os
  tape : w.tape = E.tape
  output : w.output = E.output
  all : All l (heapOf w)

variable {E : Env} {w : World} {l : List HP}

theorem nodup_inj {is : List Nat} (h : is.Nodup) {i j : Nat} (hi : i < is.length) (hj : j < is.length) (e : is[i] = is[j]) : i = j := by
  have h' := List.pairwise_iff_getElem.1 h
  rcases Nat.lt_trichotomy i j with x | x | x
  · exact (h' i j hi hj x e).elim
  · exact x
  · exact (h' j i hj hi x e.symm).elim

theorem All.pk {h : Piece} (n : Nat) (is : List Nat) (hs : is.Nodup ∧ ∀ i ∈ is, i < n) (H : All l h) :
    All (is.map (fun i => (l.take n).getD i emp) ++ l.drop n) h := by
  obtain ⟨ps, h1, h2, h3⟩ := H
  refine ⟨fun i => if hi : i < is.length then ps is[i] else ps (i - is.length + n), ?_, ?_, ?_⟩
  · intro i A hA
    by_cases hi : i < is.length
    · rw [List.getElem?_append_left (by simpa using hi)] at hA
      simp only [List.getElem?_map, List.getElem?_eq_getElem hi, Option.map_some, Option.some.injEq] at hA
      subst hA
      simp only [dif_pos hi]
      have hlt := hs.2 is[i] (List.getElem_mem hi)
      cases hq : l[is[i]]? with
      | none => simp [List.getD, List.getElem?_take, hlt, hq, emp]
      | some B => simp only [List.getD, List.getElem?_take, hlt, if_true, hq, Option.getD_some]; exact h1 _ _ hq
    · rw [List.getElem?_append_right (by simpa using hi)] at hA
      simp only [List.length_map, List.getElem?_drop] at hA
      simp only [dif_neg hi]
      rw [Nat.add_comm] at hA
      exact h1 _ _ hA
  · intro i j hij b o p
    by_cases hi : i < is.length <;> by_cases hj : j < is.length
    · simp only [dif_pos hi, dif_pos hj]
      exact h2 _ _ (fun e => hij (nodup_inj hs.1 hi hj e)) b o p
    · simp only [dif_pos hi, dif_neg hj]
      have hlt := hs.2 is[i] (List.getElem_mem hi)
      exact h2 _ _ (by omega) b o p
    · simp only [dif_neg hi, dif_pos hj]
      have hlt := hs.2 is[j] (List.getElem_mem hj)
      exact h2 _ _ (by omega) b o p
    · simp only [dif_neg hi, dif_neg hj]
      exact h2 _ _ (by omega) b o p
  · intro i b o
    dsimp only
    split
    · exact h3 _ b o
    · exact h3 _ b o

theorem Sat.pk (n : Nat) (is : List Nat) (hS : Sat E w l) (hs : is.Nodup ∧ ∀ i ∈ is, i < n := by decide) :
    Sat E w (is.map (fun i => (l.take n).getD i emp) ++ l.drop n) := ⟨hS.os, hS.tape, hS.output, hS.all.pk n is hs⟩


/-! ### The one at place k to the front; the first to place k -/
theorem Sat.to1 {A B : HP} (hS : Sat E w (A :: B :: l)) : Sat E w (B :: A :: l) := hS.pk 2 [1, 0]
theorem Sat.at1 {A B : HP} (hS : Sat E w (A :: B :: l)) : Sat E w (B :: A :: l) := hS.pk 2 [1, 0]
theorem Sat.to2 {A B C : HP} (hS : Sat E w (A :: B :: C :: l)) : Sat E w (C :: A :: B :: l) := hS.pk 3 [2, 0, 1]
theorem Sat.at2 {A B C : HP} (hS : Sat E w (A :: B :: C :: l)) : Sat E w (B :: C :: A :: l) := hS.pk 3 [1, 2, 0]
theorem Sat.to3 {A B C D : HP} (hS : Sat E w (A :: B :: C :: D :: l)) : Sat E w (D :: A :: B :: C :: l) := hS.pk 4 [3, 0, 1, 2]
theorem Sat.at3 {A B C D : HP} (hS : Sat E w (A :: B :: C :: D :: l)) : Sat E w (B :: C :: D :: A :: l) := hS.pk 4 [1, 2, 3, 0]
theorem Sat.to4 {A B C D F : HP} (hS : Sat E w (A :: B :: C :: D :: F :: l)) : Sat E w (F :: A :: B :: C :: D :: l) := hS.pk 5 [4, 0, 1, 2, 3]
theorem Sat.at4 {A B C D F : HP} (hS : Sat E w (A :: B :: C :: D :: F :: l)) : Sat E w (B :: C :: D :: F :: A :: l) := hS.pk 5 [1, 2, 3, 4, 0]
theorem Sat.to5 {A B C D F G : HP} (hS : Sat E w (A :: B :: C :: D :: F :: G :: l)) : Sat E w (G :: A :: B :: C :: D :: F :: l) := hS.pk 6 [5, 0, 1, 2, 3, 4]
theorem Sat.at5 {A B C D F G : HP} (hS : Sat E w (A :: B :: C :: D :: F :: G :: l)) : Sat E w (B :: C :: D :: F :: G :: A :: l) := hS.pk 6 [1, 2, 3, 4, 5, 0]
theorem Sat.to6 {A B C D F G H : HP} (hS : Sat E w (A :: B :: C :: D :: F :: G :: H :: l)) : Sat E w (H :: A :: B :: C :: D :: F :: G :: l) := hS.pk 7 [6, 0, 1, 2, 3, 4, 5]
theorem Sat.at6 {A B C D F G H : HP} (hS : Sat E w (A :: B :: C :: D :: F :: G :: H :: l)) : Sat E w (B :: C :: D :: F :: G :: H :: A :: l) := hS.pk 7 [1, 2, 3, 4, 5, 6, 0]
theorem Sat.to7 {A B C D F G H I : HP} (hS : Sat E w (A :: B :: C :: D :: F :: G :: H :: I :: l)) : Sat E w (I :: A :: B :: C :: D :: F :: G :: H :: l) := hS.pk 8 [7, 0, 1, 2, 3, 4, 5, 6]
theorem Sat.at7 {A B C D F G H I : HP} (hS : Sat E w (A :: B :: C :: D :: F :: G :: H :: I :: l)) : Sat E w (B :: C :: D :: F :: G :: H :: I :: A :: l) := hS.pk 8 [1, 2, 3, 4, 5, 6, 7, 0]
theorem Sat.to8 {A B C D F G H I J : HP} (hS : Sat E w (A :: B :: C :: D :: F :: G :: H :: I :: J :: l)) : Sat E w (J :: A :: B :: C :: D :: F :: G :: H :: I :: l) := hS.pk 9 [8, 0, 1, 2, 3, 4, 5, 6, 7]
theorem Sat.at8 {A B C D F G H I J : HP} (hS : Sat E w (A :: B :: C :: D :: F :: G :: H :: I :: J :: l)) : Sat E w (B :: C :: D :: F :: G :: H :: I :: J :: A :: l) := hS.pk 9 [1, 2, 3, 4, 5, 6, 7, 8, 0]
theorem Sat.to9 {A B C D F G H I J K : HP} (hS : Sat E w (A :: B :: C :: D :: F :: G :: H :: I :: J :: K :: l)) : Sat E w (K :: A :: B :: C :: D :: F :: G :: H :: I :: J :: l) := hS.pk 10 [9, 0, 1, 2, 3, 4, 5, 6, 7, 8]
theorem Sat.at9 {A B C D F G H I J K : HP} (hS : Sat E w (A :: B :: C :: D :: F :: G :: H :: I :: J :: K :: l)) : Sat E w (B :: C :: D :: F :: G :: H :: I :: J :: K :: A :: l) := hS.pk 10 [1, 2, 3, 4, 5, 6, 7, 8, 9, 0]
theorem Sat.to10 {A B C D F G H I J K L : HP} (hS : Sat E w (A :: B :: C :: D :: F :: G :: H :: I :: J :: K :: L :: l)) : Sat E w (L :: A :: B :: C :: D :: F :: G :: H :: I :: J :: K :: l) := hS.pk 11 [10, 0, 1, 2, 3, 4, 5, 6, 7, 8, 9]
theorem Sat.at10 {A B C D F G H I J K L : HP} (hS : Sat E w (A :: B :: C :: D :: F :: G :: H :: I :: J :: K :: L :: l)) : Sat E w (B :: C :: D :: F :: G :: H :: I :: J :: K :: L :: A :: l) := hS.pk 11 [1, 2, 3, 4, 5, 6, 7, 8, 9, 10, 0]

theorem All.imp {h : Piece} {A A' : HP} (H : All (A :: l) h) (f : ∀ k, A k → A' k) : All (A' :: l) h := by
  obtain ⟨ps, h1, h2, h3⟩ := H
  refine ⟨ps, ?_, h2, h3⟩
  intro i B hB
  cases i with
  | zero => simp at hB; subst hB; exact f _ (h1 0 A rfl)
  | succ i => exact h1 (i + 1) B (by simpa using hB)

theorem Sat.imp {A A' : HP} (hS : Sat E w (A :: l)) (f : ∀ k, A k → A' k) : Sat E w (A' :: l) := ⟨hS.os, hS.tape, hS.output, hS.all.imp f⟩

theorem Sat.ex {α : Type} {A : α → HP} (hS : Sat E w ((fun k => ∃ x, A x k) :: l)) : ∃ x, Sat E w (A x :: l) := by
  obtain ⟨ps, h1, h2, h3⟩ := hS.all
  obtain ⟨x, hx⟩ := h1 0 _ rfl
  refine ⟨x, hS.os, hS.tape, hS.output, ps, ?_, h2, h3⟩
  intro i B hB
  cases i with
  | zero => simp at hB; subst hB; exact hx
  | succ i => exact h1 (i + 1) B (by simpa using hB)

theorem Sat.mkEx {α : Type} {A : α → HP} (x : α) (hS : Sat E w (A x :: l)) : Sat E w ((fun k => ∃ x, A x k) :: l) := hS.imp fun _ h => ⟨x, h⟩

theorem Sat.pure {p : Prop} {A : HP} (hS : Sat E w ((fun k => p ∧ A k) :: l)) : p ∧ Sat E w (A :: l) := by
  obtain ⟨ps, h1, h2, h3⟩ := hS.all
  exact ⟨(h1 0 _ rfl).1, hS.imp fun _ h => h.2⟩

theorem Sat.mkPure {p : Prop} {A : HP} (hp : p) (hS : Sat E w (A :: l)) : Sat E w ((fun k => p ∧ A k) :: l) := hS.imp fun _ h => ⟨hp, h⟩

/-- A row within a row is laid open. -/
theorem All.flat {h : Piece} {m : List HP} (H : All (All m :: l) h) : All (m ++ l) h := by
  obtain ⟨ps, h1, h2, h3⟩ := H
  obtain ⟨qs, k1, k2, k3⟩ := h1 0 _ rfl
  refine ⟨fun i => if i < m.length then qs i else ps (i - m.length + 1), ?_, ?_, ?_⟩
  · intro i A hA
    by_cases hi : i < m.length
    · rw [List.getElem?_append_left hi] at hA
      simp only [if_pos hi]; exact k1 _ _ hA
    · rw [List.getElem?_append_right (by omega)] at hA
      simp only [if_neg hi]; exact h1 _ _ (by simpa using hA)
  · intro i j hij b o p
    by_cases hi : i < m.length <;> by_cases hj : j < m.length
    · simp only [if_pos hi, if_pos hj]; exact k2 _ _ hij b o p
    · simp only [if_pos hi, if_neg hj]; intro a c; exact h2 0 _ (by omega) b o p (k3 _ _ _ a) c
    · simp only [if_neg hi, if_pos hj]; intro a c; exact h2 _ 0 (by omega) b o p a (k3 _ _ _ c)
    · simp only [if_neg hi, if_neg hj]; exact h2 _ _ (by omega) b o p
  · intro i b o
    dsimp only
    split
    · intro a; exact h3 0 _ _ (k3 _ _ _ a)
    · exact h3 _ b o

theorem Sat.flat {m : List HP} (hS : Sat E w (All m :: l)) : Sat E w (m ++ l) := ⟨hS.os, hS.tape, hS.output, hS.all.flat⟩

/-- The first ones of a row as one. -/
theorem All.fold {h : Piece} {m : List HP} (H : All (m ++ l) h) : All (All m :: l) h := by
  obtain ⟨ps, h1, h2, h3⟩ := H
  classical
  have key : ∀ (b : Nat) (p : Obj), (if (∃ j o, j < m.length ∧ ps j b = some o) then h b else none) = some p → ∃ j, j < m.length ∧ ps j b = some p := by
    intro b p c
    split at c
    · rename_i hb
      obtain ⟨j, o, hj, a⟩ := hb
      have := h3 _ _ _ a
      rw [this] at c
      cases c
      exact ⟨j, hj, a⟩
    · cases c
  refine ⟨fun i => if i = 0 then (fun b => if (∃ j o, j < m.length ∧ ps j b = some o) then h b else none) else ps (i - 1 + m.length), ?_, ?_, ?_⟩
  · intro i A hA
    cases i with
    | zero =>
      simp at hA; subst hA
      simp only [if_true]
      refine ⟨fun j => if j < m.length then ps j else fun _ => none, ?_, ?_, ?_⟩
      · intro j B hB
        have hj : j < m.length := (List.getElem?_eq_some_iff.1 hB).1
        simp only [if_pos hj]
        exact h1 _ _ (by rw [List.getElem?_append_left hj]; exact hB)
      · intro i j hij b o p
        dsimp only
        split <;> split <;> intro a c
        · exact h2 _ _ hij b o p a c
        · cases c
        · cases a
        · cases a
      · intro j b o
        dsimp only
        split
        · rename_i hj
          intro a
          rw [if_pos ⟨j, o, hj, a⟩]
          exact h3 _ _ _ a
        · intro a; cases a
    | succ i =>
      simp only [Nat.succ_ne_zero, if_false, Nat.add_sub_cancel]
      refine h1 _ _ ?_
      rw [List.getElem?_append_right (by omega)]
      simpa using hA
  · intro i j hij b o p
    by_cases hi : i = 0 <;> by_cases hj : j = 0
    · omega
    · simp only [if_pos hi, if_neg hj]; intro a c
      obtain ⟨k, hk, a⟩ := key b o a
      exact h2 _ _ (by omega) b _ _ a c
    · simp only [if_neg hi, if_pos hj]; intro a c
      obtain ⟨k, hk, c⟩ := key b p c
      exact h2 _ _ (by omega) b _ _ a c
    · simp only [if_neg hi, if_neg hj]; exact h2 _ _ (by omega) b o p
  · intro i b o
    dsimp only
    split
    · intro c
      obtain ⟨k, hk, c⟩ := key b o c
      exact h3 _ _ _ c
    · exact h3 _ b o

theorem Sat.fold (n : Nat) (hS : Sat E w l) : Sat E w (All (l.take n) :: l.drop n) :=
  ⟨hS.os, hS.tape, hS.output, by have h := hS.all; rw [← List.take_append_drop n l] at h; exact h.fold⟩

/-- A block's cells. -/
def PT (b : Nat) (cs : List Value) (T : TypeId) : HP := fun h => h b = some (.cells cs.toArray T (0, 0))

theorem Sat.heap {b : Nat} {cs : List Value} {T : TypeId} (hS : Sat E w (PT b cs T :: l)) : w.heap[b]? = some (.cells cs.toArray T (0, 0)) := by
  obtain ⟨ps, h1, h2, h3⟩ := hS.all
  exact h3 0 _ _ (h1 0 _ rfl)

theorem Sat.lt {b : Nat} {cs : List Value} {T : TypeId} (hS : Sat E w (PT b cs T :: l)) : b < w.heap.size := by
  have := hS.heap
  exact (Array.getElem?_eq_some_iff.1 this).1

theorem Sat.cell {b : Nat} {cs : List Value} {T : TypeId} (hS : Sat E w (PT b cs T :: l)) (i : Nat) : w.cell? ⟨b, i, none⟩ = cs[i]? := by
  simp [World.cell?, hS.heap]

theorem Sat.free {b : Nat} {cs : List Value} {T : TypeId} (hS : Sat E w (PT b cs T :: l)) (i : Nat) : w.frozen? ⟨b, i, none⟩ = false := by
  simp [World.frozen?, hS.heap]

/-- Whatever is done to one block alone. -/
theorem All.upd {h h' : Piece} {A A' : HP} {b : Nat} {o' : Obj} (H : All (A :: l) h) (hA : ∀ k : Piece, A k → (∃ o, k b = some o) ∧ A' (fun i => if i = b then some o' else k i))
    (hb : h' b = some o') (hh : ∀ i x, i ≠ b → h i = some x → h' i = some x) : All (A' :: l) h' := by
  obtain ⟨ps, h1, h2, h3⟩ := H
  obtain ⟨⟨o, ho⟩, hA'⟩ := hA _ (h1 0 _ rfl)
  refine ⟨fun i => if i = 0 then (fun j => if j = b then some o' else ps 0 j) else ps i, ?_, ?_, ?_⟩
  · intro i B hB
    cases i with
    | zero => simp at hB; subst hB; simpa using hA'
    | succ i => exact h1 (i + 1) B (by simpa using hB)
  · intro i j hij c x y
    by_cases hi : i = 0 <;> by_cases hj : j = 0
    · omega
    · subst hi
      simp only [if_true, if_neg hj]
      intro p q
      split at p
      · rename_i e; subst e; exact h2 0 j (by omega) _ _ _ ho q
      · exact h2 0 j (by omega) _ _ _ p q
    · subst hj
      simp only [if_true, if_neg hi]
      intro p q
      split at q
      · rename_i e; subst e; exact h2 0 i (by omega) _ _ _ ho p
      · exact h2 0 i (by omega) _ _ _ q p
    · simp only [if_neg hi, if_neg hj]; exact h2 _ _ hij c x y
  · intro i c x
    by_cases hi : i = 0
    · subst hi
      simp only [if_true]
      intro p
      split at p
      · rename_i e; subst e; rw [← p]; exact hb
      · rename_i e; exact hh _ _ e (h3 0 _ _ p)
    · simp only [if_neg hi]
      intro p
      by_cases e : c = b
      · subst e; exact (h2 i 0 hi _ _ _ p ho).elim
      · exact hh _ _ e (h3 _ _ _ p)

theorem heap_setCell {b i : Nat} {cs : Array Value} {T : TypeId} {f : Nat × Nat} {v : Value} (h : w.heap[b]? = some (.cells cs T f)) :
    (w.setCell ⟨b, i, none⟩ v).heap[b]? = some (.cells (cs.setIfInBounds i v) T f) := by
  simp [World.setCell, Array.getElem?_modify, h]

theorem Sat.store {b : Nat} {cs : List Value} {T : TypeId} (hS : Sat E w (PT b cs T :: l)) (i : Nat) (v : Value) :
    Sat E (w.setCell ⟨b, i, none⟩ v) (PT b (cs.set i v) T :: l) := by
  refine ⟨hS.os, hS.tape, hS.output, hS.all.upd (b := b) (o' := .cells (cs.set i v).toArray T (0, 0)) ?_ ?_ ?_⟩
  · intro k hk; exact ⟨⟨_, hk⟩, by simp [PT]⟩
  · show (w.setCell ⟨b, i, none⟩ v).heap[b]? = _
    rw [heap_setCell hS.heap]; simp
  · intro j x hj hx
    exact (Below.heap_setCell w ⟨b, i, none⟩ v j hj).trans hx

theorem All.new {h h' : Piece} {A : HP} {b : Nat} {o : Obj} (H : All l h) (hb : h b = none) (hA : A (fun i => if i = b then some o else none)) (hb' : h' b = some o) (hh : ∀ i, i ≠ b → h' i = h i) :
    All (A :: l) h' := by
  obtain ⟨ps, h1, h2, h3⟩ := H
  refine ⟨fun i => if i = 0 then (fun j => if j = b then some o else none) else ps (i - 1), ?_, ?_, ?_⟩
  · intro i B hB
    cases i with
    | zero => simp at hB; subst hB; simpa using hA
    | succ i => simpa using h1 i B (by simpa using hB)
  · intro i j hij c x y
    by_cases hi : i = 0 <;> by_cases hj : j = 0
    · omega
    · subst hi
      simp only [if_true, if_neg hj]
      intro p q
      split at p
      · rename_i e; subst e; have := h3 _ _ _ q; rw [hb] at this; cases this
      · cases p
    · subst hj
      simp only [if_true, if_neg hi]
      intro p q
      split at q
      · rename_i e; subst e; have := h3 _ _ _ p; rw [hb] at this; cases this
      · cases q
    · simp only [if_neg hi, if_neg hj]; exact h2 _ _ (by omega) c x y
  · intro i c x
    by_cases hi : i = 0
    · subst hi
      simp only [if_true]
      intro p
      split at p
      · rename_i e; subst e; rw [← p]; exact hb'
      · cases p
    · simp only [if_neg hi]
      intro p
      by_cases e : c = b
      · subst e; have := h3 _ _ _ p; rw [hb] at this; cases this
      · rw [hh c e]; exact h3 _ _ _ p

theorem heapOf_alloc_new (w : World) (o : Obj) : heapOf (w.alloc o) w.heap.size = some o := by
  show (w.heap.push o)[w.heap.size]? = _
  simp
theorem heapOf_alloc_ne (w : World) (o : Obj) (i : Nat) (h : i ≠ w.heap.size) : heapOf (w.alloc o) i = heapOf w i := by
  show (w.heap.push o)[i]? = w.heap[i]?
  rw [Array.getElem?_push, if_neg h]

theorem Sat.alloc (hS : Sat E w l) (cs : List Value) (T : TypeId) : Sat E (w.alloc (.cells cs.toArray T)) (PT w.heap.size cs T :: l) :=
  ⟨hS.os, hS.tape, hS.output, hS.all.new (b := w.heap.size) (o := .cells cs.toArray T) (by simp [heapOf]) (by simp [PT]) (heapOf_alloc_new _ _) (heapOf_alloc_ne _ _)⟩

theorem Sat.weak {A : HP} (hS : Sat E w (A :: l)) : Sat E w l := by
  have h := hS.pk 1 [] (by decide)
  simpa using h

/-- A new block of whatever kind, of which nothing is said. -/
theorem Sat.allocAny (hS : Sat E w l) (o : Obj) : Sat E (w.alloc o) l :=
  Sat.weak (A := emp) ⟨hS.os, hS.tape, hS.output, hS.all.new (b := w.heap.size) (o := o) (by simp [heapOf]) trivial (heapOf_alloc_new _ _) (heapOf_alloc_ne _ _)⟩

theorem Sat.drew (hS : Sat E w l) : Sat E w.drew l := ⟨hS.os, hS.tape, hS.output, hS.all⟩
theorem Sat.drewN (hS : Sat E w l) (n : Nat) : Sat E (w.drewN n) l := ⟨hS.os, hS.tape, hS.output, hS.all⟩

/-- The blocks below N as they were. -/
def OldP (w0 : World) (N : Nat) : HP := fun h => N ≤ w0.heap.size ∧ ∀ b, b < N → h b = w0.heap[b]?

theorem Sat.below {w0 : World} {N : Nat} (hS : Sat E w (OldP w0 N :: l)) (b : Nat) (hb : b < N) : w.heap[b]? = w0.heap[b]? := by
  obtain ⟨ps, h1, h2, h3⟩ := hS.all
  obtain ⟨k1, k2⟩ := h1 0 _ rfl
  have hs : b < w0.heap.size := by omega
  rw [Array.getElem?_eq_getElem hs]
  exact h3 0 _ _ (by rw [k2 b hb, Array.getElem?_eq_getElem hs])

theorem Sat.oldCell {w0 : World} {N : Nat} (hS : Sat E w (OldP w0 N :: l)) (a : Addr) (hb : a.block < N) : w.cell? a = w0.cell? a := World.cell?_of_block (hS.below _ hb)

theorem Sat.oldLt {w0 : World} {N : Nat} (hS : Sat E w (OldP w0 N :: l)) : N ≤ w.heap.size := by
  obtain ⟨ps, h1, h2, h3⟩ := hS.all
  obtain ⟨k1, k2⟩ := h1 0 _ rfl
  by_cases h : N ≤ w.heap.size
  · exact h
  · exfalso
    have := hS.below w.heap.size (by omega)
    have hs : w.heap.size < w0.heap.size := by omega
    rw [Array.getElem?_eq_getElem hs] at this
    simp at this

theorem Sat.start (w : World) : Sat ⟨w.os, w.tape, w.output⟩ w [OldP w w.heap.size] := by
  refine ⟨rfl, rfl, rfl, fun i => if i = 0 then heapOf w else fun _ => none, ?_, ?_, ?_⟩
  · intro i A hA
    cases i with
    | zero => simp at hA; subst hA; exact ⟨Nat.le_refl _, fun b _ => by simp [heapOf]⟩
    | succ i => simp at hA
  · intro i j hij b o p
    dsimp only
    split <;> split <;> intro x y <;> first | omega | cases x | cases y
  · intro i b o
    dsimp only
    split <;> intro x <;> first | exact x | cases x

/-! ### Cells by growth -/
theorem cell_new1 (W : World) (cs : List Value) (T : TypeId) (i : Nat) : (W.alloc (.cells cs.toArray T)).cell? ⟨W.heap.size, i, none⟩ = cs[i]? ∧ (W.alloc (.cells cs.toArray T)).frozen? ⟨W.heap.size, i, none⟩ = false := by
  have h : (W.alloc (.cells cs.toArray T)).heap[W.heap.size]? = some (.cells cs.toArray T) := heapOf_alloc_new _ _
  constructor
  · unfold World.cell?; dsimp only; rw [h]; simp
  · unfold World.frozen?; dsimp only; rw [h]; simp
theorem cell_alloc1 {W : World} {a : Addr} {v : Value} (o : Obj) (h : W.cell? a = some v) : (W.alloc o).cell? a = some v := (World.grownBy_alloc W o none).cell h (by simp)
theorem frozen_alloc1 {W : World} {a : Addr} {v : Value} (o : Obj) (h : W.cell? a = some v) (hf : W.frozen? a = false) : (W.alloc o).frozen? a = false :=
  (World.frozen?_of_block ((World.grownBy_alloc W o none).block _ (World.block_lt_of_cell? W a h) (by simp))).trans hf

/-- What lay below is as it was: so all that was said holds on. -/
theorem Sat.ofBelow {w' : World} (hS : Sat E w l) (hb : Below w.heap.size w w') : Sat E w' l := by
  refine ⟨hb.os.trans hS.os, hb.tape.trans hS.tape, hb.output.trans hS.output, ?_⟩
  obtain ⟨ps, h1, h2, h3⟩ := hS.all
  refine ⟨ps, h1, h2, fun i b o a => ?_⟩
  have := h3 i b o a
  have hb' : b < w.heap.size := (Array.getElem?_eq_some_iff.1 this).1
  exact (hb.block b hb').trans this

end Go.Proofs.Ytpfhfeccdhmgiaa
