/- What is proved here: lemmas and contracts on the way to this seat's laws, part 'Rows1'; no condition. -/
import Derived.Test.YtpfhfeccdhmgiaaRows0
namespace Go.Proofs.Ytpfhfeccdhmgiaa
open Go.RowKit

variable {E : Env} {w : World} {R : List HP}

/-- One of a row is taken out. -/
theorem All.out {h : Piece} {l : List HP} {A : HP} (i : Nat) (hi : l[i]? = some A) (H : All l h) : All [A, All (l.set i emp)] h := by
  obtain ⟨ps, h1, h2, h3⟩ := H
  classical
  have key : ∀ (b : Nat) (p : Obj), (if (∃ j o, j ≠ i ∧ ps j b = some o) then h b else none) = some p → ∃ j, j ≠ i ∧ ps j b = some p := by
    intro b p c
    split at c
    · rename_i hb
      obtain ⟨j, o, hj, a⟩ := hb
      have := h3 _ _ _ a
      rw [this] at c
      cases c
      exact ⟨j, hj, a⟩
    · cases c
  refine ⟨fun j => if j = 0 then ps i else if j = 1 then (fun b => if (∃ j o, j ≠ i ∧ ps j b = some o) then h b else none) else fun _ => none, ?_, ?_, ?_⟩
  · intro j B hB
    match j with
    | 0 => simp at hB; subst hB; simpa using h1 i A hi
    | 1 =>
      simp at hB; subst hB
      simp only [Nat.succ_ne_self, if_false, if_true]
      refine ⟨fun j => if j = i then fun _ => none else ps j, ?_, ?_, ?_⟩
      · intro j C hC
        by_cases e : j = i
        · subst e
          rw [List.getElem?_set_self (List.getElem?_eq_some_iff.1 hi).1] at hC
          cases hC; trivial
        · rw [List.getElem?_set_ne (by omega)] at hC
          simp only [if_neg e]; exact h1 _ _ hC
      · intro j k hjk b o p
        dsimp only
        split <;> split <;> intro a c
        · cases a
        · cases a
        · cases c
        · exact h2 _ _ hjk b o p a c
      · intro j b o
        dsimp only
        split
        · intro a; cases a
        · rename_i hj; intro a; rw [if_pos ⟨j, o, hj, a⟩]; exact h3 _ _ _ a
    | j + 2 => simp at hB
  · intro j k hjk b o p
    match j, k with
    | 0, 0 => omega
    | 0, 1 => simp only [if_true, Nat.succ_ne_self, if_false]; intro a c; obtain ⟨m, hm, c⟩ := key _ _ c; exact h2 _ _ (by omega) _ _ _ a c
    | 1, 0 => simp only [if_true, Nat.succ_ne_self, if_false]; intro c a; obtain ⟨m, hm, c⟩ := key _ _ c; exact h2 _ _ (by omega) _ _ _ a c
    | 1, 1 => omega
    | j + 2, k => intro a; simp at a
    | j, k + 2 => intro _ a; simp at a
  · intro j b o
    match j with
    | 0 => simp only [if_true]; exact h3 _ _ _
    | 1 => simp only [Nat.succ_ne_self, if_false, if_true]; intro c; obtain ⟨m, hm, c⟩ := key _ _ c; exact h3 _ _ _ c
    | j + 2 => intro a; simp at a

/-- .. and put back. -/
theorem All.back {h : Piece} {l : List HP} {A : HP} (i : Nat) (H : All [A, All (l.set i emp)] h) : All (l.set i A) h := by
  obtain ⟨ps, h1, h2, h3⟩ := H
  obtain ⟨qs, k1, k2, k3⟩ := h1 1 _ rfl
  have h1' := h1 0 _ rfl
  refine ⟨fun j => if j = i then ps 0 else qs j, ?_, ?_, ?_⟩
  · intro j B hB
    by_cases e : j = i
    · subst e
      have hj : j < l.length := by have := (List.getElem?_eq_some_iff.1 hB).1; simpa using this
      rw [List.getElem?_set_self hj] at hB
      cases hB
      simpa using h1'
    · rw [List.getElem?_set_ne (by omega)] at hB
      simp only [if_neg e]
      exact k1 _ _ (by rw [List.getElem?_set_ne (by omega)]; exact hB)
  · intro j k hjk b o p
    by_cases hj : j = i <;> by_cases hk : k = i
    · omega
    · simp only [if_pos hj, if_neg hk]; intro a c; exact h2 0 1 (by omega) b o p a (k3 _ _ _ c)
    · simp only [if_neg hj, if_pos hk]; intro a c; exact h2 1 0 (by omega) b o p (k3 _ _ _ a) c
    · simp only [if_neg hj, if_neg hk]; exact k2 _ _ hjk b o p
  · intro j b o
    by_cases hj : j = i
    · simp only [if_pos hj]; exact h3 _ _ _
    · simp only [if_neg hj]; intro a; exact h3 1 _ _ (k3 _ _ _ a)

theorem Sat.out {l : List HP} {A : HP} (i : Nat) (hi : l[i]? = some A) (hS : Sat E w (All l :: R)) : Sat E w (A :: All (l.set i emp) :: R) := by
  have h := hS.imp (A' := All [A, All (l.set i emp)]) (fun _ h => h.out i hi)
  exact h.flat

theorem Sat.back {l : List HP} {A : HP} (i : Nat) (hS : Sat E w (A :: All (l.set i emp) :: R)) : Sat E w (All (l.set i A) :: R) :=
  (hS.fold 2).imp fun _ h => All.back i h

/-- One more behind a row. -/
theorem Sat.push {l : List HP} {A : HP} (hS : Sat E w (All l :: A :: R)) : Sat E w (All (l ++ [A]) :: R) := by
  have h := hS.flat
  rw [← List.singleton_append, ← List.append_assoc] at h
  exact ⟨h.os, h.tape, h.output, h.all.fold⟩

theorem Sat.nilRow (hS : Sat E w R) : Sat E w (All [] :: R) := ⟨hS.os, hS.tape, hS.output, (show All ([] ++ R) (heapOf w) from hS.all).fold⟩

theorem All.mono {h h' : Piece} {l : List HP} (H : All l h) (f : ∀ b o, h b = some o → h' b = some o) : All l h' := by
  obtain ⟨ps, h1, h2, h3⟩ := H
  exact ⟨ps, h1, h2, fun i b o a => f _ _ (h3 i b o a)⟩

/-- A byte as a value. -/
abbrev BV (c : UInt8) : Value := .int .u8 c.toNat

/-- Bytes of the program's own. -/
def BytesP (v : Value) (l : List UInt8) : HP := Own 5 1 v l.length (l.map BV)

theorem Try.infoU8 : (Try.prog.info? 5).map (fun i => (i.zero, i.size, i.bytes)) = some (some (.int .u8 0), 1, 1) := by kernel_rfl
theorem Try.infoBytes : (Try.prog.info? 37).map (fun i => (i.zero, i.size, i.bytes)) = some (some (.slice none 0 0), 1, 24) := by kernel_rfl
theorem Try.infoInt : (Try.prog.info? 3).map (fun i => (i.zero, i.size, i.bytes)) = some (some (.int .i64 0), 1, 8) := by kernel_rfl

theorem bv_one (l : List UInt8) : ∀ u ∈ l.map BV, u.oneCell' = true := by
  intro u hu
  obtain ⟨c, _, rfl⟩ := List.mem_map.1 hu
  rfl

theorem one_new {w : World} {b : Nat} (hb : w.heap.size = b) (v : Value) (T : TypeId) : ∀ j u, [v][j]? = some u → (w.alloc (.cells #[v] T)).cell? ((⟨b, 0, none⟩ : Addr).add j) = some u := by
  subst hb
  intro j u hj
  match j, hj with
  | 0, hj => simp at hj; subst hj; simp [Addr.add]

theorem two_new {w : World} {b : Nat} (hb : w.heap.size = b) (u v : Value) (T : TypeId) : ∀ j x, [u, v][j]? = some x → (w.alloc (.cells #[u, v] T)).cell? ((⟨b, 0, none⟩ : Addr).add j) = some x := by
  subst hb
  intro j x hj
  have h := cell_new1 w [u, v] T j
  have e : ((⟨w.heap.size, 0, none⟩ : Addr).add j) = ⟨w.heap.size, j, none⟩ := by
    unfold Addr.add
    split
    · subst_vars; rfl
    · simp
  rw [e]
  exact h.1.trans hj

theorem Own.pos {T size n : Nat} {v : Value} {xs : List Value} (hS : Sat E w (Own T size v n xs :: R)) (hn : 0 < n) : ∃ g cap, v = .slice (some ⟨g, 0, none⟩) n cap := by
  rcases (Own.cases hS).2 with ⟨_, h, _⟩ | ⟨g, cap, _, h, _⟩
  · omega
  · exact ⟨g, cap, h⟩

/-- A slice value, nil or not. -/
theorem Own.slice {T size n : Nat} {v : Value} {xs : List Value} (hS : Sat E w (Own T size v n xs :: R)) : ∃ a cap, v = .slice a n cap := by
  rcases (Own.cases hS).2 with ⟨h, h', _⟩ | ⟨g, cap, _, h, _⟩
  · subst h'; exact ⟨none, 0, h⟩
  · exact ⟨_, cap, h⟩

end Go.Proofs.Ytpfhfeccdhmgiaa
