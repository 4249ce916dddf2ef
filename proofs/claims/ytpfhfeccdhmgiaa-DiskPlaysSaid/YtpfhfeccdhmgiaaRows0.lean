/- What is proved here: lemmas and contracts on the way to this seat's laws, part 'Rows0'; no condition. -/
import Derived.Test.YtpfhfeccdhmgiaaBase
import Derived.ArgAppend
import Derived.Laws.CopyOwn
namespace Go.Proofs.Ytpfhfeccdhmgiaa
open Go.RowKit

/-- A slice of the program's own: nil, or at the head of a block. -/
def Own (T size : Nat) (v : Value) (n : Nat) (xs : List Value) : HP := fun h =>
  xs.length = n * size ∧ ((v = .slice none 0 0 ∧ n = 0) ∨ ∃ g cap junk, v = .slice (some ⟨g, 0, none⟩) n cap ∧ n ≤ cap ∧ cap ≤ maxLen ∧ (xs ++ junk).length = cap * size ∧ PT g (xs ++ junk) T h)

variable {E : Env} {w : World} {R : List HP}

theorem All.head {h : Piece} {A : HP} {l : List HP} (H : All (A :: l) h) : ∃ k, A k := by
  obtain ⟨ps, h1, _⟩ := H; exact ⟨_, h1 0 _ rfl⟩

theorem Own.nil (T size : Nat) (hS : Sat E w R) : Sat E w (Own T size (.slice none 0 0) 0 [] :: R) := by
  refine ⟨hS.os, hS.tape, hS.output, ?_⟩
  obtain ⟨ps, h1, h2, h3⟩ := hS.all
  refine ⟨fun i => if i = 0 then fun _ => none else ps (i - 1), ?_, ?_, ?_⟩
  · intro i B hB
    cases i with
    | zero => simp at hB; subst hB; exact ⟨by simp, .inl ⟨rfl, rfl⟩⟩
    | succ i => simpa using h1 i B (by simpa using hB)
  · intro i j hij c x y
    by_cases hi : i = 0 <;> by_cases hj : j = 0 <;> simp only [hi, hj, if_true, if_false] <;> intro p q <;> first | omega | cases p | cases q | exact h2 _ _ (by omega) c x y p q
  · intro i c x
    by_cases hi : i = 0 <;> simp only [hi, if_true, if_false] <;> intro p <;> first | cases p | exact h3 _ _ _ p

theorem Own.cases {T size n : Nat} {v : Value} {xs : List Value} (hS : Sat E w (Own T size v n xs :: R)) :
    xs.length = n * size ∧ ((v = .slice none 0 0 ∧ n = 0 ∧ Sat E w R) ∨ ∃ g cap junk, v = .slice (some ⟨g, 0, none⟩) n cap ∧ n ≤ cap ∧ cap ≤ maxLen ∧ (xs ++ junk).length = cap * size ∧ Sat E w (PT g (xs ++ junk) T :: R)) := by
  obtain ⟨ps, h1, h2, h3⟩ := hS.all
  obtain ⟨hl, h⟩ := h1 0 _ rfl
  refine ⟨hl, ?_⟩
  rcases h with ⟨hv, hn⟩ | ⟨g, cap, junk, hv, hn, hc, hj, hp⟩
  · exact .inl ⟨hv, hn, hS.weak⟩
  · refine .inr ⟨g, cap, junk, hv, hn, hc, hj, hS.os, hS.tape, hS.output, ps, ?_, h2, h3⟩
    intro i B hB
    cases i with
    | zero => simp at hB; subst hB; exact hp
    | succ i => exact h1 (i + 1) B (by simpa using hB)

theorem Own.mk {T size n g cap : Nat} {xs : List Value} (junk : List Value) (hl : xs.length = n * size) (hn : n ≤ cap) (hc : cap ≤ maxLen) (hj : (xs ++ junk).length = cap * size)
    (hS : Sat E w (PT g (xs ++ junk) T :: R)) : Sat E w (Own T size (.slice (some ⟨g, 0, none⟩) n cap) n xs :: R) :=
  hS.imp fun _ h => ⟨hl, .inr ⟨g, cap, junk, rfl, hn, hc, hj, h⟩⟩

/-- The kit's own word for it. -/
theorem Own.row {T size n : Nat} {v : Value} {xs : List Value} (hS : Sat E w (Own T size v n xs :: R)) : w.ownsRow 0 T size v n xs := by
  obtain ⟨hl, h⟩ := Own.cases hS
  refine ⟨hl, ?_⟩
  rcases h with ⟨hv, hn, _⟩ | ⟨g, cap, junk, hv, hn, hc, hj, hp⟩
  · exact .inl ⟨hv, hn⟩
  · refine .inr ⟨g, cap, (xs ++ junk).toArray, hv, Nat.zero_le _, hp.heap, hn, hc, by simpa using hj, ?_⟩
    rw [← hl]; simp

/-- A piece more. -/
theorem All.add {h h' : Piece} {l : List HP} {A : HP} {p : Piece} (H : All l h) (hh : ∀ b o, h b = some o → h' b = some o) (hA : A p) (hp : ∀ b o, p b = some o → h' b = some o ∧ h b = none) : All (A :: l) h' := by
  obtain ⟨ps, h1, h2, h3⟩ := H
  refine ⟨fun i => if i = 0 then p else ps (i - 1), ?_, ?_, ?_⟩
  · intro i B hB
    cases i with
    | zero => simp at hB; subst hB; simpa using hA
    | succ i => simpa using h1 i B (by simpa using hB)
  · intro i j hij c x y
    by_cases hi : i = 0 <;> by_cases hj : j = 0
    · omega
    · simp only [hi, hj, if_true, if_false]; intro a b; have := h3 _ _ _ b; rw [(hp _ _ a).2] at this; cases this
    · simp only [hi, hj, if_true, if_false]; intro a b; have := h3 _ _ _ a; rw [(hp _ _ b).2] at this; cases this
    · simp only [hi, hj, if_false]; exact h2 _ _ (by omega) c x y
  · intro i c x
    by_cases hi : i = 0
    · simp only [hi, if_true]; intro a; exact (hp _ _ a).1
    · simp only [hi, if_false]; intro a; exact hh _ _ (h3 _ _ _ a)

/-- Growth alone: all that was said holds on. -/
theorem Sat.grown {w' : World} (hS : Sat E w R) (hg : w.grownBy w' none) : Sat E w' R := by
  refine ⟨hg.os.trans hS.os, hg.tape.trans hS.tape, hg.output.trans hS.output, ?_⟩
  obtain ⟨ps, h1, h2, h3⟩ := hS.all
  refine ⟨ps, h1, h2, fun i b o a => ?_⟩
  have := h3 i b o a
  have hb : b < w.heap.size := (Array.getElem?_eq_some_iff.1 this).1
  show w'.heap[b]? = _
  rw [hg.block b hb (by simp)]
  exact this

/-- A row of the call's own in blocks that are new. -/
theorem Own.ofRow {w' : World} {T size n : Nat} {v : Value} {xs : List Value} (hS : Sat E w R) (hg : w.grownBy w' none) (hr : w'.ownsRow w.heap.size T size v n xs) : Sat E w' (Own T size v n xs :: R) := by
  obtain ⟨hl, h⟩ := hr
  rcases h with ⟨rfl, rfl⟩ | ⟨g, cap, cur, rfl, hb, hh, hn, hc, hs, ht⟩
  · have : xs = [] := List.eq_nil_of_length_eq_zero (by simpa using hl)
    subst this
    exact Own.nil T size (hS.grown hg)
  · refine ⟨hg.os.trans hS.os, hg.tape.trans hS.tape, hg.output.trans hS.output, ?_⟩
    refine All.add (h := heapOf w) (p := fun b => if b = g then some (.cells cur T (0, 0)) else none) hS.all ?_ ?_ ?_
    · intro b o a
      have hb' : b < w.heap.size := (Array.getElem?_eq_some_iff.1 a).1
      show w'.heap[b]? = _
      rw [hg.block b hb' (by simp)]
      exact a
    · refine ⟨hl, .inr ⟨g, cap, cur.toList.drop (n * size), rfl, hn, hc, ?_, ?_⟩⟩
      · rw [← ht, List.take_append_drop]; simpa using hs
      · rw [← ht, List.take_append_drop]; simp [PT]
    · intro b o a
      split at a
      · rename_i e; subst e
        cases a
        exact ⟨hh, by simp [heapOf]; omega⟩
      · cases a

/-- The builtin append, onto a slice of the program's own; what is appended is read wherever it lies. -/
theorem run_append_sat {P : Program} {T size n : Nat} {v : Value} {xs : List Value} (hS : Sat E w (Own T size v n xs :: R)) (t ty : TypeId) (i : TypeInfo) (z : Value) (bytes : Nat)
    (ht : P.underlying t = some (.slice T)) (hi : P.info? T = some i) (hz : i.zero = some z) (hsize : i.size = size) (hby : i.bytes = bytes) (hzs : z.cells.size = size) (hsz : 0 < size)
    (a : Addr) (m c : Nat) (news : List Value) (hl : news.length = m * size) (hnews : ∀ j u, news[j]? = some u → w.cell? (a.add j) = some u) (h1 : ∀ u ∈ news, u.oneCell' = true)
    (h63 : n + m ≤ maxLen) (hbytes : (n + m) * bytes ≤ 140737488355328) :
    ∃ v' w', (Builtin.append_ #[t, t] ty #[v, .slice (some a) m c]).run P w = .ok v' w' ∧ Sat E w' (Own T size v' (n + m) (xs ++ news) :: R) ∧ (v' = .slice none 0 0 ↔ v = .slice none 0 0 ∧ m = 0) := by
  have hrow := Own.row hS
  obtain ⟨hxl, hcase⟩ := Own.cases hS
  have hweak := hS.weak
  rcases hcase with ⟨rfl, rfl, hR⟩ | ⟨g, cap, junk, rfl, hn, hc, hj, hp⟩
  · have hx : xs = [] := List.eq_nil_of_length_eq_zero (by simpa using hxl)
    subst hx
    obtain ⟨v', w', hrun, r1, r2, r3⟩ := run_append_own (P := P) w w.heap.size t ty T i z size bytes ht hi hz hsize hby hzs hsz (.slice none 0 0) 0 [] (World.ownsRow_nil w _ T size) a m c news hl hnews h1 h63 hbytes (Nat.le_refl _)
    exact ⟨v', w', hrun, Own.ofRow hR r2 r1, r3⟩
  · by_cases hfit : n + m ≤ cap
    · obtain ⟨w', hrun, r1, r2⟩ := run_append_fits (P := P) w 0 t ty T i size ht hi hsize g n cap xs hrow a m c news hl hnews h1 hfit
      refine ⟨_, w', hrun, ?_, by simp⟩
      obtain ⟨hl', h'⟩ := r1
      rcases h' with ⟨h', _⟩ | ⟨g', cap', cur, hv, _, hh, hn', hc', hs', ht'⟩
      · cases h'
      · cases hv
        refine Own.mk (cur.toList.drop ((n + m) * size)) hl' hn' hc' (by rw [← ht', List.take_append_drop]; simpa using hs') ?_
        refine ⟨r2.os.trans hS.os, r2.tape.trans hS.tape, r2.output.trans hS.output, ?_⟩
        refine hp.all.upd (b := g) (o' := .cells cur T (0, 0)) ?_ hh ?_
        · intro k hk
          refine ⟨⟨_, hk⟩, ?_⟩
          rw [← ht', List.take_append_drop]
          simp [PT]
        · intro j x hj' hx
          have hlt : j < w.heap.size := (Array.getElem?_eq_some_iff.1 hx).1
          exact (r2.block j hlt (fun e => hj' (by simpa using e))).trans hx
    · obtain ⟨v', w', hrun, r1, r2⟩ := run_append_arg_grows (P := P) w t ty T i z size bytes ht hi hz hsize hby hzs hsz ⟨g, 0, none⟩ n cap xs hxl (hrow.cells (g := g) rfl) a m c news hl hnews (by omega) h63 hbytes
      refine ⟨v', w', hrun, Own.ofRow hweak r2 r1, ?_⟩
      rcases r1.2 with ⟨_, h⟩ | ⟨g', cap', cur, hv, _⟩
      · omega
      · simp [hv]

/-- The same at the walk's own operation, also inside a region that draws. -/
theorem step_append_sat {P : Program} {ops : Array Oper} {o : Oper} {a : Act} {K : Act → World → Prop} {Q : Exit → Act → World → Prop} {X : Prop} {T size n : Nat} {v : Value} {xs : List Value}
    (hS : Sat E w (Own T size v n xs :: R)) (hg : o.guard = none) (s x : Operand) (t : TypeId) (hop : o.op = Op.call { callee := Callee.builtin Builtin.append, args := #[s, x], argTypes := #[t, t] })
    (i : TypeInfo) (z : Value) (bytes : Nat)
    (ht : P.underlying t = some (.slice T)) (hi : P.info? T = some i) (hz : i.zero = some z) (hsize : i.size = size) (hby : i.bytes = bytes) (hzs : z.cells.size = size) (hsz : 0 < size)
    (hs : a.eval s = v) (ad : Addr) (m c : Nat) (news : List Value) (hx : a.eval x = .slice (some ad) m c) (hl : news.length = m * size) (hnews : ∀ j u, news[j]? = some u → w.cell? (ad.add j) = some u) (h1 : ∀ u ∈ news, u.oneCell' = true)
    (h63 : n + m ≤ maxLen) (hbytes : (n + m) * bytes ≤ 140737488355328)
    (hK : ∀ v' w', Sat E w' (Own T size v' (n + m) (xs ++ news) :: R) → (v' = .slice none 0 0 ↔ v = .slice none 0 0 ∧ m = 0) → K (a.put o.dst v') w') :
    if Region.wanted o (yielded ops a.tmps) = true then Oper.wp P o a w K Q else X := by
  have hw : Region.wanted o (yielded ops a.tmps) = true := by simp [Region.wanted, hg]
  rw [if_pos hw]
  obtain ⟨v', w', hrun, r1, r2⟩ := run_append_sat (P := P) hS t o.type i z bytes ht hi hz hsize hby hzs hsz ad m c news hl hnews h1 h63 hbytes
  unfold Oper.wp
  simp [execOp, hop, resolve, invoke, builtin, hs, hx, hrun, Result.andThen]
  exact hK v' w' r1 r2

theorem wpList_append_sat {P : Program} {ops : Array Oper} {o : Oper} {rest : List Oper} {a : Act} {Q : Exit → Act → World → Prop} {T size n : Nat} {v : Value} {xs : List Value}
    (hS : Sat E w (Own T size v n xs :: R)) (hg : o.guard = none) (s x : Operand) (t : TypeId) (hop : o.op = Op.call { callee := Callee.builtin Builtin.append, args := #[s, x], argTypes := #[t, t] })
    (i : TypeInfo) (z : Value) (bytes : Nat)
    (ht : P.underlying t = some (.slice T)) (hi : P.info? T = some i) (hz : i.zero = some z) (hsize : i.size = size) (hby : i.bytes = bytes) (hzs : z.cells.size = size) (hsz : 0 < size)
    (hs : a.eval s = v) (ad : Addr) (m c : Nat) (news : List Value) (hx : a.eval x = .slice (some ad) m c) (hl : news.length = m * size) (hnews : ∀ j u, news[j]? = some u → w.cell? (ad.add j) = some u) (h1 : ∀ u ∈ news, u.oneCell' = true)
    (h63 : n + m ≤ maxLen) (hbytes : (n + m) * bytes ≤ 140737488355328)
    (hK : ∀ v' w', Sat E w' (Own T size v' (n + m) (xs ++ news) :: R) → (v' = .slice none 0 0 ↔ v = .slice none 0 0 ∧ m = 0) → wpList P ops Q rest (a.put o.dst v') w') :
    wpList P ops Q (o :: rest) a w := by
  refine wpList_plain hg fun K hK' => ?_
  have h := step_append_sat (P := P) (ops := ops) (K := K) (Q := Q) (X := True) hS hg s x t hop i z bytes ht hi hz hsize hby hzs hsz hs ad m c news hx hl hnews h1 h63 hbytes (fun v' w' h1 h2 => hK' _ _ (hK v' w' h1 h2))
  rwa [if_pos (by simp [Region.wanted, hg])] at h

end Go.Proofs.Ytpfhfeccdhmgiaa
