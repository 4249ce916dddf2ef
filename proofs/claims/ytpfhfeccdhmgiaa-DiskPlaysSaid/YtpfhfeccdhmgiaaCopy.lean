/- What is proved here: lemmas and contracts on the way to this seat's laws, part 'Copy'; no condition. -/
import Derived.Test.YtpfhfeccdhmgiaaRows1
import Derived.Laws.CopyOwn
namespace Go.Proofs.Ytpfhfeccdhmgiaa
open Go.RowKit

variable {E : Env} {w : World} {R : List HP}

theorem Try.sizeU8 : (Try.prog.info? 5).map (·.size) = some 1 := by kernel_rfl

/-- Bytes that can be read, wherever they lie. -/
def RB (w : World) (ao : Option Addr) (l : List UInt8) : Prop := (ao = none → l = []) ∧ ∀ ad, ao = some ad → ∀ j u, (l.map BV)[j]? = some u → w.cell? (ad.add j) = some u

theorem addr0 (g j : Nat) : ((⟨g, 0, none⟩ : Addr).add j) = ⟨g, j, none⟩ := by
  unfold Addr.add
  split
  · subst_vars; rfl
  · simp

theorem RB.take {ao : Option Addr} {l : List UInt8} (h : RB w ao l) (n : Nat) : RB w ao (l.take n) := by
  refine ⟨fun e => (by rw [h.1 e]; simp), fun ad e j u hu => h.2 ad e j u ?_⟩
  rw [List.map_take] at hu
  rw [List.getElem?_take] at hu
  split at hu
  · exact hu
  · cases hu

theorem RB.ofBytes {g n c : Nat} {l : List UInt8} (hS : Sat E w (BytesP (.slice (some ⟨g, 0, none⟩) n c) l :: R)) : RB w (some ⟨g, 0, none⟩) l := by
  refine ⟨fun e => (by cases e), fun ad e j u hu => ?_⟩
  cases e
  rcases (Own.cases hS).2 with ⟨h, _⟩ | ⟨g', cap, junk, h, _, _, _, hp⟩
  · cases h
  · cases h
    rw [addr0, hp.cell, List.getElem?_append_left (List.getElem?_eq_some_iff.1 hu).1]
    exact hu

theorem run_copy_bytes {P : Program} {g n c : Nat} {ld l : List UInt8} {ao : Option Addr} (hS : Sat E w (BytesP (.slice (some ⟨g, 0, none⟩) n c) ld :: R)) (hld : ld.length = n) (sLen sCap : Nat) (hl : l.length = Nat.min sLen n) (hr : RB w ao l)
    (dT sT ty : TypeId) (hu : P.underlying dT = some (.slice 5)) (hsz : (P.info? 5).map (·.size) = some 1) :
    ∃ w', (Builtin.copy_ #[dT, sT] ty #[.slice (some ⟨g, 0, none⟩) n c, .slice ao sLen sCap]).run P w = .ok (goInt l.length) w' ∧ Sat E w' (BytesP (.slice (some ⟨g, 0, none⟩) n c) (l ++ ld.drop l.length) :: R) := by
  by_cases h0 : l = []
  · subst h0
    refine ⟨w, run_copy_none w dT sT ty 5 _ _ n c sLen sCap hu hsz (by simpa using hl.symm), ?_⟩
    simpa using hS
  · cases ao with
    | none => exact absurd (hr.1 rfl) h0
    | some ad =>
      subst hld
      obtain ⟨hx, h⟩ := Own.cases hS
      rcases h with ⟨h, _⟩ | ⟨g', cap, junk, h, hn, hc, hj, hp⟩
      · cases h
      · cases h
        have hmin : l.length ≤ ld.length := by rw [hl]; exact Nat.min_le_right _ _
        have hrun := run_copy_row (P := P) w dT sT ty 5 g 0 ld.length c ad sLen sCap (ld.map BV ++ junk).toArray 5 (l.map BV) hu hsz hp.heap (by simpa using hl) (fun j v hv => hr.2 ad rfl j v hv) (by simp; omega) (bv_one l)
        have hlist : (List.map BV l ++ List.drop (List.map BV l).length (List.map BV ld ++ junk)) = (l ++ ld.drop l.length).map BV ++ junk := by
          simp [List.drop_append_of_le_length, hmin]
        have hlen : (l ++ ld.drop l.length).length = ld.length := by simp; omega
        refine ⟨w.setRow g ((l ++ ld.drop l.length).map BV ++ junk).toArray, ?_, ?_⟩
        · rw [hrun]
          simp only [Nat.zero_add, List.take_zero, List.nil_append]
          rw [hlist]
          simp
        · have hS2 : Sat E (w.setRow g ((l ++ ld.drop l.length).map BV ++ junk).toArray) (PT g ((l ++ ld.drop l.length).map BV ++ junk) 5 :: R) :=
            ⟨hp.os, hp.tape, hp.output, hp.all.upd (b := g) (o' := .cells ((l ++ ld.drop l.length).map BV ++ junk).toArray 5 (0, 0)) (fun k hk => ⟨⟨_, hk⟩, by simp [PT]⟩) (setRow_heap w g _ _ _ _ hp.heap) (fun j x hj' hx => (setRow_other w g j _ hj').trans hx)⟩
          have h9 := Own.mk (n := (l ++ ld.drop l.length).length) (size := 1) (cap := c) junk (by simp) (by omega) hc (by simp at hj ⊢; omega) hS2
          unfold BytesP
          rw [hlen] at h9 ⊢
          exact h9

theorem step_copy_bytes {P : Program} {ops : Array Oper} {o : Oper} {a : Act} {K : Act → World → Prop} {Q : Exit → Act → World → Prop} {X : Prop} {g n c : Nat} {ld l : List UInt8} {ao : Option Addr}
    (hS : Sat E w (BytesP (.slice (some ⟨g, 0, none⟩) n c) ld :: R)) (hld : ld.length = n) (sLen sCap : Nat) (hl : l.length = Nat.min sLen n) (hr : RB w ao l)
    (hgd : o.guard = none) (d s : Operand) (dT sT : TypeId) (ho : o.op = .call { callee := .builtin .copy, args := #[d, s], argTypes := #[dT, sT] }) (hu : P.underlying dT = some (.slice 5)) (hsz : (P.info? 5).map (·.size) = some 1)
    (hd : a.eval d = .slice (some ⟨g, 0, none⟩) n c) (hs : a.eval s = .slice ao sLen sCap)
    (hK : ∀ w', Sat E w' (BytesP (.slice (some ⟨g, 0, none⟩) n c) (l ++ ld.drop l.length) :: R) → K (a.put o.dst (goInt l.length)) w') :
    if Region.wanted o (yielded ops a.tmps) = true then Oper.wp P o a w K Q else X := by
  have hw : Region.wanted o (yielded ops a.tmps) = true := by simp [Region.wanted, hgd]
  rw [if_pos hw]
  obtain ⟨w', hrun, h'⟩ := run_copy_bytes (P := P) hS hld sLen sCap hl hr dT sT o.type hu hsz
  unfold Oper.wp
  simp [execOp, ho, resolve, invoke, builtin, hd, hs, hrun, Result.andThen]
  exact hK w' h'

theorem wpList_copy_bytes {P : Program} {ops : Array Oper} {o : Oper} {rest : List Oper} {a : Act} {Q : Exit → Act → World → Prop} {g n c : Nat} {ld l : List UInt8} {ao : Option Addr}
    (hS : Sat E w (BytesP (.slice (some ⟨g, 0, none⟩) n c) ld :: R)) (hld : ld.length = n) (sLen sCap : Nat) (hl : l.length = Nat.min sLen n) (hr : RB w ao l)
    (hgd : o.guard = none) (d s : Operand) (dT sT : TypeId) (ho : o.op = .call { callee := .builtin .copy, args := #[d, s], argTypes := #[dT, sT] }) (hu : P.underlying dT = some (.slice 5)) (hsz : (P.info? 5).map (·.size) = some 1)
    (hd : a.eval d = .slice (some ⟨g, 0, none⟩) n c) (hs : a.eval s = .slice ao sLen sCap)
    (hK : ∀ w', Sat E w' (BytesP (.slice (some ⟨g, 0, none⟩) n c) (l ++ ld.drop l.length) :: R) → wpList P ops Q rest (a.put o.dst (goInt l.length)) w') :
    wpList P ops Q (o :: rest) a w := by
  refine wpList_plain hgd fun K hK' => ?_
  have h := step_copy_bytes (P := P) (ops := ops) (K := K) (Q := Q) (X := True) hS hld sLen sCap hl hr hgd d s dT sT ho hu hsz hd hs (fun w' h1 => hK' _ _ (hK w' h1))
  rwa [if_pos (by simp [Region.wanted, hgd])] at h

end Go.Proofs.Ytpfhfeccdhmgiaa
