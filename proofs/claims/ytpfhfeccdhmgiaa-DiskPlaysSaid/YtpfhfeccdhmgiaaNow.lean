/- What is proved here: lemmas and contracts on the way to this seat's laws, part 'Now'; no condition. -/
import Derived.Test.YtpfhfeccdhmgiaaBack
import Derived.RangeFuncMany
import Derived.BigQuiet
import Derived.Deep.QuietTactic
namespace Go.Proofs.Ytpfhfeccdhmgiaa
open Go.RowKit Go.Shelf

attribute [local go_sem] Oper.semAt_some

theorem Wrs.lift {n₀ n₁ : Nat} {A B : World} {sv : Value} {zs : List WR} (hI : Wrs n₀ A sv zs) (h : Below n₀ A B) (hn : n₀ ≤ n₁) : Wrs n₁ B sv zs := by
  rcases hI.below h with e | ⟨b, cap, e, hb, hc⟩
  · exact .inl e
  · exact .inr ⟨b, cap, e, by omega, hc⟩

def lastWr (zs : List WR) (s : Nat) (d : Value) : Value := match zs.reverse.find? (fun x => x.s == s) with | some x => x.val | none => d

theorem lastWr_none {zs : List WR} {s : Nat} {d : Value} (h : ∀ y ∈ zs.reverse, y.s ≠ s) : lastWr zs s d = d := by
  have : zs.reverse.find? (fun x => x.s == s) = none := List.find?_eq_none.2 fun y hy => by simpa using h y hy
  unfold lastWr; rw [this]

theorem lastWr_some {zs p : List WR} {x : WR} {s : Nat} {d : Value} (h : (p ++ [x]) <+: zs.reverse) (hp : ∀ y ∈ p, y.s ≠ s) (hx : x.s = s) : lastWr zs s d = .slice (some ⟨x.g, 0, none⟩) 96 x.c := by
  obtain ⟨t, ht⟩ := h
  have h1 : p.find? (fun x => x.s == s) = none := List.find?_eq_none.2 fun y hy => by simpa using hp y hy
  have : zs.reverse.find? (fun x => x.s == s) = some x := by
    rw [← ht, List.append_assoc, List.find?_append, h1]
    simp [hx]
  unfold lastWr; rw [this]; rfl

set_option maxRecDepth 100000 in
set_option maxHeartbeats 2000000 in
theorem now_in (F : Fence) (n : Nat) (hf : ∀ k, F.fn k) (hro : F.round = none) (hn : 3 ≤ n) (a s gb ln lcap g0 c0 pcap : Nat) (pa : Option Addr) (zs : List WR) (w : World)
    (hreach : zs.length ≤ 4398046511104) (hz : ∀ j (h : j < zs.length), zs[j].i = j) (ha : a < w.heap.size) (hgb : gb < w.heap.size) (hln : ln ≤ 64)
    (h1 : w.cell? ⟨a, 1, none⟩ = some (.slice (some ⟨gb, 0, none⟩) ln lcap)) (h2 : w.cell? ⟨a, 2, none⟩ = some (.slice pa zs.length pcap)) (hs : s < ln)
    (hv0 : w.cell? ⟨gb, s, none⟩ = some (.slice (some ⟨g0, 0, none⟩) 96 c0)) (hI : Wrs w.heap.size w (.slice pa zs.length pcap) zs) :
    CallsIn F n Try.prog 104 #[.pointer (some ⟨a, 0, none⟩), .int .i64 s] w fun e w' => e = .returned (lastWr zs s (.slice (some ⟨g0, 0, none⟩) 96 c0)) ∧ Below w.heap.size w w' := by
  have hn1 : 1 ≤ n := by omega
  refine callsIn_of_wp_marks Try.func104 rfl (hf _) ?_ hro
  simp only [Try.ntmps104, List.size_toArray, List.length_cons, List.length_nil, Nat.reduceAdd, Nat.reduceSub, Array.replicate_succ, Array.replicate_zero, List.push_toArray, List.append_toArray, List.nil_append, List.cons_append]
  gi_wp2_with (gi_at_call 164; refine (back_in F (n - 1) (hf _) hro _ _ _ _).mono ?_; rintro e w' ⟨rfl, rfl⟩)
  obtain ⟨W0, hW0⟩ : ∃ W0, (((w.alloc (.cells #[.int .i64 (s : Int)] 3)).alloc (.cells #[.slice none 0 0] 37)).alloc (.cells #[.slice pa zs.length pcap] 148)) = W0 := ⟨_, rfl⟩
  have hsz : W0.heap.size = w.heap.size + 3 := by rw [← hW0]; simp
  have hB0 : Below w.heap.size w W0 := by rw [← hW0]; exact (((Below.refl _ w).alloc (Nat.le_refl _) _).alloc (by simp) _).alloc (by simp; omega) _
  have k0 := cell_new1 w [.int .i64 (s : Int)] 3 0
  have k1 := cell_new1 (w.alloc (.cells #[.int .i64 (s : Int)] 3)) [.slice none 0 0] 37 0
  have k2 := cell_new1 ((w.alloc (.cells #[.int .i64 (s : Int)] 3)).alloc (.cells #[.slice none 0 0] 37)) [.slice pa zs.length pcap] 148 0
  simp only [World.size_alloc] at k1 k2
  have c3 : W0.cell? ⟨w.heap.size, 0, none⟩ = some (.int .i64 (s : Int)) := by rw [← hW0]; exact cell_alloc1 _ (cell_alloc1 _ k0.1)
  have c4 : W0.cell? ⟨w.heap.size + 1, 0, none⟩ = some (.slice none 0 0) := by rw [← hW0]; exact cell_alloc1 _ k1.1
  have f4 : W0.frozen? ⟨w.heap.size + 1, 0, none⟩ = false := by rw [← hW0]; exact frozen_alloc1 _ k1.1 k1.2
  have c5 : W0.cell? ⟨w.heap.size + 2, 0, none⟩ = some (.slice pa zs.length pcap) := by rw [← hW0]; exact k2.1
  clear k0 k1 k2
  rw [hW0]
  clear hW0
  refine wpIn_rangeFunc_ownH hro hn1 (gf := 179) (lb := #[.pointer (some ⟨w.heap.size + 1 + 1, 0, none⟩)]) rfl (hf _) (enters_of Try.func179 (by kernel_rfl) rfl)
    (back_stops F (n - 1) (hf _) hro (by omega) (w.heap.size + 2) W0.heap.size (.slice pa zs.length pcap) zs hreach hz W0 (by omega) (Nat.le_refl _) c5 (hI.lift hB0 (by omega))) belowK_t (belowK_b (Nat.le_refl _)) (Below.refl _ _) (fun _ => rfl)
    (fun pre W => (∀ y ∈ pre, y.s ≠ s) ∧ Below W0.heap.size W0 W)
    (fun c pre W => (c = .ret ∧ (∃ p x, pre = p ++ [x] ∧ (∀ y ∈ p, y.s ≠ s) ∧ x.s = s ∧ W.cell? ⟨w.heap.size + 1, 0, none⟩ = some (.slice (some ⟨x.g, 0, none⟩) 96 x.c))) ∧ Below w.heap.size w W)
    (fun pre A B row hs hg hr => ⟨hs.1, ownFrom_below (β := Unit) (Nat.le_refl _) (Nat.le_refl _) () A B row hs.2 hg hr⟩)
    (fun c pre A B row hs hg hr => ⟨⟨hs.1.1, by
        obtain ⟨p, x, h1, h2, h3, h4⟩ := hs.1.2
        exact ⟨p, x, h1, h2, h3, hg.cell h4 (fun e => by have := (hr _ e.symm).1; dsimp only at this; omega)⟩⟩, ownFrom_below (β := Unit) (Nat.le_refl _) (by omega) () A B row hs.2 hg hr⟩)
    ⟨by simp, Below.refl _ _⟩
    (fun x a' W => ∃ Bx, W0.heap.size ≤ Bx ∧ W.cell? ⟨Bx, 0, none⟩ = some (.int .i64 (x.s : Int)) ∧ W.cell? ⟨Bx, 1, none⟩ = some (.slice (some ⟨x.g, 0, none⟩) 96 x.c) ∧
      a' = { tmps := #[.pointer (some ⟨a, 0, none⟩), .int .i64 s, undef, .pointer (some ⟨w.heap.size, 0, none⟩), .pointer (some ⟨w.heap.size + 1, 0, none⟩), undef, .pointer (some ⟨Bx, 0, none⟩), .pointer (some ⟨a, 0, none⟩), .pointer (some ⟨a, 0, none⟩), .pointer (some ⟨a, 2, none⟩), .slice pa zs.length pcap, .func (.func 179) #[] #[.pointer (some ⟨w.heap.size + 1 + 1, 0, none⟩)], .int .i64 x.i, .agg #[.int .i64 x.s, .slice (some ⟨x.g, 0, none⟩) 96 x.c], undef, undef, undef, undef, undef, undef, undef, undef, undef, undef, undef, undef, undef], defers := [] })
    (fun x a' _ A B row hs hg hr => by
        obtain ⟨Bx, h0, h1, h2, h3⟩ := hs
        have hk : some Bx ≠ row := fun e => by
          obtain ⟨o, ho, hc⟩ := (hr _ e.symm).2
          unfold World.cell? at h1
          dsimp only at h1
          rw [ho] at h1
          cases o <;> first | (simp at h1; done) | cases hc
        exact ⟨Bx, h0, hg.cell h1 hk, hg.cell h2 hk, h3⟩) ?assign ?body ?done ?stop
  case assign =>
    intro l pre x W K hi hK
    unfold wrEnc
    gi_wp2
    have hle := hi.2.size
    have k0 := cell_new1 W [.int .i64 (x.s : Int), .slice (some ⟨x.g, 0, none⟩) 96 x.c] 154 0
    have k1 := cell_new1 W [.int .i64 (x.s : Int), .slice (some ⟨x.g, 0, none⟩) 96 x.c] 154 1
    exact hK _ _ ((KeepsOthers.alloc _ _).from _) ((Below.refl _ W).alloc hle _) ⟨hi.1, hi.2.alloc hle _⟩ ⟨W.heap.size, hle, k0.1, k1.1, rfl⟩
  case body =>
    rintro l pre x a' W hl ⟨r, hr⟩ ⟨hp, hB⟩ ⟨Bx, hBx, hx0, hx1, rfl⟩ hlt
    have d3 := (hB.cell (p := ⟨w.heap.size, 0, none⟩) (by dsimp only; omega)).trans c3
    have d4 := (hB.cell (p := ⟨w.heap.size + 1, 0, none⟩) (by dsimp only; omega)).trans c4
    have e4 := (hB.frozen (p := ⟨w.heap.size + 1, 0, none⟩) (by dsimp only; omega)).trans f4
    by_cases hxs : x.s = s
    · have hb : ((x.s : Int) == (s : Int)) = true := by simp [hxs]
      gi_wp2
      have c9 := World.cell?_setCell_same' W ⟨w.heap.size + 1, 0, none⟩ (.slice (some ⟨x.g, 0, none⟩) 96 x.c) (by rw [d4]; rfl)
      exact ⟨(KeepsOthers.setCell _ _ _).from _, ⟨rfl, pre, x, rfl, hp, hxs, c9⟩, (hB0.trans (hB.mono (by omega))).setCell (p := ⟨w.heap.size + 1, 0, none⟩) (by dsimp only; omega) _⟩
    · have hb : ((x.s : Int) == (s : Int)) = false := by simp; omega
      gi_wp2
      refine ⟨(KeepsOthers.refl _).from _, Below.refl _ _, ?_, hB⟩
      intro y hy
      rcases List.mem_append.1 hy with h | h
      · exact hp y h
      · simp at h; subst h; exact hxs
  case done =>
    rintro D ys W hD rfl ⟨hne, hB⟩ hK
    have d3 := (hB.cell (p := ⟨w.heap.size, 0, none⟩) (by dsimp only; omega)).trans c3
    have d4 := (hB.cell (p := ⟨w.heap.size + 1, 0, none⟩) (by dsimp only; omega)).trans c4
    have e4 := (hB.frozen (p := ⟨w.heap.size + 1, 0, none⟩) (by dsimp only; omega)).trans f4
    have hB1 := hB0.trans (hB.mono (B' := w.heap.size) (by omega))
    have d1 := (hB1.cell (p := ⟨a, 1, none⟩) ha).trans h1
    have d5 := (hB1.cell (p := ⟨gb, s, none⟩) hgb).trans hv0
    clear h1 h2 hv0 c3 c4 f4 c5
    gi_wp2
    gi_region
    all_goals
      gi_wp2
      have hK' := ((KeepsOthers.setCell W ⟨w.heap.size + 1, 0, none⟩ (.slice (some ⟨g0, 0, none⟩) 96 c0)).trans (KeepsOthers.drew _)).same D _ hK rfl
      refine ⟨by simp, .inl ⟨_, _, rfl, run_takeDeferred hK', ?_⟩⟩
      have hc5 := cell_kept (W := (W.setCell ⟨w.heap.size + 1, 0, none⟩ (.slice (some ⟨g0, 0, none⟩) 96 c0)).drew) (World.cell?_setCell_same' W ⟨w.heap.size + 1, 0, none⟩ (.slice (some ⟨g0, 0, none⟩) 96 c0) (by rw [d4]; rfl)) (grownBy_putObj' _ D (.deferred none)) (fun r e => by cases e; exact ⟨_, hK', rfl⟩)
      refine ⟨.slice (some ⟨g0, 0, none⟩) 96 c0, ?_, by rw [lastWr_none hne], ((hB1.setCell (p := ⟨w.heap.size + 1, 0, none⟩) (by dsimp only; omega) _).drew).trans (belowK_b (w := w) (Nat.le_refl _) _ D _ _ (by omega) hK' rfl rfl)⟩
      simp [results, Try.f104, go_sem, hc5]
  case stop =>
    rintro D c pre W hD hpre ⟨⟨rfl, p, x, rfl, hp, hxs, hc⟩, hB⟩ hK
    gi_wp2
    refine ⟨by simp, .inl ⟨_, _, rfl, run_takeDeferred hK, ?_⟩⟩
    have hc5 := cell_kept hc (grownBy_putObj' _ D (.deferred none)) (fun r e => by cases e; exact ⟨_, hK, rfl⟩)
    refine ⟨.slice (some ⟨x.g, 0, none⟩) 96 x.c, by simp [results, Try.f104, go_sem, hc5], by rw [lastWr_some hpre hp hxs], hB.trans (belowK_b (w := w) (Nat.le_refl _) W D _ _ (by omega) hK rfl rfl)⟩

end Go.Proofs.Ytpfhfeccdhmgiaa
