/- What is proved here: lemmas and contracts on the way to this seat's laws, part 'DSw3'; no condition. -/
import Derived.Test.YtpfhfeccdhmgiaaDCut
import Derived.Deep.QuietTactic
import Derived.BigQuiet
/- The law of disks: its walk, in parts: a byte turned, a fuse, a write. -/
namespace Go.Proofs.Ytpfhfeccdhmgiaa
open Go.RowKit

set_option maxHeartbeats 100000000 in
set_option maxRecDepth 100000 in
theorem sw_5 (w W : World) (E : Env) (b1 b2 a1 a2 ob i : Nat) (D : DiskM) (F : FuseM) (o : OpM) (bo : Option Addr) (bc : Nat) (hD : D.pend.length ≤ i) (hi60 : i < 60) (hrb : RB w bo o.b) (hon : o.n ≤ 9223372036854775807) (h200 : ¬ 200 < o.b.length) (hS1 : Sat E W (PT ob [.int .i64 o.kind, .int .i64 o.slot, .int .i64 o.at_, .int .i64 o.n, .int .u8 o.fill.toNat, .slice bo o.b.length bc] 39 :: Row w b1 b2 a1 a2 D F)) (k0 : ¬ o.kind = 0) (k1 : ¬ o.kind = 1) (k2 : ¬ o.kind = 2) (k3 : ¬ o.kind = 3) (k4 : ¬ o.kind = 4) (k5 : o.kind = 5) (Q : Exit → Act → World → Prop) (c0 c1 c2 c3 c4 c5 c6 c7 c12 c14 c15 c16 c17 c18 c19 c20 c21 c22 c23 c24 c25 c26 c27 c28 c29 c30 c31 c32 c33 c34 c35 c36 c37 c38 c39 c40 c41 c42 c43 c44 c45 c46 c47 c48 c49 c50 c51 c52 c53 c54 c55 c56 c57 c58 c59 c60 c61 c62 c63 c64 c65 c66 c67 c68 c69 c70 c71 c72 c73 c75 c76 c77 c78 c79 c80 c81 c82 c83 c84 c85 c86 c87 c88 c89 c90 c91 c92 c93 c94 c95 c96 c97 c98 c99 c100 c101 c102 c103 c104 c105 c106 c107 c108 c109 c110 c111 c112 c113 c114 c115 c116 c117 c118 c119 c120 c121 c122 c123 c124 c125 c126 c127 c128 c129 c130 c131 c132 c133 c134 c135 c136 c137 c138 c139 c140 c141 c142 c143 c144 c145 c146 c147 c148 c149 c150 c151 c152 c153 c154 c155 c156 c157 c158 c159 c160 c161 c162 c163 c164 c165 c166 c167 c168 c169 c170 c171 c172 c173 c174 c175 c176 c177 c178 c179 c180 c181 c182 c183 c184 c185 c186 c187 c188 c189 c190 c191 c192 c193 c194 c195 c196 c197 c198 c199 c200 c201 c202 c203 c204 c205 c206 c207 c208 c209 c210 c211 c212 c213 c214 c215 c216 c217 c218 c219 c220 c221 c222 c223 c224 c225 c226 c227 c228 c229 c230 c231 c232 c233 c234 c235 c236 c237 c238 c239 c240 c241 c242 c243 c244 c245 c246 c247 c248 c249 c250 c251 c252 c253 c254 c255 c256 c257 c258 c259 c260 c261 c262 c263 c264 c265 : Value)
    (hQ : ∀ (u6 u14 u15 u16 u17 u75 u76 u77 u78 u79 u80 u81 u82 u83 u84 u85 u86 u87 u88 u89 u90 u91 u92 u93 u94 u95 u96 u97 u98 u99 u100 u101 u102 u103 u104 u105 u106 u107 u108 u109 u110 u111 u112 u113 u114 u115 u116 u117 u118 u119 u120 u121 u122 u123 u124 u125 u126 u127 u128 u129 u130 u131 u132 u133 u134 u135 u136 u137 u138 u139 u140 u141 u142 u143 u144 u145 u146 u147 u148 u149 u150 u151 u152 u153 u154 u155 u156 u157 u158 u159 u160 u161 u162 u163 u164 u165 u166 u167 u168 u169 u170 u171 u172 u173 u174 u175 u176 u177 u178 u179 u180 u181 u182 u183 u184 u185 u186 u187 u188 u189 u190 u191 u192 u193 u194 u195 u196 u197 : Value) (wx : World), (∃ D' F', D'.pend.length ≤ i + 1 ∧ Sat E wx (Row w b1 b2 a1 a2 D' F')) → Q .normal ⟨#[c0, c1, c2, c3, c4, c5, u6, c7, .pointer (some ⟨b1, 0, none⟩), .pointer (some ⟨b2, 0, none⟩), .pointer (some ⟨a1, 0, none⟩), .pointer (some ⟨a2, 0, none⟩), c12, .pointer (some ⟨ob, 0, none⟩), u14, u15, u16, u17, c18, c19, c20, c21, c22, c23, c24, c25, c26, c27, c28, c29, c30, c31, c32, c33, c34, c35, c36, c37, c38, c39, c40, c41, c42, c43, c44, c45, c46, c47, c48, c49, c50, c51, c52, c53, c54, c55, c56, c57, c58, c59, c60, c61, c62, c63, c64, c65, c66, c67, c68, c69, c70, c71, c72, c73, .int .i64 o.kind, u75, u76, u77, u78, u79, u80, u81, u82, u83, u84, u85, u86, u87, u88, u89, u90, u91, u92, u93, u94, u95, u96, u97, u98, u99, u100, u101, u102, u103, u104, u105, u106, u107, u108, u109, u110, u111, u112, u113, u114, u115, u116, u117, u118, u119, u120, u121, u122, u123, u124, u125, u126, u127, u128, u129, u130, u131, u132, u133, u134, u135, u136, u137, u138, u139, u140, u141, u142, u143, u144, u145, u146, u147, u148, u149, u150, u151, u152, u153, u154, u155, u156, u157, u158, u159, u160, u161, u162, u163, u164, u165, u166, u167, u168, u169, u170, u171, u172, u173, u174, u175, u176, u177, u178, u179, u180, u181, u182, u183, u184, u185, u186, u187, u188, u189, u190, u191, u192, u193, u194, u195, u196, u197, c198, c199, c200, c201, c202, c203, c204, c205, c206, c207, c208, c209, c210, c211, c212, c213, c214, c215, c216, c217, c218, c219, c220, c221, c222, c223, c224, c225, c226, c227, c228, c229, c230, c231, c232, c233, c234, c235, c236, c237, c238, c239, c240, c241, c242, c243, c244, c245, c246, c247, c248, c249, c250, c251, c252, c253, c254, c255, c256, c257, c258, c259, c260, c261, c262, c263, c264, c265], []⟩ wx) :
    Code.wp Try.prog swC Q ⟨#[c0, c1, c2, c3, c4, c5, c6, c7, .pointer (some ⟨b1, 0, none⟩), .pointer (some ⟨b2, 0, none⟩), .pointer (some ⟨a1, 0, none⟩), .pointer (some ⟨a2, 0, none⟩), c12, .pointer (some ⟨ob, 0, none⟩), c14, c15, c16, c17, c18, c19, c20, c21, c22, c23, c24, c25, c26, c27, c28, c29, c30, c31, c32, c33, c34, c35, c36, c37, c38, c39, c40, c41, c42, c43, c44, c45, c46, c47, c48, c49, c50, c51, c52, c53, c54, c55, c56, c57, c58, c59, c60, c61, c62, c63, c64, c65, c66, c67, c68, c69, c70, c71, c72, c73, .int .i64 o.kind, c75, c76, c77, c78, c79, c80, c81, c82, c83, c84, c85, c86, c87, c88, c89, c90, c91, c92, c93, c94, c95, c96, c97, c98, c99, c100, c101, c102, c103, c104, c105, c106, c107, c108, c109, c110, c111, c112, c113, c114, c115, c116, c117, c118, c119, c120, c121, c122, c123, c124, c125, c126, c127, c128, c129, c130, c131, c132, c133, c134, c135, c136, c137, c138, c139, c140, c141, c142, c143, c144, c145, c146, c147, c148, c149, c150, c151, c152, c153, c154, c155, c156, c157, c158, c159, c160, c161, c162, c163, c164, c165, c166, c167, c168, c169, c170, c171, c172, c173, c174, c175, c176, c177, c178, c179, c180, c181, c182, c183, c184, c185, c186, c187, c188, c189, c190, c191, c192, c193, c194, c195, c196, c197, c198, c199, c200, c201, c202, c203, c204, c205, c206, c207, c208, c209, c210, c211, c212, c213, c214, c215, c216, c217, c218, c219, c220, c221, c222, c223, c224, c225, c226, c227, c228, c229, c230, c231, c232, c233, c234, c235, c236, c237, c238, c239, c240, c241, c242, c243, c244, c245, c246, c247, c248, c249, c250, c251, c252, c253, c254, c255, c256, c257, c258, c259, c260, c261, c262, c263, c264, c265], []⟩ W := by
  have HQ := Lib.hid hQ
  have HRB := Lib.hid hrb
  have HON := Lib.hid hon
  have n1 := hS1.cell 1
  have n2 := hS1.cell 2
  have n3 := hS1.cell 3
  have n4 := hS1.cell 4
  have n5 := hS1.cell 5
  have ln := hS1.lt
  simp only [List.getElem?_cons_zero, List.getElem?_cons_succ] at n1 n2 n3 n4 n5
  have HS1 := Lib.hid hS1
  clear hS1 hrb hon hQ
  conv => arg 2; whnf
  have q0 : (o.kind == 0) = false := by simpa using k0
  have q1 : (o.kind == 1) = false := by simpa using k1
  have q2 : (o.kind == 2) = false := by simpa using k2
  have q3 : (o.kind == 3) = false := by simpa using k3
  have q4 : (o.kind == 4) = false := by simpa using k4
  have q5 : (o.kind == 5) = true := by simpa using k5
  clear k0 k1 k2 k3 k4 k5
  by_cases h : 0 ≤ o.slot ∧ o.slot < D.slots.length
  · by_cases h2 : o.at_ < 0 ∨ 96 ≤ o.at_
    · have hR := Rot_no2 o.slot o.at_ o.fill.toNat h h2 HS1.out.drew.to2
      have hR2 := RRot_no2 o.slot o.at_ o.fill.toNat (by rw [D.ref_len]; exact h) (by omega) HS1.out.drew.to4
      clear h h2
      go_wp2
      go_region_held3 (fun w' => w'.cell? ⟨ob, 1, none⟩ = some (.int .i64 o.slot) ∧ w'.cell? ⟨ob, 2, none⟩ = some (.int .i64 o.at_) ∧ w'.cell? ⟨ob, 4, none⟩ = some (.int .u8 o.fill.toNat))
        (first | exact ⟨HS1.out.drew.cell 1, HS1.out.drew.cell 2, HS1.out.drew.cell 4⟩)
        (first
          | (go_at_call 29; refine hR.mono ?_; rintro e w1 ⟨rfl, rfl⟩)
          | (go_at_call 30; refine hR2.mono ?_; rintro e w2 ⟨rfl, rfl⟩))
      go_wp2
      refine HQ.out _ _ _ _ _ _ _ _ _ _ _ _ _ _ _ _ _ _ _ _ _ _ _ _ _ _ _ _ _ _ _ _ _ _ _ _ _ _ _ _ _ _ _ _ _ _ _ _ _ _ _ _ _ _ _ _ _ _ _ _ _ _ _ _ _ _ _ _ _ _ _ _ _ _ _ _ _ _ _ _ _ _ _ _ _ _ _ _ _ _ _ _ _ _ _ _ _ _ _ _ _ _ _ _ _ _ _ _ _ _ _ _ _ _ _ _ _ _ _ _ _ _ _ _ _ _ _ _ _ ?_
      exact ⟨D, F, by omega, HS1.out.drew.weak⟩
    · cases hg : D.gone with
      | true =>
        have hR := Rot_no3 o.slot o.at_ o.fill.toNat h (by omega) (by omega) hg HS1.out.drew.to2
        have hR2 := RRot_no3 o.slot o.at_ o.fill.toNat (by rw [D.ref_len]; exact h) (by omega) (by omega) (by simp [DiskM.ref, hg]) HS1.out.drew.to4
        clear h h2 hg
        go_wp2
        go_region_held3 (fun w' => w'.cell? ⟨ob, 1, none⟩ = some (.int .i64 o.slot) ∧ w'.cell? ⟨ob, 2, none⟩ = some (.int .i64 o.at_) ∧ w'.cell? ⟨ob, 4, none⟩ = some (.int .u8 o.fill.toNat))
          (first | exact ⟨HS1.out.drew.cell 1, HS1.out.drew.cell 2, HS1.out.drew.cell 4⟩)
          (first
            | (go_at_call 29; refine hR.mono ?_; rintro e w1 ⟨rfl, rfl⟩)
            | (go_at_call 30; refine hR2.mono ?_; rintro e w2 ⟨rfl, rfl⟩))
        go_wp2
        refine HQ.out _ _ _ _ _ _ _ _ _ _ _ _ _ _ _ _ _ _ _ _ _ _ _ _ _ _ _ _ _ _ _ _ _ _ _ _ _ _ _ _ _ _ _ _ _ _ _ _ _ _ _ _ _ _ _ _ _ _ _ _ _ _ _ _ _ _ _ _ _ _ _ _ _ _ _ _ _ _ _ _ _ _ _ _ _ _ _ _ _ _ _ _ _ _ _ _ _ _ _ _ _ _ _ _ _ _ _ _ _ _ _ _ _ _ _ _ _ _ _ _ _ _ _ _ _ _ _ _ _ ?_
        exact ⟨D, F, by omega, HS1.out.drew.weak⟩
      | false =>
        obtain ⟨s, hs⟩ : ∃ s : Nat, o.slot = s := ⟨o.slot.toNat, by omega⟩
        obtain ⟨t, ht⟩ : ∃ t : Nat, o.at_ = t := ⟨o.at_.toNat, by omega⟩
        have hR := Rot_yes s t o.fill (by omega) (by omega) hg (by omega) HS1.out.drew.to2
        have hrr := ref_rot D s t o.fill (by omega)
        have hR2 : ∀ (w2 : World) (X Y Z V : HP), Sat E w2 (X :: Y :: Z :: V :: RDiskP a2 (some ⟨b2, 0, none⟩) D.ref :: [OldP w w.heap.size]) → _ := fun w2 X Y Z V h' => RRot_yes s t o.fill (by rw [D.ref_len]; omega) (by omega) (by simp [DiskM.ref, hg]) (by rw [D.ref_wait]; omega) h'.to4
        rw [hrr] at hR2
        rw [← hs, ← ht] at hR
        rw [← hs, ← ht] at hR2
        have HP2 := Lib.hid (rot_pend D s t o.fill)
        clear h h2 hg hs ht hrr
        go_wp2
        go_region_held3 (fun w' => w'.cell? ⟨ob, 1, none⟩ = some (.int .i64 o.slot) ∧ w'.cell? ⟨ob, 2, none⟩ = some (.int .i64 o.at_) ∧ w'.cell? ⟨ob, 4, none⟩ = some (.int .u8 o.fill.toNat))
          (first | exact ⟨HS1.out.drew.cell 1, HS1.out.drew.cell 2, HS1.out.drew.cell 4⟩ | exact ⟨(HS2.out.to1).cell 1, (HS2.out.to1).cell 2, (HS2.out.to1).cell 4⟩ | exact ⟨(HS3.out.to2).cell 1, (HS3.out.to2).cell 2, (HS3.out.to2).cell 4⟩)
          (first
            | (go_at_call 29; refine hR.mono ?_; rintro e w1 ⟨rfl, hS2⟩; have HS2 := Lib.hid hS2; clear hS2)
            | (go_at_call 30; refine (hR2 _ _ _ _ _ HS2.out).mono ?_; rintro e w2 ⟨rfl, hS3⟩; have HS3 := Lib.hid hS3; clear hS3))
        go_wp2
        refine HQ.out _ _ _ _ _ _ _ _ _ _ _ _ _ _ _ _ _ _ _ _ _ _ _ _ _ _ _ _ _ _ _ _ _ _ _ _ _ _ _ _ _ _ _ _ _ _ _ _ _ _ _ _ _ _ _ _ _ _ _ _ _ _ _ _ _ _ _ _ _ _ _ _ _ _ _ _ _ _ _ _ _ _ _ _ _ _ _ _ _ _ _ _ _ _ _ _ _ _ _ _ _ _ _ _ _ _ _ _ _ _ _ _ _ _ _ _ _ _ _ _ _ _ _ _ _ _ _ _ _ ?_
        exact ⟨D.rot s t o.fill, F, by rw [HP2.out]; omega, HS3.out.pk 6 [3, 1, 4, 0, 5]⟩
  · have hR := Rot_no1 o.slot o.at_ o.fill.toNat h HS1.out.drew.to2
    have hR2 := RRot_no1 o.slot o.at_ o.fill.toNat (by rw [D.ref_len]; exact h) HS1.out.drew.to4
    clear h
    go_wp2
    go_region_held3 (fun w' => w'.cell? ⟨ob, 1, none⟩ = some (.int .i64 o.slot) ∧ w'.cell? ⟨ob, 2, none⟩ = some (.int .i64 o.at_) ∧ w'.cell? ⟨ob, 4, none⟩ = some (.int .u8 o.fill.toNat))
      (first | exact ⟨HS1.out.drew.cell 1, HS1.out.drew.cell 2, HS1.out.drew.cell 4⟩)
      (first
        | (go_at_call 29; refine hR.mono ?_; rintro e w1 ⟨rfl, rfl⟩)
        | (go_at_call 30; refine hR2.mono ?_; rintro e w2 ⟨rfl, rfl⟩))
    go_wp2
    refine HQ.out _ _ _ _ _ _ _ _ _ _ _ _ _ _ _ _ _ _ _ _ _ _ _ _ _ _ _ _ _ _ _ _ _ _ _ _ _ _ _ _ _ _ _ _ _ _ _ _ _ _ _ _ _ _ _ _ _ _ _ _ _ _ _ _ _ _ _ _ _ _ _ _ _ _ _ _ _ _ _ _ _ _ _ _ _ _ _ _ _ _ _ _ _ _ _ _ _ _ _ _ _ _ _ _ _ _ _ _ _ _ _ _ _ _ _ _ _ _ _ _ _ _ _ _ _ _ _ _ _ ?_
    exact ⟨D, F, by omega, HS1.out.drew.weak⟩

set_option maxHeartbeats 100000000 in
set_option maxRecDepth 100000 in
theorem sw_7 (w W : World) (E : Env) (b1 b2 a1 a2 ob i : Nat) (D : DiskM) (F : FuseM) (o : OpM) (bo : Option Addr) (bc : Nat) (hD : D.pend.length ≤ i) (hi60 : i < 60) (hrb : RB w bo o.b) (hon : o.n ≤ 9223372036854775807) (h200 : ¬ 200 < o.b.length) (hS1 : Sat E W (PT ob [.int .i64 o.kind, .int .i64 o.slot, .int .i64 o.at_, .int .i64 o.n, .int .u8 o.fill.toNat, .slice bo o.b.length bc] 39 :: Row w b1 b2 a1 a2 D F)) (k0 : ¬ o.kind = 0) (k1 : ¬ o.kind = 1) (k2 : ¬ o.kind = 2) (k3 : ¬ o.kind = 3) (k4 : ¬ o.kind = 4) (k5 : ¬ o.kind = 5) (k6 : ¬ o.kind = 6) (k7 : o.kind = 7) (Q : Exit → Act → World → Prop) (c0 c1 c2 c3 c4 c5 c6 c7 c12 c14 c15 c16 c17 c18 c19 c20 c21 c22 c23 c24 c25 c26 c27 c28 c29 c30 c31 c32 c33 c34 c35 c36 c37 c38 c39 c40 c41 c42 c43 c44 c45 c46 c47 c48 c49 c50 c51 c52 c53 c54 c55 c56 c57 c58 c59 c60 c61 c62 c63 c64 c65 c66 c67 c68 c69 c70 c71 c72 c73 c75 c76 c77 c78 c79 c80 c81 c82 c83 c84 c85 c86 c87 c88 c89 c90 c91 c92 c93 c94 c95 c96 c97 c98 c99 c100 c101 c102 c103 c104 c105 c106 c107 c108 c109 c110 c111 c112 c113 c114 c115 c116 c117 c118 c119 c120 c121 c122 c123 c124 c125 c126 c127 c128 c129 c130 c131 c132 c133 c134 c135 c136 c137 c138 c139 c140 c141 c142 c143 c144 c145 c146 c147 c148 c149 c150 c151 c152 c153 c154 c155 c156 c157 c158 c159 c160 c161 c162 c163 c164 c165 c166 c167 c168 c169 c170 c171 c172 c173 c174 c175 c176 c177 c178 c179 c180 c181 c182 c183 c184 c185 c186 c187 c188 c189 c190 c191 c192 c193 c194 c195 c196 c197 c198 c199 c200 c201 c202 c203 c204 c205 c206 c207 c208 c209 c210 c211 c212 c213 c214 c215 c216 c217 c218 c219 c220 c221 c222 c223 c224 c225 c226 c227 c228 c229 c230 c231 c232 c233 c234 c235 c236 c237 c238 c239 c240 c241 c242 c243 c244 c245 c246 c247 c248 c249 c250 c251 c252 c253 c254 c255 c256 c257 c258 c259 c260 c261 c262 c263 c264 c265 : Value)
    (hQ : ∀ (u6 u14 u15 u16 u17 u75 u76 u77 u78 u79 u80 u81 u82 u83 u84 u85 u86 u87 u88 u89 u90 u91 u92 u93 u94 u95 u96 u97 u98 u99 u100 u101 u102 u103 u104 u105 u106 u107 u108 u109 u110 u111 u112 u113 u114 u115 u116 u117 u118 u119 u120 u121 u122 u123 u124 u125 u126 u127 u128 u129 u130 u131 u132 u133 u134 u135 u136 u137 u138 u139 u140 u141 u142 u143 u144 u145 u146 u147 u148 u149 u150 u151 u152 u153 u154 u155 u156 u157 u158 u159 u160 u161 u162 u163 u164 u165 u166 u167 u168 u169 u170 u171 u172 u173 u174 u175 u176 u177 u178 u179 u180 u181 u182 u183 u184 u185 u186 u187 u188 u189 u190 u191 u192 u193 u194 u195 u196 u197 : Value) (wx : World), (∃ D' F', D'.pend.length ≤ i + 1 ∧ Sat E wx (Row w b1 b2 a1 a2 D' F')) → Q .normal ⟨#[c0, c1, c2, c3, c4, c5, u6, c7, .pointer (some ⟨b1, 0, none⟩), .pointer (some ⟨b2, 0, none⟩), .pointer (some ⟨a1, 0, none⟩), .pointer (some ⟨a2, 0, none⟩), c12, .pointer (some ⟨ob, 0, none⟩), u14, u15, u16, u17, c18, c19, c20, c21, c22, c23, c24, c25, c26, c27, c28, c29, c30, c31, c32, c33, c34, c35, c36, c37, c38, c39, c40, c41, c42, c43, c44, c45, c46, c47, c48, c49, c50, c51, c52, c53, c54, c55, c56, c57, c58, c59, c60, c61, c62, c63, c64, c65, c66, c67, c68, c69, c70, c71, c72, c73, .int .i64 o.kind, u75, u76, u77, u78, u79, u80, u81, u82, u83, u84, u85, u86, u87, u88, u89, u90, u91, u92, u93, u94, u95, u96, u97, u98, u99, u100, u101, u102, u103, u104, u105, u106, u107, u108, u109, u110, u111, u112, u113, u114, u115, u116, u117, u118, u119, u120, u121, u122, u123, u124, u125, u126, u127, u128, u129, u130, u131, u132, u133, u134, u135, u136, u137, u138, u139, u140, u141, u142, u143, u144, u145, u146, u147, u148, u149, u150, u151, u152, u153, u154, u155, u156, u157, u158, u159, u160, u161, u162, u163, u164, u165, u166, u167, u168, u169, u170, u171, u172, u173, u174, u175, u176, u177, u178, u179, u180, u181, u182, u183, u184, u185, u186, u187, u188, u189, u190, u191, u192, u193, u194, u195, u196, u197, c198, c199, c200, c201, c202, c203, c204, c205, c206, c207, c208, c209, c210, c211, c212, c213, c214, c215, c216, c217, c218, c219, c220, c221, c222, c223, c224, c225, c226, c227, c228, c229, c230, c231, c232, c233, c234, c235, c236, c237, c238, c239, c240, c241, c242, c243, c244, c245, c246, c247, c248, c249, c250, c251, c252, c253, c254, c255, c256, c257, c258, c259, c260, c261, c262, c263, c264, c265], []⟩ wx) :
    Code.wp Try.prog swC Q ⟨#[c0, c1, c2, c3, c4, c5, c6, c7, .pointer (some ⟨b1, 0, none⟩), .pointer (some ⟨b2, 0, none⟩), .pointer (some ⟨a1, 0, none⟩), .pointer (some ⟨a2, 0, none⟩), c12, .pointer (some ⟨ob, 0, none⟩), c14, c15, c16, c17, c18, c19, c20, c21, c22, c23, c24, c25, c26, c27, c28, c29, c30, c31, c32, c33, c34, c35, c36, c37, c38, c39, c40, c41, c42, c43, c44, c45, c46, c47, c48, c49, c50, c51, c52, c53, c54, c55, c56, c57, c58, c59, c60, c61, c62, c63, c64, c65, c66, c67, c68, c69, c70, c71, c72, c73, .int .i64 o.kind, c75, c76, c77, c78, c79, c80, c81, c82, c83, c84, c85, c86, c87, c88, c89, c90, c91, c92, c93, c94, c95, c96, c97, c98, c99, c100, c101, c102, c103, c104, c105, c106, c107, c108, c109, c110, c111, c112, c113, c114, c115, c116, c117, c118, c119, c120, c121, c122, c123, c124, c125, c126, c127, c128, c129, c130, c131, c132, c133, c134, c135, c136, c137, c138, c139, c140, c141, c142, c143, c144, c145, c146, c147, c148, c149, c150, c151, c152, c153, c154, c155, c156, c157, c158, c159, c160, c161, c162, c163, c164, c165, c166, c167, c168, c169, c170, c171, c172, c173, c174, c175, c176, c177, c178, c179, c180, c181, c182, c183, c184, c185, c186, c187, c188, c189, c190, c191, c192, c193, c194, c195, c196, c197, c198, c199, c200, c201, c202, c203, c204, c205, c206, c207, c208, c209, c210, c211, c212, c213, c214, c215, c216, c217, c218, c219, c220, c221, c222, c223, c224, c225, c226, c227, c228, c229, c230, c231, c232, c233, c234, c235, c236, c237, c238, c239, c240, c241, c242, c243, c244, c245, c246, c247, c248, c249, c250, c251, c252, c253, c254, c255, c256, c257, c258, c259, c260, c261, c262, c263, c264, c265], []⟩ W := by
  have HQ := Lib.hid hQ
  have HRB := Lib.hid hrb
  have HON := Lib.hid hon
  have n1 := hS1.cell 1
  have n2 := hS1.cell 2
  have n3 := hS1.cell 3
  have n4 := hS1.cell 4
  have n5 := hS1.cell 5
  have ln := hS1.lt
  simp only [List.getElem?_cons_zero, List.getElem?_cons_succ] at n1 n2 n3 n4 n5
  have HS1 := Lib.hid hS1
  clear hS1 hrb hon hQ
  conv => arg 2; whnf
  have q0 : (o.kind == 0) = false := by simpa using k0
  have q1 : (o.kind == 1) = false := by simpa using k1
  have q2 : (o.kind == 2) = false := by simpa using k2
  have q3 : (o.kind == 3) = false := by simpa using k3
  have q4 : (o.kind == 4) = false := by simpa using k4
  have q5 : (o.kind == 5) = false := by simpa using k5
  have q6 : (o.kind == 6) = false := by simpa using k6
  have q7 : (o.kind == 7) = true := by simpa using k7
  clear k0 k1 k2 k3 k4 k5 k6 k7
  go_wp2_with (first
    | (go_at_call 33; refine (Set_ok b1 F o.n HON.out HS1.out.to1).mono ?_; rintro e w1 ⟨rfl, hS2⟩; have m3 := (hS2.to1).cell 3; simp only [List.getElem?_cons_zero, List.getElem?_cons_succ] at m3; have HS2 := Lib.hid hS2; clear hS2)
    | (go_at_call 14; refine (RNewFuse_ok o.n HON.out HS2.out).mono ?_; rintro e w2 ⟨c, rfl, hS3⟩; obtain ⟨r1, r2, r3, r4, r5, r6, r7, r8⟩ := Row.set hS3; have HS3 := Lib.hid r8; clear hS3 r8))
  refine HQ.out _ _ _ _ _ _ _ _ _ _ _ _ _ _ _ _ _ _ _ _ _ _ _ _ _ _ _ _ _ _ _ _ _ _ _ _ _ _ _ _ _ _ _ _ _ _ _ _ _ _ _ _ _ _ _ _ _ _ _ _ _ _ _ _ _ _ _ _ _ _ _ _ _ _ _ _ _ _ _ _ _ _ _ _ _ _ _ _ _ _ _ _ _ _ _ _ _ _ _ _ _ _ _ _ _ _ _ _ _ _ _ _ _ _ _ _ _ _ _ _ _ _ _ _ _ _ _ _ _ ?_
  exact ⟨D, .mk' o.n, by omega, HS3.out⟩

set_option maxHeartbeats 100000000 in
set_option maxRecDepth 100000 in
theorem sw_8 (w W : World) (E : Env) (b1 b2 a1 a2 ob i : Nat) (D : DiskM) (F : FuseM) (o : OpM) (bo : Option Addr) (bc : Nat) (hD : D.pend.length ≤ i) (hi60 : i < 60) (hrb : RB w bo o.b) (hon : o.n ≤ 9223372036854775807) (h200 : ¬ 200 < o.b.length) (hS1 : Sat E W (PT ob [.int .i64 o.kind, .int .i64 o.slot, .int .i64 o.at_, .int .i64 o.n, .int .u8 o.fill.toNat, .slice bo o.b.length bc] 39 :: Row w b1 b2 a1 a2 D F)) (k0 : ¬ o.kind = 0) (k1 : ¬ o.kind = 1) (k2 : ¬ o.kind = 2) (k3 : ¬ o.kind = 3) (k4 : ¬ o.kind = 4) (k5 : ¬ o.kind = 5) (k6 : ¬ o.kind = 6) (k7 : ¬ o.kind = 7) (Q : Exit → Act → World → Prop) (c0 c1 c2 c3 c4 c5 c6 c7 c12 c14 c15 c16 c17 c18 c19 c20 c21 c22 c23 c24 c25 c26 c27 c28 c29 c30 c31 c32 c33 c34 c35 c36 c37 c38 c39 c40 c41 c42 c43 c44 c45 c46 c47 c48 c49 c50 c51 c52 c53 c54 c55 c56 c57 c58 c59 c60 c61 c62 c63 c64 c65 c66 c67 c68 c69 c70 c71 c72 c73 c75 c76 c77 c78 c79 c80 c81 c82 c83 c84 c85 c86 c87 c88 c89 c90 c91 c92 c93 c94 c95 c96 c97 c98 c99 c100 c101 c102 c103 c104 c105 c106 c107 c108 c109 c110 c111 c112 c113 c114 c115 c116 c117 c118 c119 c120 c121 c122 c123 c124 c125 c126 c127 c128 c129 c130 c131 c132 c133 c134 c135 c136 c137 c138 c139 c140 c141 c142 c143 c144 c145 c146 c147 c148 c149 c150 c151 c152 c153 c154 c155 c156 c157 c158 c159 c160 c161 c162 c163 c164 c165 c166 c167 c168 c169 c170 c171 c172 c173 c174 c175 c176 c177 c178 c179 c180 c181 c182 c183 c184 c185 c186 c187 c188 c189 c190 c191 c192 c193 c194 c195 c196 c197 c198 c199 c200 c201 c202 c203 c204 c205 c206 c207 c208 c209 c210 c211 c212 c213 c214 c215 c216 c217 c218 c219 c220 c221 c222 c223 c224 c225 c226 c227 c228 c229 c230 c231 c232 c233 c234 c235 c236 c237 c238 c239 c240 c241 c242 c243 c244 c245 c246 c247 c248 c249 c250 c251 c252 c253 c254 c255 c256 c257 c258 c259 c260 c261 c262 c263 c264 c265 : Value)
    (hQ : ∀ (u6 u14 u15 u16 u17 u75 u76 u77 u78 u79 u80 u81 u82 u83 u84 u85 u86 u87 u88 u89 u90 u91 u92 u93 u94 u95 u96 u97 u98 u99 u100 u101 u102 u103 u104 u105 u106 u107 u108 u109 u110 u111 u112 u113 u114 u115 u116 u117 u118 u119 u120 u121 u122 u123 u124 u125 u126 u127 u128 u129 u130 u131 u132 u133 u134 u135 u136 u137 u138 u139 u140 u141 u142 u143 u144 u145 u146 u147 u148 u149 u150 u151 u152 u153 u154 u155 u156 u157 u158 u159 u160 u161 u162 u163 u164 u165 u166 u167 u168 u169 u170 u171 u172 u173 u174 u175 u176 u177 u178 u179 u180 u181 u182 u183 u184 u185 u186 u187 u188 u189 u190 u191 u192 u193 u194 u195 u196 u197 : Value) (wx : World), (∃ D' F', D'.pend.length ≤ i + 1 ∧ Sat E wx (Row w b1 b2 a1 a2 D' F')) → Q .normal ⟨#[c0, c1, c2, c3, c4, c5, u6, c7, .pointer (some ⟨b1, 0, none⟩), .pointer (some ⟨b2, 0, none⟩), .pointer (some ⟨a1, 0, none⟩), .pointer (some ⟨a2, 0, none⟩), c12, .pointer (some ⟨ob, 0, none⟩), u14, u15, u16, u17, c18, c19, c20, c21, c22, c23, c24, c25, c26, c27, c28, c29, c30, c31, c32, c33, c34, c35, c36, c37, c38, c39, c40, c41, c42, c43, c44, c45, c46, c47, c48, c49, c50, c51, c52, c53, c54, c55, c56, c57, c58, c59, c60, c61, c62, c63, c64, c65, c66, c67, c68, c69, c70, c71, c72, c73, .int .i64 o.kind, u75, u76, u77, u78, u79, u80, u81, u82, u83, u84, u85, u86, u87, u88, u89, u90, u91, u92, u93, u94, u95, u96, u97, u98, u99, u100, u101, u102, u103, u104, u105, u106, u107, u108, u109, u110, u111, u112, u113, u114, u115, u116, u117, u118, u119, u120, u121, u122, u123, u124, u125, u126, u127, u128, u129, u130, u131, u132, u133, u134, u135, u136, u137, u138, u139, u140, u141, u142, u143, u144, u145, u146, u147, u148, u149, u150, u151, u152, u153, u154, u155, u156, u157, u158, u159, u160, u161, u162, u163, u164, u165, u166, u167, u168, u169, u170, u171, u172, u173, u174, u175, u176, u177, u178, u179, u180, u181, u182, u183, u184, u185, u186, u187, u188, u189, u190, u191, u192, u193, u194, u195, u196, u197, c198, c199, c200, c201, c202, c203, c204, c205, c206, c207, c208, c209, c210, c211, c212, c213, c214, c215, c216, c217, c218, c219, c220, c221, c222, c223, c224, c225, c226, c227, c228, c229, c230, c231, c232, c233, c234, c235, c236, c237, c238, c239, c240, c241, c242, c243, c244, c245, c246, c247, c248, c249, c250, c251, c252, c253, c254, c255, c256, c257, c258, c259, c260, c261, c262, c263, c264, c265], []⟩ wx) :
    Code.wp Try.prog swC Q ⟨#[c0, c1, c2, c3, c4, c5, c6, c7, .pointer (some ⟨b1, 0, none⟩), .pointer (some ⟨b2, 0, none⟩), .pointer (some ⟨a1, 0, none⟩), .pointer (some ⟨a2, 0, none⟩), c12, .pointer (some ⟨ob, 0, none⟩), c14, c15, c16, c17, c18, c19, c20, c21, c22, c23, c24, c25, c26, c27, c28, c29, c30, c31, c32, c33, c34, c35, c36, c37, c38, c39, c40, c41, c42, c43, c44, c45, c46, c47, c48, c49, c50, c51, c52, c53, c54, c55, c56, c57, c58, c59, c60, c61, c62, c63, c64, c65, c66, c67, c68, c69, c70, c71, c72, c73, .int .i64 o.kind, c75, c76, c77, c78, c79, c80, c81, c82, c83, c84, c85, c86, c87, c88, c89, c90, c91, c92, c93, c94, c95, c96, c97, c98, c99, c100, c101, c102, c103, c104, c105, c106, c107, c108, c109, c110, c111, c112, c113, c114, c115, c116, c117, c118, c119, c120, c121, c122, c123, c124, c125, c126, c127, c128, c129, c130, c131, c132, c133, c134, c135, c136, c137, c138, c139, c140, c141, c142, c143, c144, c145, c146, c147, c148, c149, c150, c151, c152, c153, c154, c155, c156, c157, c158, c159, c160, c161, c162, c163, c164, c165, c166, c167, c168, c169, c170, c171, c172, c173, c174, c175, c176, c177, c178, c179, c180, c181, c182, c183, c184, c185, c186, c187, c188, c189, c190, c191, c192, c193, c194, c195, c196, c197, c198, c199, c200, c201, c202, c203, c204, c205, c206, c207, c208, c209, c210, c211, c212, c213, c214, c215, c216, c217, c218, c219, c220, c221, c222, c223, c224, c225, c226, c227, c228, c229, c230, c231, c232, c233, c234, c235, c236, c237, c238, c239, c240, c241, c242, c243, c244, c245, c246, c247, c248, c249, c250, c251, c252, c253, c254, c255, c256, c257, c258, c259, c260, c261, c262, c263, c264, c265], []⟩ W := by
  have HQ := Lib.hid hQ
  have HRB := Lib.hid hrb
  have HON := Lib.hid hon
  have n1 := hS1.cell 1
  have n2 := hS1.cell 2
  have n3 := hS1.cell 3
  have n4 := hS1.cell 4
  have n5 := hS1.cell 5
  have ln := hS1.lt
  simp only [List.getElem?_cons_zero, List.getElem?_cons_succ] at n1 n2 n3 n4 n5
  have HS1 := Lib.hid hS1
  clear hS1 hrb hon hQ
  conv => arg 2; whnf
  have q0 : (o.kind == 0) = false := by simpa using k0
  have q1 : (o.kind == 1) = false := by simpa using k1
  have q2 : (o.kind == 2) = false := by simpa using k2
  have q3 : (o.kind == 3) = false := by simpa using k3
  have q4 : (o.kind == 4) = false := by simpa using k4
  have q5 : (o.kind == 5) = false := by simpa using k5
  have q6 : (o.kind == 6) = false := by simpa using k6
  have q7 : (o.kind == 7) = false := by simpa using k7
  clear k0 k1 k2 k3 k4 k5 k6 k7
  have hw := ref_write D F o.slot o.b
  have hcv : ∀ (w' : World) (l' : List HP) (k : Nat), l'[k]? = some (OldP w w.heap.size) → Sat E w' l' → (convert 37 9 (.slice bo o.b.length bc)).run Try.prog w' = .ok (SV o.b) w' := fun w' l' k hk h' => run_string_of (P := Try.prog) 37 9 Try.underlying37 Try.underlying5 Try.underlying9 bo bc o.b (Rd.old hk HRB.out w' h')
  have HCV := Lib.hid hcv
  clear hcv
  go_wp2
  go_region_held3 (fun w' => (w'.cell? ⟨ob, 1, none⟩ = some (.int .i64 o.slot) ∧ w'.cell? ⟨ob, 5, none⟩ = some (.slice bo o.b.length bc)) ∧ (convert 37 9 (.slice bo o.b.length bc)).run Try.prog w' = .ok (SV o.b) w')
    (first | exact ⟨⟨HS1.out.drew.cell 1, HS1.out.drew.cell 5⟩, HCV.out _ _ 5 rfl HS1.out.drew⟩ | exact ⟨⟨(HS2.out.to2).cell 1, (HS2.out.to2).cell 5⟩, HCV.out _ _ 5 rfl HS2.out⟩ | exact ⟨⟨(HS3.out.to4).cell 1, (HS3.out.to4).cell 5⟩, HCV.out _ _ 5 rfl HS3.out⟩)
    (first
      | (go_at_call 19; refine (Write_ok o.slot bo bc o.b (by omega) (Rd.old (k := 3) rfl HRB.out) (HS1.out.drew.pk 6 [1, 2, 0, 3, 4, 5])).mono ?_; rintro e w1 ⟨rfl, hS2⟩; have HS2 := Lib.hid hS2; clear hS2)
      | (go_at_call 21; refine (RWrite_ok o.slot o.b (by rw [D.ref_wait]; omega) (.inr ⟨b2, rfl⟩) (HS2.out.pk 6 [3, 4, 0, 1, 2, 5])).mono ?_; rintro e w2 ⟨rfl, hS3⟩; rw [hw] at hS3 ⊢; have HS3 := Lib.hid hS3; clear hS3))
  go_wp2
  refine HQ.out _ _ _ _ _ _ _ _ _ _ _ _ _ _ _ _ _ _ _ _ _ _ _ _ _ _ _ _ _ _ _ _ _ _ _ _ _ _ _ _ _ _ _ _ _ _ _ _ _ _ _ _ _ _ _ _ _ _ _ _ _ _ _ _ _ _ _ _ _ _ _ _ _ _ _ _ _ _ _ _ _ _ _ _ _ _ _ _ _ _ _ _ _ _ _ _ _ _ _ _ _ _ _ _ _ _ _ _ _ _ _ _ _ _ _ _ _ _ _ _ _ _ _ _ _ _ _ _ _ ?_
  exact ⟨(D.write F o.slot o.b).2.1, (D.write F o.slot o.b).2.2, by have := write_pend D F o.slot o.b; omega, HS3.out.pk 6 [2, 3, 0, 1, 5]⟩

end Go.Proofs.Ytpfhfeccdhmgiaa
