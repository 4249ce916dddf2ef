/- What is proved here: lemmas and contracts on the way to this seat's laws, part 'DSw1'; no condition. -/
import Derived.Test.YtpfhfeccdhmgiaaDCut
import Derived.Deep.QuietTactic
import Derived.BigQuiet
/- The law of disks: its walk, in parts: a read. -/
namespace Go.Proofs.Ytpfhfeccdhmgiaa
open Go.RowKit

set_option maxHeartbeats 100000000 in
set_option maxRecDepth 100000 in
theorem sw_1 (w W : World) (E : Env) (b1 b2 a1 a2 ob i : Nat) (D : DiskM) (F : FuseM) (o : OpM) (bo : Option Addr) (bc : Nat) (hD : D.pend.length ≤ i) (hi60 : i < 60) (hrb : RB w bo o.b) (hon : o.n ≤ 9223372036854775807) (h200 : ¬ 200 < o.b.length) (hS1 : Sat E W (PT ob [.int .i64 o.kind, .int .i64 o.slot, .int .i64 o.at_, .int .i64 o.n, .int .u8 o.fill.toNat, .slice bo o.b.length bc] 39 :: Row w b1 b2 a1 a2 D F)) (k0 : ¬ o.kind = 0) (k1 : o.kind = 1) (Q : Exit → Act → World → Prop) (c0 c1 c2 c3 c4 c5 c6 c7 c12 c14 c15 c16 c17 c18 c19 c20 c21 c22 c23 c24 c25 c26 c27 c28 c29 c30 c31 c32 c33 c34 c35 c36 c37 c38 c39 c40 c41 c42 c43 c44 c45 c46 c47 c48 c49 c50 c51 c52 c53 c54 c55 c56 c57 c58 c59 c60 c61 c62 c63 c64 c65 c66 c67 c68 c69 c70 c71 c72 c73 c75 c76 c77 c78 c79 c80 c81 c82 c83 c84 c85 c86 c87 c88 c89 c90 c91 c92 c93 c94 c95 c96 c97 c98 c99 c100 c101 c102 c103 c104 c105 c106 c107 c108 c109 c110 c111 c112 c113 c114 c115 c116 c117 c118 c119 c120 c121 c122 c123 c124 c125 c126 c127 c128 c129 c130 c131 c132 c133 c134 c135 c136 c137 c138 c139 c140 c141 c142 c143 c144 c145 c146 c147 c148 c149 c150 c151 c152 c153 c154 c155 c156 c157 c158 c159 c160 c161 c162 c163 c164 c165 c166 c167 c168 c169 c170 c171 c172 c173 c174 c175 c176 c177 c178 c179 c180 c181 c182 c183 c184 c185 c186 c187 c188 c189 c190 c191 c192 c193 c194 c195 c196 c197 c198 c199 c200 c201 c202 c203 c204 c205 c206 c207 c208 c209 c210 c211 c212 c213 c214 c215 c216 c217 c218 c219 c220 c221 c222 c223 c224 c225 c226 c227 c228 c229 c230 c231 c232 c233 c234 c235 c236 c237 c238 c239 c240 c241 c242 c243 c244 c245 c246 c247 c248 c249 c250 c251 c252 c253 c254 c255 c256 c257 c258 c259 c260 c261 c262 c263 c264 c265 : Value)
    (hQ : ∀ (u6 u14 u15 u16 u17 u75 u76 u77 u78 u79 u80 u81 u82 u83 u84 u85 u86 u87 u88 u89 u90 u91 u92 u93 u94 u95 u96 u97 u98 u99 u100 u101 u102 u103 u104 u105 u106 u107 u108 u109 u110 u111 u112 u113 u114 u115 u116 u117 u118 u119 u120 u121 u122 u123 u124 u125 u126 u127 u128 u129 u130 u131 u132 u133 u134 u135 u136 u137 u138 u139 u140 u141 u142 u143 u144 u145 u146 u147 u148 u149 u150 u151 u152 u153 u154 u155 u156 u157 u158 u159 u160 u161 u162 u163 u164 u165 u166 u167 u168 u169 u170 u171 u172 u173 u174 u175 u176 u177 u178 u179 u180 u181 u182 u183 u184 u185 u186 u187 u188 u189 u190 u191 u192 u193 u194 u195 u196 u197 : Value) (wx : World), (∃ D' F', D'.pend.length ≤ i + 1 ∧ Sat E wx (Row w b1 b2 a1 a2 D' F')) → Q .normal ⟨#[c0, c1, c2, c3, c4, c5, u6, c7, .pointer (some ⟨b1, 0, none⟩), .pointer (some ⟨b2, 0, none⟩), .pointer (some ⟨a1, 0, none⟩), .pointer (some ⟨a2, 0, none⟩), c12, .pointer (some ⟨ob, 0, none⟩), u14, u15, u16, u17, c18, c19, c20, c21, c22, c23, c24, c25, c26, c27, c28, c29, c30, c31, c32, c33, c34, c35, c36, c37, c38, c39, c40, c41, c42, c43, c44, c45, c46, c47, c48, c49, c50, c51, c52, c53, c54, c55, c56, c57, c58, c59, c60, c61, c62, c63, c64, c65, c66, c67, c68, c69, c70, c71, c72, c73, .int .i64 o.kind, u75, u76, u77, u78, u79, u80, u81, u82, u83, u84, u85, u86, u87, u88, u89, u90, u91, u92, u93, u94, u95, u96, u97, u98, u99, u100, u101, u102, u103, u104, u105, u106, u107, u108, u109, u110, u111, u112, u113, u114, u115, u116, u117, u118, u119, u120, u121, u122, u123, u124, u125, u126, u127, u128, u129, u130, u131, u132, u133, u134, u135, u136, u137, u138, u139, u140, u141, u142, u143, u144, u145, u146, u147, u148, u149, u150, u151, u152, u153, u154, u155, u156, u157, u158, u159, u160, u161, u162, u163, u164, u165, u166, u167, u168, u169, u170, u171, u172, u173, u174, u175, u176, u177, u178, u179, u180, u181, u182, u183, u184, u185, u186, u187, u188, u189, u190, u191, u192, u193, u194, u195, u196, u197, c198, c199, c200, c201, c202, c203, c204, c205, c206, c207, c208, c209, c210, c211, c212, c213, c214, c215, c216, c217, c218, c219, c220, c221, c222, c223, c224, c225, c226, c227, c228, c229, c230, c231, c232, c233, c234, c235, c236, c237, c238, c239, c240, c241, c242, c243, c244, c245, c246, c247, c248, c249, c250, c251, c252, c253, c254, c255, c256, c257, c258, c259, c260, c261, c262, c263, c264, c265], []⟩ wx) :
    Code.wp Try.prog swC Q ⟨#[c0, c1, c2, c3, c4, c5, c6, c7, .pointer (some ⟨b1, 0, none⟩), .pointer (some ⟨b2, 0, none⟩), .pointer (some ⟨a1, 0, none⟩), .pointer (some ⟨a2, 0, none⟩), c12, .pointer (some ⟨ob, 0, none⟩), c14, c15, c16, c17, c18, c19, c20, c21, c22, c23, c24, c25, c26, c27, c28, c29, c30, c31, c32, c33, c34, c35, c36, c37, c38, c39, c40, c41, c42, c43, c44, c45, c46, c47, c48, c49, c50, c51, c52, c53, c54, c55, c56, c57, c58, c59, c60, c61, c62, c63, c64, c65, c66, c67, c68, c69, c70, c71, c72, c73, .int .i64 o.kind, c75, c76, c77, c78, c79, c80, c81, c82, c83, c84, c85, c86, c87, c88, c89, c90, c91, c92, c93, c94, c95, c96, c97, c98, c99, c100, c101, c102, c103, c104, c105, c106, c107, c108, c109, c110, c111, c112, c113, c114, c115, c116, c117, c118, c119, c120, c121, c122, c123, c124, c125, c126, c127, c128, c129, c130, c131, c132, c133, c134, c135, c136, c137, c138, c139, c140, c141, c142, c143, c144, c145, c146, c147, c148, c149, c150, c151, c152, c153, c154, c155, c156, c157, c158, c159, c160, c161, c162, c163, c164, c165, c166, c167, c168, c169, c170, c171, c172, c173, c174, c175, c176, c177, c178, c179, c180, c181, c182, c183, c184, c185, c186, c187, c188, c189, c190, c191, c192, c193, c194, c195, c196, c197, c198, c199, c200, c201, c202, c203, c204, c205, c206, c207, c208, c209, c210, c211, c212, c213, c214, c215, c216, c217, c218, c219, c220, c221, c222, c223, c224, c225, c226, c227, c228, c229, c230, c231, c232, c233, c234, c235, c236, c237, c238, c239, c240, c241, c242, c243, c244, c245, c246, c247, c248, c249, c250, c251, c252, c253, c254, c255, c256, c257, c258, c259, c260, c261, c262, c263, c264, c265], []⟩ W := by
  have HQ := Lib.hid hQ
  have HRB := Lib.hid hrb
  have HON := Lib.hid hon
  have n1 := hS1.cell 1
  have n2 := hS1.cell 2
  have n3 := hS1.cell 3
  have n4 := hS1.cell 4
  have n5 := hS1.cell 5
  have ln := hS1.lt
  simp only [List.getElem?_cons_zero, List.getElem?_cons_succ] at n1 n2 n3 n4 n5
  have HS1 := Lib.hid hS1
  clear hS1 hrb hon hQ
  conv => arg 2; whnf
  have q0 : (o.kind == 0) = false := by simpa using k0
  have q1 : (o.kind == 1) = true := by simpa using k1
  clear k0 k1
  by_cases h : 0 ≤ o.slot ∧ o.slot < D.slots.length
  · obtain ⟨s, hs⟩ : ∃ s : Nat, o.slot = s := ⟨o.slot.toNat, by omega⟩
    have hs2 : s < D.slots.length := by omega
    cases hg : D.gone with
    | false =>
      have hr : D.ref.read o.slot = (D.now s, 0) := by
        unfold RDiskM.read
        rw [D.ref_len, if_neg (by simpa using h), show D.ref.live = true from by simp [DiskM.ref, hg]]
        simp only [Bool.not_true, Bool.false_eq_true, if_false, hs, Int.toNat_natCast]
        rw [ref_now D s hs2]
      have hR := Read_yes s hs2 hg (by omega) HS1.out.to2
      rw [← hs] at hR
      have HH := Lib.hid (And.intro h (And.intro hs (And.intro hs2 hg)))
      clear h hs hs2 hg
      go_wp2_with (first
        | (go_at_call 22; refine hR.mono ?_; rintro e w1 ⟨g1, c1, rfl, hS2⟩; have m1 := (hS2.to2).cell 1; have ln1 := (hS2.to2).lt; have hcv := run_string_of (P := Try.prog) 37 9 Try.underlying37 Try.underlying5 Try.underlying9 (some ⟨g1, 0, none⟩) c1 (D.now s) (RB.ofBytes hS2); rw [show (D.now s).length = 96 from now_len (DiskP.okOf HS1.out.to2) HH.out.2.2.1] at hcv; simp only [List.getElem?_cons_zero, List.getElem?_cons_succ] at m1; have HS2 := Lib.hid hS2; clear hS2 hR)
        | (go_at_call 23; refine (RRead_ok o.slot (HS2.out.to5)).mono ?_; rintro e w2 ⟨rfl, rfl⟩; rw [hr]))
      refine HQ.out _ _ _ _ _ _ _ _ _ _ _ _ _ _ _ _ _ _ _ _ _ _ _ _ _ _ _ _ _ _ _ _ _ _ _ _ _ _ _ _ _ _ _ _ _ _ _ _ _ _ _ _ _ _ _ _ _ _ _ _ _ _ _ _ _ _ _ _ _ _ _ _ _ _ _ _ _ _ _ _ _ _ _ _ _ _ _ _ _ _ _ _ _ _ _ _ _ _ _ _ _ _ _ _ _ _ _ _ _ _ _ _ _ _ _ _ _ _ _ _ _ _ _ _ _ _ _ _ _ ?_
      exact ⟨D, F, by omega, HS2.out.pk 7 [3, 1, 4, 5, 6]⟩
    | true =>
      have hr : D.ref.read o.slot = ([], 5) := by
        unfold RDiskM.read
        rw [D.ref_len, if_neg (by simpa using h), show D.ref.live = false from by simp [DiskM.ref, hg]]
        rfl
      have hR := Read_gone o.slot h hg HS1.out.to2
      have hcv := run_string_of (P := Try.prog) (w := W) 37 9 Try.underlying37 Try.underlying5 Try.underlying9 none 0 [] ⟨fun _ => rfl, fun ad e => by cases e⟩
      rw [List.length_nil] at hcv
      clear h hs hs2 hg
      go_wp2_with (first
        | (go_at_call 22; refine hR.mono ?_; rintro e w1 ⟨rfl, rfl⟩; clear hR)
        | (go_at_call 23; refine (RRead_ok o.slot (HS1.out.to4)).mono ?_; rintro e w2 ⟨rfl, rfl⟩; rw [hr]))
      refine HQ.out _ _ _ _ _ _ _ _ _ _ _ _ _ _ _ _ _ _ _ _ _ _ _ _ _ _ _ _ _ _ _ _ _ _ _ _ _ _ _ _ _ _ _ _ _ _ _ _ _ _ _ _ _ _ _ _ _ _ _ _ _ _ _ _ _ _ _ _ _ _ _ _ _ _ _ _ _ _ _ _ _ _ _ _ _ _ _ _ _ _ _ _ _ _ _ _ _ _ _ _ _ _ _ _ _ _ _ _ _ _ _ _ _ _ _ _ _ _ _ _ _ _ _ _ _ _ _ _ _ ?_
      exact ⟨D, F, by omega, HS1.out.weak⟩
  · have hr : D.ref.read o.slot = ([], 1) := by
      unfold RDiskM.read
      rw [D.ref_len, if_pos h]
    have hR := Read_no o.slot h HS1.out.to2
    have hcv := run_string_of (P := Try.prog) (w := W) 37 9 Try.underlying37 Try.underlying5 Try.underlying9 none 0 [] ⟨fun _ => rfl, fun ad e => by cases e⟩
    rw [List.length_nil] at hcv
    clear h
    go_wp2_with (first
      | (go_at_call 22; refine hR.mono ?_; rintro e w1 ⟨rfl, rfl⟩; clear hR)
      | (go_at_call 23; refine (RRead_ok o.slot (HS1.out.to4)).mono ?_; rintro e w2 ⟨rfl, rfl⟩; rw [hr]))
    refine HQ.out _ _ _ _ _ _ _ _ _ _ _ _ _ _ _ _ _ _ _ _ _ _ _ _ _ _ _ _ _ _ _ _ _ _ _ _ _ _ _ _ _ _ _ _ _ _ _ _ _ _ _ _ _ _ _ _ _ _ _ _ _ _ _ _ _ _ _ _ _ _ _ _ _ _ _ _ _ _ _ _ _ _ _ _ _ _ _ _ _ _ _ _ _ _ _ _ _ _ _ _ _ _ _ _ _ _ _ _ _ _ _ _ _ _ _ _ _ _ _ _ _ _ _ _ _ _ _ _ _ ?_
    exact ⟨D, F, by omega, HS1.out.weak⟩

end Go.Proofs.Ytpfhfeccdhmgiaa
