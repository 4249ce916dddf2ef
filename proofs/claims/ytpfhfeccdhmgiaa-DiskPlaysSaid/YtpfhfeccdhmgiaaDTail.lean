/- What is proved here: lemmas and contracts on the way to this seat's laws, part 'DTail'; no condition. -/
import Derived.Test.YtpfhfeccdhmgiaaDCut
import Derived.Deep.QuietTactic
import Derived.BigQuiet
/- The law of disks: its walk, in parts: what stands behind a call. -/
namespace Go.Proofs.Ytpfhfeccdhmgiaa
open Go.RowKit

set_option maxHeartbeats 100000000 in
set_option maxRecDepth 100000 in
theorem sw_tail (w wc : World) (E : Env) (b1 b2 a1 a2 i : Nat) (Q : Exit → Act → World → Prop) (c0 c1 c2 c3 c4 c5 c6 c7 c12 c13 c14 c15 c16 c17 c18 c19 c20 c21 c22 c23 c24 c25 c26 c27 c28 c29 c30 c31 c32 c33 c34 c35 c36 c37 c38 c39 c40 c41 c42 c43 c44 c45 c46 c47 c48 c49 c50 c51 c52 c53 c54 c55 c56 c57 c58 c59 c60 c61 c62 c63 c64 c65 c66 c67 c68 c69 c70 c71 c72 c73 c74 c75 c76 c77 c78 c79 c80 c81 c82 c83 c84 c85 c86 c87 c88 c89 c90 c91 c92 c93 c94 c95 c96 c97 c98 c99 c100 c101 c102 c103 c104 c105 c106 c107 c108 c109 c110 c111 c112 c113 c114 c115 c116 c117 c118 c119 c120 c121 c122 c123 c124 c125 c126 c127 c128 c129 c130 c131 c132 c133 c134 c135 c136 c137 c138 c139 c140 c141 c142 c143 c144 c145 c146 c147 c148 c149 c150 c151 c152 c153 c154 c155 c156 c157 c158 c159 c160 c161 c162 c163 c164 c165 c166 c167 c168 c169 c170 c171 c172 c173 c174 c175 c176 c177 c178 c179 c180 c181 c182 c183 c184 c185 c186 c187 c188 c189 c190 c191 c192 c193 c194 c195 c196 c197 c198 c199 c200 c201 c202 c203 c204 c205 c206 c207 c208 c209 c210 c211 c212 c213 c214 c215 c216 c217 c218 c219 c220 c221 c222 c223 c224 c225 c226 c227 c228 c229 c230 c231 c232 c233 c234 c235 c236 c237 c238 c239 c240 c241 c242 c243 c244 c245 c246 c247 c248 c249 c250 c251 c252 c253 c254 c255 c256 c257 c258 c259 c260 c261 c262 c263 c264 c265 : Value) (hcut : ∃ D' F', D'.pend.length ≤ i + 1 ∧ Sat E wc (Row w b1 b2 a1 a2 D' F')) (hi60 : i < 60)
    (hQ : ∀ (u6 u18 u19 u20 u198 u199 u200 u201 u202 u203 u204 u205 u206 u207 u208 u209 u210 u211 u212 u213 u214 u215 u216 u217 u218 u219 u220 u221 u222 u223 u224 u225 u226 u227 u228 u229 u230 u231 u232 u233 u234 u235 u236 u237 u238 u239 u240 u241 u242 u243 u244 u245 u246 u247 u248 u249 u250 u251 u252 u253 u254 u255 u256 u257 u258 u259 u260 u261 u262 : Value) (wx : World), (∃ D' F', D'.pend.length ≤ i + 1 ∧ Sat E wx (Row w b1 b2 a1 a2 D' F')) → Q .normal ⟨#[c0, c1, c2, c3, c4, c5, u6, c7, .pointer (some ⟨b1, 0, none⟩), .pointer (some ⟨b2, 0, none⟩), .pointer (some ⟨a1, 0, none⟩), .pointer (some ⟨a2, 0, none⟩), c12, c13, c14, c15, c16, c17, u18, u19, u20, c21, c22, c23, c24, c25, c26, c27, c28, c29, c30, c31, c32, c33, c34, c35, c36, c37, c38, c39, c40, c41, c42, c43, c44, c45, c46, c47, c48, c49, c50, c51, c52, c53, c54, c55, c56, c57, c58, c59, c60, c61, c62, c63, c64, c65, c66, c67, c68, c69, c70, c71, c72, c73, c74, c75, c76, c77, c78, c79, c80, c81, c82, c83, c84, c85, c86, c87, c88, c89, c90, c91, c92, c93, c94, c95, c96, c97, c98, c99, c100, c101, c102, c103, c104, c105, c106, c107, c108, c109, c110, c111, c112, c113, c114, c115, c116, c117, c118, c119, c120, c121, c122, c123, c124, c125, c126, c127, c128, c129, c130, c131, c132, c133, c134, c135, c136, c137, c138, c139, c140, c141, c142, c143, c144, c145, c146, c147, c148, c149, c150, c151, c152, c153, c154, c155, c156, c157, c158, c159, c160, c161, c162, c163, c164, c165, c166, c167, c168, c169, c170, c171, c172, c173, c174, c175, c176, c177, c178, c179, c180, c181, c182, c183, c184, c185, c186, c187, c188, c189, c190, c191, c192, c193, c194, c195, c196, c197, u198, u199, u200, u201, u202, u203, u204, u205, u206, u207, u208, u209, u210, u211, u212, u213, u214, u215, u216, u217, u218, u219, u220, u221, u222, u223, u224, u225, u226, u227, u228, u229, u230, u231, u232, u233, u234, u235, u236, u237, u238, u239, u240, u241, u242, u243, u244, u245, u246, u247, u248, u249, u250, u251, u252, u253, u254, u255, u256, u257, u258, u259, u260, u261, u262, c263, c264, c265], []⟩ wx) :
    Code.wp Try.prog tailC Q ⟨#[c0, c1, c2, c3, c4, c5, c6, c7, .pointer (some ⟨b1, 0, none⟩), .pointer (some ⟨b2, 0, none⟩), .pointer (some ⟨a1, 0, none⟩), .pointer (some ⟨a2, 0, none⟩), c12, c13, c14, c15, c16, c17, c18, c19, c20, c21, c22, c23, c24, c25, c26, c27, c28, c29, c30, c31, c32, c33, c34, c35, c36, c37, c38, c39, c40, c41, c42, c43, c44, c45, c46, c47, c48, c49, c50, c51, c52, c53, c54, c55, c56, c57, c58, c59, c60, c61, c62, c63, c64, c65, c66, c67, c68, c69, c70, c71, c72, c73, c74, c75, c76, c77, c78, c79, c80, c81, c82, c83, c84, c85, c86, c87, c88, c89, c90, c91, c92, c93, c94, c95, c96, c97, c98, c99, c100, c101, c102, c103, c104, c105, c106, c107, c108, c109, c110, c111, c112, c113, c114, c115, c116, c117, c118, c119, c120, c121, c122, c123, c124, c125, c126, c127, c128, c129, c130, c131, c132, c133, c134, c135, c136, c137, c138, c139, c140, c141, c142, c143, c144, c145, c146, c147, c148, c149, c150, c151, c152, c153, c154, c155, c156, c157, c158, c159, c160, c161, c162, c163, c164, c165, c166, c167, c168, c169, c170, c171, c172, c173, c174, c175, c176, c177, c178, c179, c180, c181, c182, c183, c184, c185, c186, c187, c188, c189, c190, c191, c192, c193, c194, c195, c196, c197, c198, c199, c200, c201, c202, c203, c204, c205, c206, c207, c208, c209, c210, c211, c212, c213, c214, c215, c216, c217, c218, c219, c220, c221, c222, c223, c224, c225, c226, c227, c228, c229, c230, c231, c232, c233, c234, c235, c236, c237, c238, c239, c240, c241, c242, c243, c244, c245, c246, c247, c248, c249, c250, c251, c252, c253, c254, c255, c256, c257, c258, c259, c260, c261, c262, c263, c264, c265], []⟩ wc := by
  have HQ := Lib.hid hQ
  clear hQ
  conv => arg 2; whnf
  obtain ⟨D', F', hD', hS'⟩ := hcut
  obtain ⟨la', lcap', pa', pcap', RR', hRR, hF⟩ := Row.open hS'
  obtain ⟨hrow, c0, c1, c2, _, lna2, _⟩ := hF _ hRR.drew
  have hLive := Live_ok hrow.to1
  have hDead := Dead_ok _ _ hrow
  have hRDead := RDead_ok _ _ hrow.to2
  have hPend := Pending_ok hrow.to1
  have HROW := Lib.hid hrow
  have HS9 := Lib.hid hS'
  obtain ⟨_, d0, d1, d2, _, dl, _⟩ := hF _ hRR
  clear hF hRR hS' hrow
  obtain ⟨gn, hg⟩ : ∃ gn, D'.gone = gn := ⟨_, rfl⟩
  rw [hg] at c1 hLive
  have HG := Lib.hid hg
  clear hg
  cases gn with
  | false =>
    clear d0 d1 d2 dl HS9
    simp only [Bool.not_false] at c1 hLive
    go_wp2
    go_region_held3 (fun w' => w'.cell? ⟨a2, 1, none⟩ = some (.bool true) ∧ w'.cell? ⟨a2, 2, none⟩ = some (.slice pa' D'.pend.length pcap'))
      (first | exact ⟨c1, c2⟩)
      (first
        | (go_at_call 34; refine hLive.mono ?_; rintro e w1 ⟨rfl, rfl⟩)
        | (go_at_call 35; refine hDead.mono ?_; rintro e w1 ⟨rfl, rfl⟩)
        | (go_at_call 36; refine hRDead.mono ?_; rintro e w1 ⟨rfl, rfl⟩)
        | (go_at_call 37; refine hPend.mono ?_; rintro e w1 ⟨rfl, rfl⟩))
    clear hLive hDead hRDead hPend c0 c1 c2 lna2
    go_wp2
    go_loopw [18] (fun s wr => (∃ s' : Nat, s' ≤ D'.slots.length ∧ s = .int .i64 s') ∧ Sat E wr (Row w b1 b2 a1 a2 D' F')) (fun s _ => D'.slots.length - (intOf s).toNat)
    case atStart => exact ⟨⟨0, by omega, rfl⟩, HROW.out⟩
    case round =>
      obtain ⟨⟨s', hs', rfl⟩, hS'⟩ := hrel
      clear HROW
      obtain ⟨la', lcap', pa', pcap', RR', hRR, hF⟩ := Row.open hS'
      obtain ⟨hrow, c0, c1, c2, _, lna2, hsl⟩ := hF _ hRR
      have h64 : D'.slots.length ≤ 64 := (DiskP.okOf hrow.to1).2.2
      rw [HG.out] at c1
      simp only [Bool.not_false] at c1
      have HROW := Lib.hid hrow
      clear hS' hrow hF hRR
      rcases Nat.eq_or_lt_of_le hs' with rfl | hlt
      · clear hsl
        go_wp2
        refine HQ.out _ _ _ _ _ _ _ _ _ _ _ _ _ _ _ _ _ _ _ _ _ _ _ _ _ _ _ _ _ _ _ _ _ _ _ _ _ _ _ _ _ _ _ _ _ _ _ _ _ _ _ _ _ _ _ _ _ _ _ _ _ _ _ _ _ _ _ _ _ _ ⟨D', F', hD', HROW.out⟩
      · obtain ⟨lg, rfl, llg, csl⟩ := hsl s' hlt
        clear hsl
        have hRd := Read_yes s' hlt HG.out (by omega) HROW.out.to1
        have hnl := now_len (DiskP.okOf HROW.out.to1) hlt
        have HNL := Lib.hid hnl
        have HLT := Lib.hid hlt
        clear hnl
        go_wp2_with (first
          | (go_at_call 22; refine hRd.mono ?_; rintro e w1 ⟨g1, c1', rfl, hS2⟩; have HS2 := Lib.hid (hS2.pk 6 [2, 1, 3, 4, 5]); have hcv := run_string_of (P := Try.prog) 37 9 Try.underlying37 Try.underlying5 Try.underlying9 (some ⟨g1, 0, none⟩) c1' (D'.now s') (RB.ofBytes hS2.drew); rw [HNL.out] at hcv; clear hS2 hRd c0 c1 c2 lna2 llg csl))
        obtain ⟨la2, lcap2, pa2, pcap2, RR2, hRR, hF⟩ := Row.open HS2.out.drew
        obtain ⟨hrow, c0, c1, c2, _, lna2, hsl⟩ := hF _ hRR
        obtain ⟨lg2, rfl, llg, csl⟩ := hsl s' hlt
        clear hF hRR hrow hsl
        have hlt2 : (s' : Int) < (D'.slots.length : Int) := by omega
        have hlt3 : (0 : Int) ≤ (s' : Int) := by omega
        go_region_held3 (fun w' => (w'.cell? ⟨a2, 0, none⟩ = some (.slice (some ⟨lg2, 0, none⟩) D'.slots.length lcap2) ∧ w'.cell? ⟨lg2, s', none⟩ = some (SV (D'.now s'))) ∧ (convert 37 9 (.slice (some ⟨g1, 0, none⟩) 96 c1')).run Try.prog w' = .ok (SV (D'.now s')) w')
          (first | exact ⟨⟨c0, csl⟩, hcv⟩) (first | fail)
        clear c0 c1 c2 lna2 llg csl hcv
        go_wp2
        go_roundw
        case rel => exact ⟨⟨s' + 1, by omega, by go_num⟩, HS2.out.drew⟩
        case measure => simp [intOf]; omega
  | true =>
    simp only [Bool.not_true] at c1 hLive
    clear hLive hDead hRDead hPend c0 c1 c2 lna2
    have hL : ∀ n, Calls Try.prog 34 #[.pointer (some ⟨a1, 0, none⟩)] (wc.drewN n) fun e w' => e = .returned (.bool false) ∧ w' = wc.drewN n := fun n => (Live_ok (HS9.out.drewN n).to1).mono (by rintro e w' ⟨rfl, rfl⟩; rw [HG.out]; exact ⟨rfl, rfl⟩)
    have hD1 : ∀ n, Calls Try.prog 35 #[.pointer (some ⟨b1, 0, none⟩)] (wc.drewN n) fun e w' => e = .returned (.bool F'.dead) ∧ w' = wc.drewN n := fun n => (Dead_ok _ _ (HS9.out.drewN n)).mono (by rintro e w' ⟨rfl, rfl⟩; exact ⟨rfl, rfl⟩)
    have hD2 : ∀ n, Calls Try.prog 36 #[.pointer (some ⟨b2, 0, none⟩)] (wc.drewN n) fun e w' => e = .returned (.bool F'.dead) ∧ w' = wc.drewN n := fun n => (RDead_ok _ _ (HS9.out.drewN n).to2).mono (by rintro e w' ⟨rfl, rfl⟩; exact ⟨rfl, rfl⟩)
    rw [HG.out] at d1
    simp only [Bool.not_true] at d1
    go_wp2
    go_quiet (first
      | (go_at_call 34; exact Calls.quiet_of_same (hL _))
      | (go_at_call 35; exact Calls.quiet_of_same (hD1 _))
      | (go_at_call 36; exact Calls.quiet_of_same (hD2 _)))
    clear hL hD1 hD2 d0 d1 d2 dl
    go_wp2
    go_loopw [18] (fun s wr => (∃ s' : Nat, s' ≤ D'.slots.length ∧ s = .int .i64 s') ∧ Sat E wr (Row w b1 b2 a1 a2 D' F')) (fun s _ => D'.slots.length - (intOf s).toNat)
    case atStart => exact ⟨⟨0, by omega, rfl⟩, HS9.out.drewN _⟩
    case round =>
      obtain ⟨⟨s', hs', rfl⟩, hS'⟩ := hrel
      clear HROW
      obtain ⟨la', lcap', pa', pcap', RR', hRR, hF⟩ := Row.open hS'
      obtain ⟨hrow, c0, c1, c2, _, lna2, hsl⟩ := hF _ hRR
      have h64 : D'.slots.length ≤ 64 := (DiskP.okOf hrow.to1).2.2
      rw [HG.out] at c1
      simp only [Bool.not_true] at c1
      have HROW := Lib.hid hrow
      clear hS' hrow hF hRR
      clear hsl
      rcases Nat.eq_or_lt_of_le hs' with rfl | hlt
      · go_wp2
        refine HQ.out _ _ _ _ _ _ _ _ _ _ _ _ _ _ _ _ _ _ _ _ _ _ _ _ _ _ _ _ _ _ _ _ _ _ _ _ _ _ _ _ _ _ _ _ _ _ _ _ _ _ _ _ _ _ _ _ _ _ _ _ _ _ _ _ _ _ _ _ _ _ ⟨D', F', hD', HROW.out⟩
      · go_wp2
        refine HQ.out _ _ _ _ _ _ _ _ _ _ _ _ _ _ _ _ _ _ _ _ _ _ _ _ _ _ _ _ _ _ _ _ _ _ _ _ _ _ _ _ _ _ _ _ _ _ _ _ _ _ _ _ _ _ _ _ _ _ _ _ _ _ _ _ _ _ _ _ _ _ ⟨D', F', hD', HROW.out⟩

end Go.Proofs.Ytpfhfeccdhmgiaa
