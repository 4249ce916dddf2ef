/- What is proved here: lemmas and contracts on the way to this seat's laws, part 'DLaw'; no condition. -/
import Derived.Test.YtpfhfeccdhmgiaaDSw0
import Derived.Test.YtpfhfeccdhmgiaaDSw1
import Derived.Test.YtpfhfeccdhmgiaaDSw2
import Derived.Test.YtpfhfeccdhmgiaaDSw3
import Derived.Test.YtpfhfeccdhmgiaaDTail
import Derived.Deep.QuietTactic
import Derived.BigQuiet
/- The law of disks: its walk. -/
namespace Go.Proofs.Ytpfhfeccdhmgiaa
open Go.RowKit

set_option maxHeartbeats 100000000 in
set_option maxRecDepth 100000 in
theorem sw_all (w W : World) (E : Env) (b1 b2 a1 a2 ob i : Nat) (D : DiskM) (F : FuseM) (o : OpM) (bo : Option Addr) (bc : Nat) (hD : D.pend.length ≤ i) (hi60 : i < 60) (hrb : RB w bo o.b) (hon : o.n ≤ 9223372036854775807) (h200 : ¬ 200 < o.b.length) (hS1 : Sat E W (PT ob [.int .i64 o.kind, .int .i64 o.slot, .int .i64 o.at_, .int .i64 o.n, .int .u8 o.fill.toNat, .slice bo o.b.length bc] 39 :: Row w b1 b2 a1 a2 D F)) (Q : Exit → Act → World → Prop) (c0 c1 c2 c3 c4 c5 c6 c7 c12 c14 c15 c16 c17 c18 c19 c20 c21 c22 c23 c24 c25 c26 c27 c28 c29 c30 c31 c32 c33 c34 c35 c36 c37 c38 c39 c40 c41 c42 c43 c44 c45 c46 c47 c48 c49 c50 c51 c52 c53 c54 c55 c56 c57 c58 c59 c60 c61 c62 c63 c64 c65 c66 c67 c68 c69 c70 c71 c72 c73 c75 c76 c77 c78 c79 c80 c81 c82 c83 c84 c85 c86 c87 c88 c89 c90 c91 c92 c93 c94 c95 c96 c97 c98 c99 c100 c101 c102 c103 c104 c105 c106 c107 c108 c109 c110 c111 c112 c113 c114 c115 c116 c117 c118 c119 c120 c121 c122 c123 c124 c125 c126 c127 c128 c129 c130 c131 c132 c133 c134 c135 c136 c137 c138 c139 c140 c141 c142 c143 c144 c145 c146 c147 c148 c149 c150 c151 c152 c153 c154 c155 c156 c157 c158 c159 c160 c161 c162 c163 c164 c165 c166 c167 c168 c169 c170 c171 c172 c173 c174 c175 c176 c177 c178 c179 c180 c181 c182 c183 c184 c185 c186 c187 c188 c189 c190 c191 c192 c193 c194 c195 c196 c197 c198 c199 c200 c201 c202 c203 c204 c205 c206 c207 c208 c209 c210 c211 c212 c213 c214 c215 c216 c217 c218 c219 c220 c221 c222 c223 c224 c225 c226 c227 c228 c229 c230 c231 c232 c233 c234 c235 c236 c237 c238 c239 c240 c241 c242 c243 c244 c245 c246 c247 c248 c249 c250 c251 c252 c253 c254 c255 c256 c257 c258 c259 c260 c261 c262 c263 c264 c265 : Value)
    (hQ : ∀ (u6 u14 u15 u16 u17 u75 u76 u77 u78 u79 u80 u81 u82 u83 u84 u85 u86 u87 u88 u89 u90 u91 u92 u93 u94 u95 u96 u97 u98 u99 u100 u101 u102 u103 u104 u105 u106 u107 u108 u109 u110 u111 u112 u113 u114 u115 u116 u117 u118 u119 u120 u121 u122 u123 u124 u125 u126 u127 u128 u129 u130 u131 u132 u133 u134 u135 u136 u137 u138 u139 u140 u141 u142 u143 u144 u145 u146 u147 u148 u149 u150 u151 u152 u153 u154 u155 u156 u157 u158 u159 u160 u161 u162 u163 u164 u165 u166 u167 u168 u169 u170 u171 u172 u173 u174 u175 u176 u177 u178 u179 u180 u181 u182 u183 u184 u185 u186 u187 u188 u189 u190 u191 u192 u193 u194 u195 u196 u197 : Value) (wx : World), (∃ D' F', D'.pend.length ≤ i + 1 ∧ Sat E wx (Row w b1 b2 a1 a2 D' F')) → Q .normal ⟨#[c0, c1, c2, c3, c4, c5, u6, c7, .pointer (some ⟨b1, 0, none⟩), .pointer (some ⟨b2, 0, none⟩), .pointer (some ⟨a1, 0, none⟩), .pointer (some ⟨a2, 0, none⟩), c12, .pointer (some ⟨ob, 0, none⟩), u14, u15, u16, u17, c18, c19, c20, c21, c22, c23, c24, c25, c26, c27, c28, c29, c30, c31, c32, c33, c34, c35, c36, c37, c38, c39, c40, c41, c42, c43, c44, c45, c46, c47, c48, c49, c50, c51, c52, c53, c54, c55, c56, c57, c58, c59, c60, c61, c62, c63, c64, c65, c66, c67, c68, c69, c70, c71, c72, c73, .int .i64 o.kind, u75, u76, u77, u78, u79, u80, u81, u82, u83, u84, u85, u86, u87, u88, u89, u90, u91, u92, u93, u94, u95, u96, u97, u98, u99, u100, u101, u102, u103, u104, u105, u106, u107, u108, u109, u110, u111, u112, u113, u114, u115, u116, u117, u118, u119, u120, u121, u122, u123, u124, u125, u126, u127, u128, u129, u130, u131, u132, u133, u134, u135, u136, u137, u138, u139, u140, u141, u142, u143, u144, u145, u146, u147, u148, u149, u150, u151, u152, u153, u154, u155, u156, u157, u158, u159, u160, u161, u162, u163, u164, u165, u166, u167, u168, u169, u170, u171, u172, u173, u174, u175, u176, u177, u178, u179, u180, u181, u182, u183, u184, u185, u186, u187, u188, u189, u190, u191, u192, u193, u194, u195, u196, u197, c198, c199, c200, c201, c202, c203, c204, c205, c206, c207, c208, c209, c210, c211, c212, c213, c214, c215, c216, c217, c218, c219, c220, c221, c222, c223, c224, c225, c226, c227, c228, c229, c230, c231, c232, c233, c234, c235, c236, c237, c238, c239, c240, c241, c242, c243, c244, c245, c246, c247, c248, c249, c250, c251, c252, c253, c254, c255, c256, c257, c258, c259, c260, c261, c262, c263, c264, c265], []⟩ wx) :
    Code.wp Try.prog swC Q ⟨#[c0, c1, c2, c3, c4, c5, c6, c7, .pointer (some ⟨b1, 0, none⟩), .pointer (some ⟨b2, 0, none⟩), .pointer (some ⟨a1, 0, none⟩), .pointer (some ⟨a2, 0, none⟩), c12, .pointer (some ⟨ob, 0, none⟩), c14, c15, c16, c17, c18, c19, c20, c21, c22, c23, c24, c25, c26, c27, c28, c29, c30, c31, c32, c33, c34, c35, c36, c37, c38, c39, c40, c41, c42, c43, c44, c45, c46, c47, c48, c49, c50, c51, c52, c53, c54, c55, c56, c57, c58, c59, c60, c61, c62, c63, c64, c65, c66, c67, c68, c69, c70, c71, c72, c73, .int .i64 o.kind, c75, c76, c77, c78, c79, c80, c81, c82, c83, c84, c85, c86, c87, c88, c89, c90, c91, c92, c93, c94, c95, c96, c97, c98, c99, c100, c101, c102, c103, c104, c105, c106, c107, c108, c109, c110, c111, c112, c113, c114, c115, c116, c117, c118, c119, c120, c121, c122, c123, c124, c125, c126, c127, c128, c129, c130, c131, c132, c133, c134, c135, c136, c137, c138, c139, c140, c141, c142, c143, c144, c145, c146, c147, c148, c149, c150, c151, c152, c153, c154, c155, c156, c157, c158, c159, c160, c161, c162, c163, c164, c165, c166, c167, c168, c169, c170, c171, c172, c173, c174, c175, c176, c177, c178, c179, c180, c181, c182, c183, c184, c185, c186, c187, c188, c189, c190, c191, c192, c193, c194, c195, c196, c197, c198, c199, c200, c201, c202, c203, c204, c205, c206, c207, c208, c209, c210, c211, c212, c213, c214, c215, c216, c217, c218, c219, c220, c221, c222, c223, c224, c225, c226, c227, c228, c229, c230, c231, c232, c233, c234, c235, c236, c237, c238, c239, c240, c241, c242, c243, c244, c245, c246, c247, c248, c249, c250, c251, c252, c253, c254, c255, c256, c257, c258, c259, c260, c261, c262, c263, c264, c265], []⟩ W := by
  by_cases k0 : o.kind = 0
  · exact sw_0 w W E b1 b2 a1 a2 ob i D F o bo bc hD hi60 hrb hon h200 hS1 k0 Q c0 c1 c2 c3 c4 c5 c6 c7 c12 c14 c15 c16 c17 c18 c19 c20 c21 c22 c23 c24 c25 c26 c27 c28 c29 c30 c31 c32 c33 c34 c35 c36 c37 c38 c39 c40 c41 c42 c43 c44 c45 c46 c47 c48 c49 c50 c51 c52 c53 c54 c55 c56 c57 c58 c59 c60 c61 c62 c63 c64 c65 c66 c67 c68 c69 c70 c71 c72 c73 c75 c76 c77 c78 c79 c80 c81 c82 c83 c84 c85 c86 c87 c88 c89 c90 c91 c92 c93 c94 c95 c96 c97 c98 c99 c100 c101 c102 c103 c104 c105 c106 c107 c108 c109 c110 c111 c112 c113 c114 c115 c116 c117 c118 c119 c120 c121 c122 c123 c124 c125 c126 c127 c128 c129 c130 c131 c132 c133 c134 c135 c136 c137 c138 c139 c140 c141 c142 c143 c144 c145 c146 c147 c148 c149 c150 c151 c152 c153 c154 c155 c156 c157 c158 c159 c160 c161 c162 c163 c164 c165 c166 c167 c168 c169 c170 c171 c172 c173 c174 c175 c176 c177 c178 c179 c180 c181 c182 c183 c184 c185 c186 c187 c188 c189 c190 c191 c192 c193 c194 c195 c196 c197 c198 c199 c200 c201 c202 c203 c204 c205 c206 c207 c208 c209 c210 c211 c212 c213 c214 c215 c216 c217 c218 c219 c220 c221 c222 c223 c224 c225 c226 c227 c228 c229 c230 c231 c232 c233 c234 c235 c236 c237 c238 c239 c240 c241 c242 c243 c244 c245 c246 c247 c248 c249 c250 c251 c252 c253 c254 c255 c256 c257 c258 c259 c260 c261 c262 c263 c264 c265 hQ
  by_cases k1 : o.kind = 1
  · exact sw_1 w W E b1 b2 a1 a2 ob i D F o bo bc hD hi60 hrb hon h200 hS1 k0 k1 Q c0 c1 c2 c3 c4 c5 c6 c7 c12 c14 c15 c16 c17 c18 c19 c20 c21 c22 c23 c24 c25 c26 c27 c28 c29 c30 c31 c32 c33 c34 c35 c36 c37 c38 c39 c40 c41 c42 c43 c44 c45 c46 c47 c48 c49 c50 c51 c52 c53 c54 c55 c56 c57 c58 c59 c60 c61 c62 c63 c64 c65 c66 c67 c68 c69 c70 c71 c72 c73 c75 c76 c77 c78 c79 c80 c81 c82 c83 c84 c85 c86 c87 c88 c89 c90 c91 c92 c93 c94 c95 c96 c97 c98 c99 c100 c101 c102 c103 c104 c105 c106 c107 c108 c109 c110 c111 c112 c113 c114 c115 c116 c117 c118 c119 c120 c121 c122 c123 c124 c125 c126 c127 c128 c129 c130 c131 c132 c133 c134 c135 c136 c137 c138 c139 c140 c141 c142 c143 c144 c145 c146 c147 c148 c149 c150 c151 c152 c153 c154 c155 c156 c157 c158 c159 c160 c161 c162 c163 c164 c165 c166 c167 c168 c169 c170 c171 c172 c173 c174 c175 c176 c177 c178 c179 c180 c181 c182 c183 c184 c185 c186 c187 c188 c189 c190 c191 c192 c193 c194 c195 c196 c197 c198 c199 c200 c201 c202 c203 c204 c205 c206 c207 c208 c209 c210 c211 c212 c213 c214 c215 c216 c217 c218 c219 c220 c221 c222 c223 c224 c225 c226 c227 c228 c229 c230 c231 c232 c233 c234 c235 c236 c237 c238 c239 c240 c241 c242 c243 c244 c245 c246 c247 c248 c249 c250 c251 c252 c253 c254 c255 c256 c257 c258 c259 c260 c261 c262 c263 c264 c265 hQ
  by_cases k2 : o.kind = 2
  · exact sw_2 w W E b1 b2 a1 a2 ob i D F o bo bc hD hi60 hrb hon h200 hS1 k0 k1 k2 Q c0 c1 c2 c3 c4 c5 c6 c7 c12 c14 c15 c16 c17 c18 c19 c20 c21 c22 c23 c24 c25 c26 c27 c28 c29 c30 c31 c32 c33 c34 c35 c36 c37 c38 c39 c40 c41 c42 c43 c44 c45 c46 c47 c48 c49 c50 c51 c52 c53 c54 c55 c56 c57 c58 c59 c60 c61 c62 c63 c64 c65 c66 c67 c68 c69 c70 c71 c72 c73 c75 c76 c77 c78 c79 c80 c81 c82 c83 c84 c85 c86 c87 c88 c89 c90 c91 c92 c93 c94 c95 c96 c97 c98 c99 c100 c101 c102 c103 c104 c105 c106 c107 c108 c109 c110 c111 c112 c113 c114 c115 c116 c117 c118 c119 c120 c121 c122 c123 c124 c125 c126 c127 c128 c129 c130 c131 c132 c133 c134 c135 c136 c137 c138 c139 c140 c141 c142 c143 c144 c145 c146 c147 c148 c149 c150 c151 c152 c153 c154 c155 c156 c157 c158 c159 c160 c161 c162 c163 c164 c165 c166 c167 c168 c169 c170 c171 c172 c173 c174 c175 c176 c177 c178 c179 c180 c181 c182 c183 c184 c185 c186 c187 c188 c189 c190 c191 c192 c193 c194 c195 c196 c197 c198 c199 c200 c201 c202 c203 c204 c205 c206 c207 c208 c209 c210 c211 c212 c213 c214 c215 c216 c217 c218 c219 c220 c221 c222 c223 c224 c225 c226 c227 c228 c229 c230 c231 c232 c233 c234 c235 c236 c237 c238 c239 c240 c241 c242 c243 c244 c245 c246 c247 c248 c249 c250 c251 c252 c253 c254 c255 c256 c257 c258 c259 c260 c261 c262 c263 c264 c265 hQ
  by_cases k3 : o.kind = 3
  · exact sw_3 w W E b1 b2 a1 a2 ob i D F o bo bc hD hi60 hrb hon h200 hS1 k0 k1 k2 k3 Q c0 c1 c2 c3 c4 c5 c6 c7 c12 c14 c15 c16 c17 c18 c19 c20 c21 c22 c23 c24 c25 c26 c27 c28 c29 c30 c31 c32 c33 c34 c35 c36 c37 c38 c39 c40 c41 c42 c43 c44 c45 c46 c47 c48 c49 c50 c51 c52 c53 c54 c55 c56 c57 c58 c59 c60 c61 c62 c63 c64 c65 c66 c67 c68 c69 c70 c71 c72 c73 c75 c76 c77 c78 c79 c80 c81 c82 c83 c84 c85 c86 c87 c88 c89 c90 c91 c92 c93 c94 c95 c96 c97 c98 c99 c100 c101 c102 c103 c104 c105 c106 c107 c108 c109 c110 c111 c112 c113 c114 c115 c116 c117 c118 c119 c120 c121 c122 c123 c124 c125 c126 c127 c128 c129 c130 c131 c132 c133 c134 c135 c136 c137 c138 c139 c140 c141 c142 c143 c144 c145 c146 c147 c148 c149 c150 c151 c152 c153 c154 c155 c156 c157 c158 c159 c160 c161 c162 c163 c164 c165 c166 c167 c168 c169 c170 c171 c172 c173 c174 c175 c176 c177 c178 c179 c180 c181 c182 c183 c184 c185 c186 c187 c188 c189 c190 c191 c192 c193 c194 c195 c196 c197 c198 c199 c200 c201 c202 c203 c204 c205 c206 c207 c208 c209 c210 c211 c212 c213 c214 c215 c216 c217 c218 c219 c220 c221 c222 c223 c224 c225 c226 c227 c228 c229 c230 c231 c232 c233 c234 c235 c236 c237 c238 c239 c240 c241 c242 c243 c244 c245 c246 c247 c248 c249 c250 c251 c252 c253 c254 c255 c256 c257 c258 c259 c260 c261 c262 c263 c264 c265 hQ
  by_cases k4 : o.kind = 4
  · exact sw_4 w W E b1 b2 a1 a2 ob i D F o bo bc hD hi60 hrb hon h200 hS1 k0 k1 k2 k3 k4 Q c0 c1 c2 c3 c4 c5 c6 c7 c12 c14 c15 c16 c17 c18 c19 c20 c21 c22 c23 c24 c25 c26 c27 c28 c29 c30 c31 c32 c33 c34 c35 c36 c37 c38 c39 c40 c41 c42 c43 c44 c45 c46 c47 c48 c49 c50 c51 c52 c53 c54 c55 c56 c57 c58 c59 c60 c61 c62 c63 c64 c65 c66 c67 c68 c69 c70 c71 c72 c73 c75 c76 c77 c78 c79 c80 c81 c82 c83 c84 c85 c86 c87 c88 c89 c90 c91 c92 c93 c94 c95 c96 c97 c98 c99 c100 c101 c102 c103 c104 c105 c106 c107 c108 c109 c110 c111 c112 c113 c114 c115 c116 c117 c118 c119 c120 c121 c122 c123 c124 c125 c126 c127 c128 c129 c130 c131 c132 c133 c134 c135 c136 c137 c138 c139 c140 c141 c142 c143 c144 c145 c146 c147 c148 c149 c150 c151 c152 c153 c154 c155 c156 c157 c158 c159 c160 c161 c162 c163 c164 c165 c166 c167 c168 c169 c170 c171 c172 c173 c174 c175 c176 c177 c178 c179 c180 c181 c182 c183 c184 c185 c186 c187 c188 c189 c190 c191 c192 c193 c194 c195 c196 c197 c198 c199 c200 c201 c202 c203 c204 c205 c206 c207 c208 c209 c210 c211 c212 c213 c214 c215 c216 c217 c218 c219 c220 c221 c222 c223 c224 c225 c226 c227 c228 c229 c230 c231 c232 c233 c234 c235 c236 c237 c238 c239 c240 c241 c242 c243 c244 c245 c246 c247 c248 c249 c250 c251 c252 c253 c254 c255 c256 c257 c258 c259 c260 c261 c262 c263 c264 c265 hQ
  by_cases k5 : o.kind = 5
  · exact sw_5 w W E b1 b2 a1 a2 ob i D F o bo bc hD hi60 hrb hon h200 hS1 k0 k1 k2 k3 k4 k5 Q c0 c1 c2 c3 c4 c5 c6 c7 c12 c14 c15 c16 c17 c18 c19 c20 c21 c22 c23 c24 c25 c26 c27 c28 c29 c30 c31 c32 c33 c34 c35 c36 c37 c38 c39 c40 c41 c42 c43 c44 c45 c46 c47 c48 c49 c50 c51 c52 c53 c54 c55 c56 c57 c58 c59 c60 c61 c62 c63 c64 c65 c66 c67 c68 c69 c70 c71 c72 c73 c75 c76 c77 c78 c79 c80 c81 c82 c83 c84 c85 c86 c87 c88 c89 c90 c91 c92 c93 c94 c95 c96 c97 c98 c99 c100 c101 c102 c103 c104 c105 c106 c107 c108 c109 c110 c111 c112 c113 c114 c115 c116 c117 c118 c119 c120 c121 c122 c123 c124 c125 c126 c127 c128 c129 c130 c131 c132 c133 c134 c135 c136 c137 c138 c139 c140 c141 c142 c143 c144 c145 c146 c147 c148 c149 c150 c151 c152 c153 c154 c155 c156 c157 c158 c159 c160 c161 c162 c163 c164 c165 c166 c167 c168 c169 c170 c171 c172 c173 c174 c175 c176 c177 c178 c179 c180 c181 c182 c183 c184 c185 c186 c187 c188 c189 c190 c191 c192 c193 c194 c195 c196 c197 c198 c199 c200 c201 c202 c203 c204 c205 c206 c207 c208 c209 c210 c211 c212 c213 c214 c215 c216 c217 c218 c219 c220 c221 c222 c223 c224 c225 c226 c227 c228 c229 c230 c231 c232 c233 c234 c235 c236 c237 c238 c239 c240 c241 c242 c243 c244 c245 c246 c247 c248 c249 c250 c251 c252 c253 c254 c255 c256 c257 c258 c259 c260 c261 c262 c263 c264 c265 hQ
  by_cases k6 : o.kind = 6
  · exact sw_6 w W E b1 b2 a1 a2 ob i D F o bo bc hD hi60 hrb hon h200 hS1 k0 k1 k2 k3 k4 k5 k6 Q c0 c1 c2 c3 c4 c5 c6 c7 c12 c14 c15 c16 c17 c18 c19 c20 c21 c22 c23 c24 c25 c26 c27 c28 c29 c30 c31 c32 c33 c34 c35 c36 c37 c38 c39 c40 c41 c42 c43 c44 c45 c46 c47 c48 c49 c50 c51 c52 c53 c54 c55 c56 c57 c58 c59 c60 c61 c62 c63 c64 c65 c66 c67 c68 c69 c70 c71 c72 c73 c75 c76 c77 c78 c79 c80 c81 c82 c83 c84 c85 c86 c87 c88 c89 c90 c91 c92 c93 c94 c95 c96 c97 c98 c99 c100 c101 c102 c103 c104 c105 c106 c107 c108 c109 c110 c111 c112 c113 c114 c115 c116 c117 c118 c119 c120 c121 c122 c123 c124 c125 c126 c127 c128 c129 c130 c131 c132 c133 c134 c135 c136 c137 c138 c139 c140 c141 c142 c143 c144 c145 c146 c147 c148 c149 c150 c151 c152 c153 c154 c155 c156 c157 c158 c159 c160 c161 c162 c163 c164 c165 c166 c167 c168 c169 c170 c171 c172 c173 c174 c175 c176 c177 c178 c179 c180 c181 c182 c183 c184 c185 c186 c187 c188 c189 c190 c191 c192 c193 c194 c195 c196 c197 c198 c199 c200 c201 c202 c203 c204 c205 c206 c207 c208 c209 c210 c211 c212 c213 c214 c215 c216 c217 c218 c219 c220 c221 c222 c223 c224 c225 c226 c227 c228 c229 c230 c231 c232 c233 c234 c235 c236 c237 c238 c239 c240 c241 c242 c243 c244 c245 c246 c247 c248 c249 c250 c251 c252 c253 c254 c255 c256 c257 c258 c259 c260 c261 c262 c263 c264 c265 hQ
  by_cases k7 : o.kind = 7
  · exact sw_7 w W E b1 b2 a1 a2 ob i D F o bo bc hD hi60 hrb hon h200 hS1 k0 k1 k2 k3 k4 k5 k6 k7 Q c0 c1 c2 c3 c4 c5 c6 c7 c12 c14 c15 c16 c17 c18 c19 c20 c21 c22 c23 c24 c25 c26 c27 c28 c29 c30 c31 c32 c33 c34 c35 c36 c37 c38 c39 c40 c41 c42 c43 c44 c45 c46 c47 c48 c49 c50 c51 c52 c53 c54 c55 c56 c57 c58 c59 c60 c61 c62 c63 c64 c65 c66 c67 c68 c69 c70 c71 c72 c73 c75 c76 c77 c78 c79 c80 c81 c82 c83 c84 c85 c86 c87 c88 c89 c90 c91 c92 c93 c94 c95 c96 c97 c98 c99 c100 c101 c102 c103 c104 c105 c106 c107 c108 c109 c110 c111 c112 c113 c114 c115 c116 c117 c118 c119 c120 c121 c122 c123 c124 c125 c126 c127 c128 c129 c130 c131 c132 c133 c134 c135 c136 c137 c138 c139 c140 c141 c142 c143 c144 c145 c146 c147 c148 c149 c150 c151 c152 c153 c154 c155 c156 c157 c158 c159 c160 c161 c162 c163 c164 c165 c166 c167 c168 c169 c170 c171 c172 c173 c174 c175 c176 c177 c178 c179 c180 c181 c182 c183 c184 c185 c186 c187 c188 c189 c190 c191 c192 c193 c194 c195 c196 c197 c198 c199 c200 c201 c202 c203 c204 c205 c206 c207 c208 c209 c210 c211 c212 c213 c214 c215 c216 c217 c218 c219 c220 c221 c222 c223 c224 c225 c226 c227 c228 c229 c230 c231 c232 c233 c234 c235 c236 c237 c238 c239 c240 c241 c242 c243 c244 c245 c246 c247 c248 c249 c250 c251 c252 c253 c254 c255 c256 c257 c258 c259 c260 c261 c262 c263 c264 c265 hQ
  exact sw_8 w W E b1 b2 a1 a2 ob i D F o bo bc hD hi60 hrb hon h200 hS1 k0 k1 k2 k3 k4 k5 k6 k7 Q c0 c1 c2 c3 c4 c5 c6 c7 c12 c14 c15 c16 c17 c18 c19 c20 c21 c22 c23 c24 c25 c26 c27 c28 c29 c30 c31 c32 c33 c34 c35 c36 c37 c38 c39 c40 c41 c42 c43 c44 c45 c46 c47 c48 c49 c50 c51 c52 c53 c54 c55 c56 c57 c58 c59 c60 c61 c62 c63 c64 c65 c66 c67 c68 c69 c70 c71 c72 c73 c75 c76 c77 c78 c79 c80 c81 c82 c83 c84 c85 c86 c87 c88 c89 c90 c91 c92 c93 c94 c95 c96 c97 c98 c99 c100 c101 c102 c103 c104 c105 c106 c107 c108 c109 c110 c111 c112 c113 c114 c115 c116 c117 c118 c119 c120 c121 c122 c123 c124 c125 c126 c127 c128 c129 c130 c131 c132 c133 c134 c135 c136 c137 c138 c139 c140 c141 c142 c143 c144 c145 c146 c147 c148 c149 c150 c151 c152 c153 c154 c155 c156 c157 c158 c159 c160 c161 c162 c163 c164 c165 c166 c167 c168 c169 c170 c171 c172 c173 c174 c175 c176 c177 c178 c179 c180 c181 c182 c183 c184 c185 c186 c187 c188 c189 c190 c191 c192 c193 c194 c195 c196 c197 c198 c199 c200 c201 c202 c203 c204 c205 c206 c207 c208 c209 c210 c211 c212 c213 c214 c215 c216 c217 c218 c219 c220 c221 c222 c223 c224 c225 c226 c227 c228 c229 c230 c231 c232 c233 c234 c235 c236 c237 c238 c239 c240 c241 c242 c243 c244 c245 c246 c247 c248 c249 c250 c251 c252 c253 c254 c255 c256 c257 c258 c259 c260 c261 c262 c263 c264 c265 hQ


set_option maxHeartbeats 100000000 in
set_option maxRecDepth 100000 in
theorem diskPlays_walk (w : World) (l : List OpM) (ao : Option Addr) (cap : Nat) (s0 fz : Int) (hf : fz ≤ 9223372036854775807) (hl : OpsAt w ao l) (hn : ∀ o ∈ l, o.n ≤ 9223372036854775807) :
    Calls Try.prog 3 #[.int .i64 s0, .int .i64 fz, .slice ao l.length cap] w fun e w' => e = .returned (.bool true) ∧ Below w.heap.size w w' := by
  have H0 := Lib.hid (Sat.start w)
  have HL := Lib.hid hl
  have HN := Lib.hid hn
  clear hl hn
  obtain ⟨E, hE⟩ : ∃ E, (⟨w.os, w.tape, w.output⟩ : Env) = E := ⟨_, rfl⟩
  rw [hE] at H0
  have HE := Lib.hid hE
  clear hE
  go_enter Try.func3, Try.ntmps3
  go_wp2
  go_loopw [0, 7] (fun s k wr => (∃ z : Int, s = .int .i64 z) ∧ (∃ n : Nat, n ≤ 2 ∧ k = .int .i64 n) ∧ Sat E wr [OldP w w.heap.size]) (fun _ k _ => 2 - (intOf k).toNat)
  case atStart => exact ⟨⟨_, rfl⟩, ⟨0, by omega, rfl⟩, H0.out⟩
  case round =>
    obtain ⟨⟨z, rfl⟩, ⟨k, hk, rfl⟩, hS⟩ := hrel
    have HS := Lib.hid hS
    clear hS H0
    by_cases hlt : (k : Int) < 2
    · go_wp2_with (first
        | (go_at_call 13; refine (NewFuse_ok fz hf HS.out).mono ?_; rintro e w1 ⟨b1, rfl, hS1⟩; have HS1 := Lib.hid hS1; clear hS1 HS)
        | (go_at_call 14; refine (RNewFuse_ok fz hf HS1.out).mono ?_; rintro e w2 ⟨b2, rfl, hS2⟩; have HS2 := Lib.hid hS2; clear hS2 HS1)
        | (go_at_call 15; refine (New_ok z (some ⟨b1, 0, none⟩) HS2.out).mono ?_; rintro e w3 ⟨a1, rfl, hS3⟩; have HS3 := Lib.hid hS3; clear hS3 HS2)
        | (go_at_call 16; refine (RNew_ok z (some ⟨b2, 0, none⟩) HS3.out).mono ?_; rintro e w4 ⟨a2, rfl, hS4⟩; have HS4 := Lib.hid hS4; clear hS4 HS3))
      obtain ⟨n, hn⟩ : ∃ n, (min (max z 0) 64).toNat = n := ⟨_, rfl⟩
      rw [hn] at HS4
      clear hn
      obtain ⟨la, lcap, pa, pcap, RR, hRR, hF⟩ := Row.open (Row.start HS4.out)
      rw [show (DiskM.new n).slots.length = n by simp [DiskM.new]] at hF
      have HF := Lib.hid hF
      have HRR := Lib.hid hRR
      clear hF hRR HS4
      go_region_held3 (fun w' => Sat E w' RR ∧ w'.cell? ⟨a2, 0, none⟩ = some (.slice la n lcap))
        (first | exact ⟨HRR.out.drew, (HF.out _ HRR.out.drew).2.1⟩ | exact ⟨HS6.out, (HF.out _ HS6.out).2.1⟩)
        (first
          | (go_at_call 17; refine (Slots_ok (HF.out _ HRR.out.drew).1.to1).mono ?_; rintro e w5 ⟨rfl, rfl⟩; rw [show (DiskM.new n).slots.length = n by simp [DiskM.new]])
          | (go_at_call 18; refine (awake_ok HRR.out.drew).mono ?_; rintro e w6 ⟨rfl, hS6⟩; have HS6 := Lib.hid hS6; clear hS6))
      go_wp2
      have HROW := Lib.hid (HF.out _ HS6.out).1
      clear HF HRR HS6
      go_loopw [12] (fun i wr => (∃ i' : Nat, i' ≤ 60 ∧ i' ≤ l.length ∧ i = .int .i64 i' ∧ ∃ D F, D.pend.length ≤ i' ∧ Sat E wr (Row w b1 b2 a1 a2 D F))) (fun i _ => 60 - (intOf i).toNat)
      case atStart => exact ⟨0, by omega, by omega, rfl, .new n, .mk' fz, by simp [DiskM.new], HROW.out⟩
      case round =>
        obtain ⟨i, hi60, hil, rfl, D, F, hD, hS⟩ := hrel
        clear HROW
        have HS := Lib.hid hS
        clear hS
        rcases Nat.eq_or_lt_of_le hil with rfl | hil
        · as_aux_lemma =>
          have HE2 := Lib.hid (Sat.pk 5 [4] HS.out)
          go_wp2
          go_roundw
          case rel => exact ⟨⟨_, rfl⟩, ⟨k + 1, by omega, by go_num⟩, HE2.out⟩
          case measure => simp [intOf]; omega
        · rcases Nat.eq_or_lt_of_le hi60 with rfl | hi60
          · as_aux_lemma =>
            have HE2 := Lib.hid (Sat.pk 5 [4] HS.out)
            go_wp2
            go_roundw
            case rel => exact ⟨⟨_, rfl⟩, ⟨k + 1, by omega, by go_num⟩, HE2.out⟩
            case measure => simp [intOf]; omega
          · obtain ⟨blk, off, rfl, hop⟩ := HL.out (by intro e; rw [e] at hil; simp at hil)
            obtain ⟨bo, bc, o0, o1, o2, o3, o4, o5, hrb⟩ := hop i hil
            have hON := HN.out l[i] (List.getElem_mem hil)
            obtain ⟨o, ho⟩ : ∃ o, l[i] = o := ⟨_, rfl⟩
            rw [ho] at o0 o1 o2 o3 o4 o5 hrb hON
            have hlt0 : blk < w.heap.size := by
              rcases Nat.lt_or_ge blk w.heap.size with h | h
              · exact h
              · simp [World.cell?, Array.getElem?_eq_none h] at o0
            have hold := fun (j : Nat) => Sat.oldCell (Sat.to4 HS.out) ⟨blk, j, none⟩ hlt0
            rw [← hold] at o0 o1 o2 o3 o4 o5
            have hltr : blk < wr.heap.size := by have := Sat.oldLt (Sat.to4 HS.out); omega
            have HRB := Lib.hid hrb
            have HON := Lib.hid hON
            clear hop hold hrb ho hON hlt0
            obtain ⟨hl1, hl2⟩ : i < 60 ∧ i < l.length := ⟨hi60, hil⟩
            by_cases h200 : 200 < o.b.length
            · as_aux_lemma =>
              have HE2 := Lib.hid (Sat.pk 5 [4] HS.out)
              go_wp2
              go_ret
              exact ⟨rfl, below_of HE.out (HE2.out.allocAny _)⟩
            · as_aux_lemma =>
              go_upto_block 4 with fail
              have hS1 := HS.out.alloc [.int .i64 o.kind, .int .i64 o.slot, .int .i64 o.at_, .int .i64 o.n, .int .u8 o.fill.toNat, .slice bo o.b.length bc] 39
              obtain ⟨W, hW⟩ : ∃ W, wr.alloc (.cells #[.int .i64 o.kind, .int .i64 o.slot, .int .i64 o.at_, .int .i64 o.n, .int .u8 o.fill.toNat, .slice bo o.b.length bc] 39) = W := ⟨_, rfl⟩
              rw [show wr.alloc (.cells (List.toArray [.int .i64 o.kind, .int .i64 o.slot, .int .i64 o.at_, .int .i64 o.n, .int .u8 o.fill.toNat, .slice bo o.b.length bc]) 39) = W from hW] at hS1
              rw [hW]
              clear hW hltr
              generalize wr.heap.size = ob at hS1 ⊢
              have n1 := hS1.cell 1
              have n2 := hS1.cell 2
              have n3 := hS1.cell 3
              have n4 := hS1.cell 4
              have n5 := hS1.cell 5
              have ln := hS1.lt
              simp only [List.getElem?_cons_zero, List.getElem?_cons_succ] at n1 n2 n3 n4 n5
              have HS1 := Lib.hid hS1
              clear hS1 HS o0 o1 o2 o3 o4 o5
              go_cut [14] (fun _ wx => ∃ D' F', D'.pend.length ≤ i + 1 ∧ Sat E wx (Row w b1 b2 a1 a2 D' F'))
              case first =>
                as_aux_lemma =>
                  refine sw_all w W E b1 b2 a1 a2 ob i D F o bo bc hD hi60 HRB.out HON.out h200 HS1.out _ _ _ _ _ _ _ _ _ _ _ _ _ _ _ _ _ _ _ _ _ _ _ _ _ _ _ _ _ _ _ _ _ _ _ _ _ _ _ _ _ _ _ _ _ _ _ _ _ _ _ _ _ _ _ _ _ _ _ _ _ _ _ _ _ _ _ _ _ _ _ _ _ _ _ _ _ _ _ _ _ _ _ _ _ _ _ _ _ _ _ _ _ _ _ _ _ _ _ _ _ _ _ _ _ _ _ _ _ _ _ _ _ _ _ _ _ _ _ _ _ _ _ _ _ _ _ _ _ _ _ _ _ _ _ _ _ _ _ _ _ _ _ _ _ _ _ _ _ _ _ _ _ _ _ _ _ _ _ _ _ _ _ _ _ _ _ _ _ _ _ _ _ _ _ _ _ _ _ _ _ _ _ _ _ _ _ _ _ _ _ _ _ _ _ _ _ _ _ _ _ _ _ _ _ _ _ _ _ _ _ _ _ _ _ _ _ _ _ _ _ _ _ _ _ _ _ _ _ _ _ _ _ _ _ _ _ _ _ _ _ _ _ _ _ _ _ _ _ _ _ _ _ _ _ _ _ _ _ _ _  ?_
                  intros
                  rename_i hfin
                  go_wp2
                  go_meet
                  exact hfin
              case rest =>
                as_aux_lemma =>
                  rename_i hgo
                  refine hgo _ _ (sw_tail w _ E b1 b2 a1 a2 i _ _ _ _ _ _ _ _ _ _ _ _ _ _ _ _ _ _ _ _ _ _ _ _ _ _ _ _ _ _ _ _ _ _ _ _ _ _ _ _ _ _ _ _ _ _ _ _ _ _ _ _ _ _ _ _ _ _ _ _ _ _ _ _ _ _ _ _ _ _ _ _ _ _ _ _ _ _ _ _ _ _ _ _ _ _ _ _ _ _ _ _ _ _ _ _ _ _ _ _ _ _ _ _ _ _ _ _ _ _ _ _ _ _ _ _ _ _ _ _ _ _ _ _ _ _ _ _ _ _ _ _ _ _ _ _ _ _ _ _ _ _ _ _ _ _ _ _ _ _ _ _ _ _ _ _ _ _ _ _ _ _ _ _ _ _ _ _ _ _ _ _ _ _ _ _ _ _ _ _ _ _ _ _ _ _ _ _ _ _ _ _ _ _ _ _ _ _ _ _ _ _ _ _ _ _ _ _ _ _ _ _ _ _ _ _ _ _ _ _ _ _ _ _ _ _ _ _ _ _ _ _ _ _ _ _ _ _ _ _ _ _ _ _ _ _ _ _ _ _ _ _ _ _ _ _ _ _ _ _ _ _ _  hcut hi60 ?_)
                  intros
                  rename_i hfin
                  obtain ⟨D', F', hD', hS'⟩ := hfin
                  have HF := Lib.hid hS'
                  clear hS' hcut HS1 n1 n2 n3 n4 n5 ln
                  go_wp2
                  go_roundw
                  case rel => exact ⟨i + 1, by omega, by omega, by go_num, D', F', hD', HF.out⟩
                  case measure => simp [intOf]; omega
    · obtain rfl : k = 2 := by omega
      have HS1 := Lib.hid HS.out
      go_wp2
      go_ret
      exact ⟨rfl, below_of HE.out HS1.out⟩

end Go.Proofs.Ytpfhfeccdhmgiaa
