/- TraceOrder, region 24, one case. (Printed by gentorder2.py.) -/
import Derived.Test.YtnmcdecdgcnmbaaTOrdP
set_option linter.unusedVariables false
set_option linter.unusedSimpArgs false
namespace Go.Proofs.Ytnmcdecdgcnmbaa
open Go.RowKit
set_option maxRecDepth 1000000 in
set_option maxHeartbeats 40000000 in
theorem ord24l {u0 u1 u2 u3 u4 u5 u6 u8 u9 u13 u14 u15 u16 u17 u18 u19 u20 u21 u22 u23 u24 u25 u26 u27 u28 u29 u30 u31 u32 u33 u34 u35 u36 u37 u38 u39 u40 u41 u42 u43 u44 u45 u46 u47 u48 u49 u50 u51 u52 u53 u54 u55 u56 u57 u58 u59 u60 u61 u62 u63 u64 u65 u66 u67 u68 u69 u70 u71 u72 u73 u74 u75 u76 u77 u78 u79 u80 u81 u82 u83 u84 u85 u86 u87 u88 u89 u90 u91 u92 u93 u94 u95 u96 u97 u98 u99 u100 u101 u102 u103 u104 u105 u106 u107 u108 u109 u110 u111 u112 u113 u114 u115 u116 u117 u118 u119 u120 u121 u122 u123 u124 u125 u126 u127 u128 u129 u130 u131 u132 u133 u134 u135 u136 u137 u138 u139 u140 u141 u142 u143 u144 u145 u146 u147 u148 u149 u150 u151 u152 u153 u154 u155 u156 u157 u158 u159 u160 u161 u162 u163 u164 u165 u166 u167 u168 u169 u170 u171 u172 u173 u174 u175 u176 u177 u178 u179 u180 u181 u182 u183 u184 u185 u186 u187 u188 u189 u190 u191 u192 u193 u194 u195 u196 u197 u198 u199 u200 u201 u202 : Value} {Q : Exit → Act → World → Prop} {n vc g i j k : Nat} {x y z : ByteArray} {wb : World} (hc : wb.cell? ⟨g, i, none⟩ = some (.string x) ∧ wb.cell? ⟨g, j, none⟩ = some (.string y) ∧ wb.cell? ⟨g, k, none⟩ = some (.string z)) (hin : i < n) (hjn : j < n) (hkn : k < n) (hn : n ≤ 12) (hxs : x.size ≤ 1000000) (hys : y.size ≤ 1000000) (hzs : z.size ≤ 1000000) (hxz : bf x z = true) (hyz : bf y z = true) (hxye : ¬ x = y) (hxy : bf x y = false)
    (hQ : ∀ (v147 v148 v149 v150 v151 v152 v153 v154 v155 v156 v157 v158 v159 v160 v161 v162 v163 v164 v165 v166 v167 v168 v169 v170 v171 v172 v173 v174 v175 v176 v177 v178 v179 v180 v181 v182 v183 v184 v185 v186 v187 v188 v189 v190 v191 v192 v193 v194 v195 v196 v197 v198 v199 v200 : Value) (W : World), Frm noB wb W → Q .normal ⟨#[u0, u1, u2, u3, u4, u5, u6, .slice (some ⟨g, 0, none⟩) n vc, u8, u9, .int .i64 (i : Int), .int .i64 (j : Int), .int .i64 (k : Int), u13, u14, u15, u16, u17, u18, u19, u20, u21, u22, u23, u24, u25, u26, u27, u28, u29, u30, u31, u32, u33, u34, u35, u36, u37, u38, u39, u40, u41, u42, u43, u44, u45, u46, u47, u48, u49, u50, u51, u52, u53, u54, u55, u56, u57, u58, u59, u60, u61, u62, u63, u64, u65, u66, u67, u68, u69, u70, u71, u72, u73, u74, u75, u76, u77, u78, u79, u80, u81, u82, u83, u84, u85, u86, u87, u88, u89, u90, u91, u92, u93, u94, u95, u96, u97, u98, u99, u100, u101, u102, u103, u104, u105, u106, u107, u108, u109, u110, u111, u112, u113, u114, u115, u116, u117, u118, u119, u120, u121, u122, u123, u124, u125, u126, u127, u128, u129, u130, u131, u132, u133, u134, u135, u136, u137, u138, u139, u140, u141, u142, u143, u144, u145, u146, v147, v148, v149, v150, v151, v152, v153, v154, v155, v156, v157, v158, v159, v160, v161, v162, v163, v164, v165, v166, v167, v168, v169, v170, v171, v172, v173, v174, v175, v176, v177, v178, v179, v180, v181, v182, v183, v184, v185, v186, v187, v188, v189, v190, v191, v192, v193, v194, v195, v196, v197, v198, v199, v200, .bool false, u202], []⟩ W) : Code.wp Try.prog (ordReg 24) Q ⟨#[u0, u1, u2, u3, u4, u5, u6, .slice (some ⟨g, 0, none⟩) n vc, u8, u9, .int .i64 (i : Int), .int .i64 (j : Int), .int .i64 (k : Int), u13, u14, u15, u16, u17, u18, u19, u20, u21, u22, u23, u24, u25, u26, u27, u28, u29, u30, u31, u32, u33, u34, u35, u36, u37, u38, u39, u40, u41, u42, u43, u44, u45, u46, u47, u48, u49, u50, u51, u52, u53, u54, u55, u56, u57, u58, u59, u60, u61, u62, u63, u64, u65, u66, u67, u68, u69, u70, u71, u72, u73, u74, u75, u76, u77, u78, u79, u80, u81, u82, u83, u84, u85, u86, u87, u88, u89, u90, u91, u92, u93, u94, u95, u96, u97, u98, u99, u100, u101, u102, u103, u104, u105, u106, u107, u108, u109, u110, u111, u112, u113, u114, u115, u116, u117, u118, u119, u120, u121, u122, u123, u124, u125, u126, u127, u128, u129, u130, u131, u132, u133, u134, u135, u136, u137, u138, u139, u140, u141, u142, u143, u144, u145, u146, u147, u148, u149, u150, u151, u152, u153, u154, u155, u156, u157, u158, u159, u160, u161, u162, u163, u164, u165, u166, u167, u168, u169, u170, u171, u172, u173, u174, u175, u176, u177, u178, u179, u180, u181, u182, u183, u184, u185, u186, u187, u188, u189, u190, u191, u192, u193, u194, u195, u196, u197, u198, u199, u200, u201, u202], []⟩ wb := by
  conv => arg 2; whnf
  have fr0 := (Frm.refl noB wb).drew
  have c0 : wb.drew.cell? ⟨g, i, none⟩ = some (.string x) ∧ wb.drew.cell? ⟨g, j, none⟩ = some (.string y) ∧ wb.drew.cell? ⟨g, k, none⟩ = some (.string z) := hc
  have hgl : g < wb.heap.size := World.block_lt_of_cell? wb ⟨g, i, none⟩ hc.1
  have Hf0 := Lib.hid fr0
  have i1 : (0 : Int) ≤ (i : Int) := by omega
  have i2 : (i : Int) < (n : Int) := by omega
  have i3 : (0 : Int) ≤ (j : Int) := by omega
  have i4 : (j : Int) < (n : Int) := by omega
  have i5 : (0 : Int) ≤ (k : Int) := by omega
  have i6 : (k : Int) < (n : Int) := by omega
  have Hxs := Lib.hid hxs
  have Hys := Lib.hid hys
  have Hzs := Lib.hid hzs
  clear hxs hys hzs hc
  have Hfr0 := Lib.hid fr0
  have HQ := Lib.hid hQ
  clear fr0 hQ
  have hb1 : befL x.data.toList z.data.toList = true := hxz
  have hb2 : befL y.data.toList z.data.toList = true := hyz
  have heq : (x.toList == y.toList) = false := str_ne hxye
  have hb3 : befL x.data.toList y.data.toList = false := hxy
  have hb4 : befL y.data.toList x.data.toList = true := bf_line hxz hyz hxye hxy
  have Hxye := Lib.hid hxye
  have Hxz := Lib.hid hxz
  have Hyz := Lib.hid hyz
  have Hb1 := Lib.hid hb1
  have Hb2 := Lib.hid hb2
  have Hb3 := Lib.hid hb3
  have Hb4 := Lib.hid hb4
  have Hxy := Lib.hid hxy
  clear hxye hxz hyz hb1 hb2 hb3 hb4 hxy
  go_region_held3 (fun W => W.cell? ⟨g, i, none⟩ = some (.string x) ∧ W.cell? ⟨g, j, none⟩ = some (.string y) ∧ W.cell? ⟨g, k, none⟩ = some (.string z)) (with_reducible assumption)
    (first
      | (go_at_call 22; (with_reducible refine (before_any x z _ Hzs.out).mono ?_); rintro e v1 ⟨rfl, hv1⟩; rw [Hb1.out]; have c1 := cells3 c0 hv1; have Hf1 := Lib.hid (Hf0.out.trans hv1); clear hv1)
      | (go_at_call 22; (with_reducible refine (before_any y z _ Hzs.out).mono ?_); rintro e v2 ⟨rfl, hv2⟩; rw [Hb2.out]; have c2 := cells3 c1 hv2; have Hf2 := Lib.hid (Hf1.out.trans hv2); clear hv2)
      | (go_at_call 22; (with_reducible refine (before_any x y _ Hys.out).mono ?_); rintro e v3 ⟨rfl, hv3⟩; rw [Hb3.out]; have c3 := cells3 c2 hv3; have Hf3 := Lib.hid (Hf2.out.trans hv3); clear hv3)
      | (go_at_call 22; (with_reducible refine (before_any y x _ Hxs.out).mono ?_); rintro e v4 ⟨rfl, hv4⟩; rw [Hb4.out]; have c4 := cells3 c3 hv4; have Hf4 := Lib.hid (Hf3.out.trans hv4); clear hv4))
  go_wp2_with fail
  exact HQ.out _ _ _ _ _ _ _ _ _ _ _ _ _ _ _ _ _ _ _ _ _ _ _ _ _ _ _ _ _ _ _ _ _ _ _ _ _ _ _ _ _ _ _ _ _ _ _ _ _ _ _ _ _ _ _ Hf4.out
end Go.Proofs.Ytnmcdecdgcnmbaa
