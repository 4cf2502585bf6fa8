/- TraceOrder, region 17, one case. (Printed by gentorder2.py.) -/
import Derived.Test.YtnmcdecdgcnmbaaTOrdP
set_option linter.unusedVariables false
set_option linter.unusedSimpArgs false
namespace Go.Proofs.Ytnmcdecdgcnmbaa
open Go.RowKit
set_option maxRecDepth 1000000 in
set_option maxHeartbeats 40000000 in
theorem ord17t {u0 u1 u2 u3 u4 u5 u6 u8 u9 u12 u13 u14 u15 u16 u17 u18 u19 u20 u21 u22 u23 u24 u25 u26 u27 u28 u29 u30 u31 u32 u33 u34 u35 u36 u37 u38 u39 u40 u41 u42 u43 u44 u45 u46 u47 u48 u49 u50 u51 u52 u53 u54 u55 u56 u57 u58 u59 u60 u61 u62 u63 u64 u65 u66 u67 u68 u69 u70 u71 u72 u73 u74 u75 u76 u77 u78 u79 u80 u81 u82 u83 u84 u85 u86 u87 u88 u89 u90 u91 u92 u93 u94 u95 u96 u97 u98 u99 u100 u101 u102 u103 u104 u105 u106 u107 u108 u109 u110 u111 u112 u113 u114 u115 u116 u117 u118 u119 u120 u121 u122 u123 u124 u125 u126 u127 u128 u129 u130 u131 u132 u133 u134 u135 u136 u137 u138 u139 u140 u141 u142 u143 u144 u145 u146 u147 u148 u149 u150 u151 u152 u153 u154 u155 u156 u157 u158 u159 u160 u161 u162 u163 u164 u165 u166 u167 u168 u169 u170 u171 u172 u173 u174 u175 u176 u177 u178 u179 u180 u181 u182 u183 u184 u185 u186 u187 u188 u189 u190 u191 u192 u193 u194 u195 u196 u197 u198 u199 u200 u201 u202 : Value} {Q : Exit → Act → World → Prop} {n vc g i j : Nat} {x y : ByteArray} {wb : World} (hc : wb.cell? ⟨g, i, none⟩ = some (.string x) ∧ wb.cell? ⟨g, j, none⟩ = some (.string y)) (hin : i < n) (hjn : j < n) (hn : n ≤ 12) (hxs : x.size ≤ 1000000) (hys : y.size ≤ 1000000) (hxy : bf x y = true) (hoy : OkX y)
    (hQ : ∀ (v63 v64 v65 v66 v67 v68 v69 v70 v71 v72 v73 v74 v75 v76 v77 v78 v79 v80 v81 v82 v83 v84 v85 v86 v87 v88 v89 v90 v91 v92 v93 v94 v95 v96 v97 v98 v99 v100 v101 v102 v103 v104 v105 v106 v107 : Value) (W : World), Frm noB wb W → Q .normal ⟨#[u0, u1, u2, u3, u4, u5, u6, .slice (some ⟨g, 0, none⟩) n vc, u8, u9, .int .i64 (i : Int), .int .i64 (j : Int), u12, u13, u14, u15, u16, u17, u18, u19, u20, u21, u22, u23, u24, u25, u26, u27, u28, u29, u30, u31, u32, u33, u34, u35, u36, u37, u38, u39, u40, u41, u42, u43, u44, u45, u46, u47, u48, u49, u50, u51, u52, u53, u54, u55, u56, u57, u58, u59, u60, u61, u62, v63, v64, v65, v66, v67, v68, v69, v70, v71, v72, v73, v74, v75, v76, v77, v78, v79, v80, v81, v82, v83, v84, v85, v86, v87, v88, v89, v90, v91, v92, v93, v94, v95, v96, v97, v98, v99, v100, v101, v102, v103, v104, v105, v106, v107, .bool false, u109, u110, u111, u112, u113, u114, u115, u116, u117, u118, u119, u120, u121, u122, u123, u124, u125, u126, u127, u128, u129, u130, u131, u132, u133, u134, u135, u136, u137, u138, u139, u140, u141, u142, u143, u144, u145, u146, u147, u148, u149, u150, u151, u152, u153, u154, u155, u156, u157, u158, u159, u160, u161, u162, u163, u164, u165, u166, u167, u168, u169, u170, u171, u172, u173, u174, u175, u176, u177, u178, u179, u180, u181, u182, u183, u184, u185, u186, u187, u188, u189, u190, u191, u192, u193, u194, u195, u196, u197, u198, u199, u200, u201, u202], []⟩ W) : Code.wp Try.prog (ordReg 17) Q ⟨#[u0, u1, u2, u3, u4, u5, u6, .slice (some ⟨g, 0, none⟩) n vc, u8, u9, .int .i64 (i : Int), .int .i64 (j : Int), u12, u13, u14, u15, u16, u17, u18, u19, u20, u21, u22, u23, u24, u25, u26, u27, u28, u29, u30, u31, u32, u33, u34, u35, u36, u37, u38, u39, u40, u41, u42, u43, u44, u45, u46, u47, u48, u49, u50, u51, u52, u53, u54, u55, u56, u57, u58, u59, u60, u61, u62, u63, u64, u65, u66, u67, u68, u69, u70, u71, u72, u73, u74, u75, u76, u77, u78, u79, u80, u81, u82, u83, u84, u85, u86, u87, u88, u89, u90, u91, u92, u93, u94, u95, u96, u97, u98, u99, u100, u101, u102, u103, u104, u105, u106, u107, u108, u109, u110, u111, u112, u113, u114, u115, u116, u117, u118, u119, u120, u121, u122, u123, u124, u125, u126, u127, u128, u129, u130, u131, u132, u133, u134, u135, u136, u137, u138, u139, u140, u141, u142, u143, u144, u145, u146, u147, u148, u149, u150, u151, u152, u153, u154, u155, u156, u157, u158, u159, u160, u161, u162, u163, u164, u165, u166, u167, u168, u169, u170, u171, u172, u173, u174, u175, u176, u177, u178, u179, u180, u181, u182, u183, u184, u185, u186, u187, u188, u189, u190, u191, u192, u193, u194, u195, u196, u197, u198, u199, u200, u201, u202], []⟩ wb := by
  conv => arg 2; whnf
  have fr0 := (Frm.refl noB wb).drew
  have c0 : wb.drew.cell? ⟨g, i, none⟩ = some (.string x) ∧ wb.drew.cell? ⟨g, j, none⟩ = some (.string y) := hc
  have hgl : g < wb.heap.size := World.block_lt_of_cell? wb ⟨g, i, none⟩ hc.1
  have Hf0 := Lib.hid fr0
  have i1 : (0 : Int) ≤ (i : Int) := by omega
  have i2 : (i : Int) < (n : Int) := by omega
  have i3 : (0 : Int) ≤ (j : Int) := by omega
  have i4 : (j : Int) < (n : Int) := by omega
  have Hxs := Lib.hid hxs
  have Hys := Lib.hid hys
  clear hxs hys hc
  have Hfr0 := Lib.hid fr0
  have HQ := Lib.hid hQ
  clear fr0 hQ
  have hb1 : befL x.data.toList y.data.toList = true := hxy
  have hb2 : befL y.data.toList x.data.toList = false := bf_back hxy
  obtain ⟨R, hR⟩ : ∃ R, reqL x.data.toList = R := ⟨_, rfl⟩
  have hR2 : reqL y.data.toList = R := by rw [← hR]; exact (bf_req hoy hxy).symm
  obtain ⟨dx, hdx⟩ : ∃ dx, depL x.data.toList = dx := ⟨_, rfl⟩
  obtain ⟨dy, hdy⟩ : ∃ dy, depL y.data.toList = dy := ⟨_, rfl⟩
  have hdd : dx < dy := by rw [← hdx, ← hdy]; exact bf_dep hxy
  have hge : decide ((dy : Int) ≤ (dx : Int)) = false := decide_eq_false (by omega)
  have hge2 : decide (dy ≤ dx) = false := decide_eq_false (by omega)
  have hge3 : ¬ dy ≤ dx := by omega
  have Hxy := Lib.hid hxy
  have Hb1 := Lib.hid hb1
  have Hb2 := Lib.hid hb2
  have HR := Lib.hid hR
  have HR2 := Lib.hid hR2
  have Hdx := Lib.hid hdx
  have Hdy := Lib.hid hdy
  have Hoy := Lib.hid hoy
  clear hxy hb1 hb2 hR hR2 hdx hdy hoy
  go_region_held3 (fun W => W.cell? ⟨g, i, none⟩ = some (.string x) ∧ W.cell? ⟨g, j, none⟩ = some (.string y)) (with_reducible assumption)
    (first
      | (go_at_call 22; (with_reducible refine (before_any x y _ Hys.out).mono ?_); rintro e v1 ⟨rfl, hv1⟩; rw [Hb1.out]; have c1 := cells2 c0 hv1; have Hf1 := Lib.hid (Hf0.out.trans hv1); clear hv1)
      | (go_at_call 22; (with_reducible refine (before_any y x _ Hxs.out).mono ?_); rintro e v2 ⟨rfl, hv2⟩; rw [Hb2.out]; have c2 := cells2 c1 hv2; have Hf2 := Lib.hid (Hf1.out.trans hv2); clear hv2)
      | (go_at_call 12; (with_reducible refine (req_any x _ Hxs.out).mono ?_); rintro e w' ⟨rfl, rfl⟩; rw [HR.out])
      | (go_at_call 12; (with_reducible refine (req_any y _ Hys.out).mono ?_); rintro e w' ⟨rfl, rfl⟩; rw [HR2.out])
      | (go_at_call 24; (with_reducible refine (depth_any x _ Hxs.out).mono ?_); rintro e w' ⟨rfl, rfl⟩; rw [Hdx.out])
      | (go_at_call 24; (with_reducible refine (depth_any y _ Hys.out).mono ?_); rintro e w' ⟨rfl, rfl⟩; rw [Hdy.out]))
  go_wp2_with fail
  exact HQ.out _ _ _ _ _ _ _ _ _ _ _ _ _ _ _ _ _ _ _ _ _ _ _ _ _ _ _ _ _ _ _ _ _ _ _ _ _ _ _ _ _ _ _ _ _ _ Hf2.out
end Go.Proofs.Ytnmcdecdgcnmbaa
