/- The walk of the statement TraceOrder. (Its regions' scripts were printed by gentorder.py, reg.py.) -/
import Derived.Test.YtnmcdecdgcnmbaaDepth
import Derived.Test.YtnmcdecdgcnmbaaTraceLives
import Derived.Test.YtnmcdecdgcnmbaaStrs
import Derived.Test.YtnmcdecdgcnmbaaTraceName
import Derived.Deep.RegionHeld3
import Derived.Deep.DeepCutAuto
import Derived.Outline
import Derived.Test.YtnmcdecdgcnmbaaTOrd17f
import Derived.Test.YtnmcdecdgcnmbaaTOrd17t
import Derived.Test.YtnmcdecdgcnmbaaTOrd22f
import Derived.Test.YtnmcdecdgcnmbaaTOrd22tf
import Derived.Test.YtnmcdecdgcnmbaaTOrd22tt
import Derived.Test.YtnmcdecdgcnmbaaTOrd24f
import Derived.Test.YtnmcdecdgcnmbaaTOrd24tf
import Derived.Test.YtnmcdecdgcnmbaaTOrd24eq
import Derived.Test.YtnmcdecdgcnmbaaTOrd24t
import Derived.Test.YtnmcdecdgcnmbaaTOrd24l
set_option linter.unusedVariables false
namespace Go.Proofs.Ytnmcdecdgcnmbaa
open Go.RowKit

def orderMeas (v : Value) : Nat := match v with | .string x => x.size | _ => 0
set_option maxRecDepth 100000 in
set_option maxHeartbeats 40000000 in
theorem traceOrder_walk (a0 : Int) (a1 : Int) (a2 : Int) (w0 : (Lit.int .i64 a0).wf = true) (w1 : (Lit.int .i64 a1).wf = true) (w2 : (Lit.int .i64 a2).wf = true) (w : World) :
    Calls Try.prog 7 #[.int .i64 a0, .int .i64 a1, .int .i64 a2] w fun e w' => e = .returned (.bool true) ∧ Below w.heap.size w w' := by
  have b0 := wf_i64 w0
  have b1 := wf_i64 w1
  have b2 := wf_i64 w2
  have Hb0 := Lib.hid b0
  have Hb1 := Lib.hid b1
  have Hb2 := Lib.hid b2
  clear b0 b1 b2
  clear w0 w1 w2
  go_enter Try.func7, Try.ntmps7
  go_wp2_with fail
  refine (name_any a0 _ Hb0.out.1 Hb0.out.2).mono ?_
  rintro e x1 ⟨l0, rfl, hok0, hf1⟩
  have Hok0 := Lib.hid hok0
  have Hf1 := Lib.hid hf1
  clear hok0 hf1
  go_wp2_with fail
  refine (name_any a1 _ Hb1.out.1 Hb1.out.2).mono ?_
  rintro e x2 ⟨l1, rfl, hok1, hf2⟩
  have hf2 := Hf1.out.trans hf2
  have Hok1 := Lib.hid hok1
  have Hf2 := Lib.hid hf2
  clear hok1 hf2
  go_wp2_with fail
  refine (name_any a2 _ Hb2.out.1 Hb2.out.2).mono ?_
  rintro e x3 ⟨l2, rfl, hok2, hf3⟩
  have hf3 := Hf2.out.trans hf3
  have hrow := str_lit x3 [bs l0, bs l1, bs l2] #[.string (bs l0), .string (bs l1), .string (bs l2)] rfl 3 rfl x3.heap.size (Nat.le_refl _) (by omega)
  have hall : ∀ x ∈ [bs l0, bs l1, bs l2], OkX x := by
    intro x hx
    have key : ∀ l, NameOk l → OkX (bs l) := fun l h => ⟨by rw [bs_size]; have := h.hi; omega, by obtain ⟨r, hr, _⟩ := h.rd; exact ⟨r, hr⟩⟩
    simp only [List.mem_cons, List.not_mem_nil, or_false] at hx
    rcases hx with rfl | rfl | rfl
    · exact key _ Hok0.out
    · exact key _ Hok1.out
    · exact key _ hok2
  have hfa : Frm noB x3 (x3.alloc (.cells #[.string (bs l0), .string (bs l1), .string (bs l2)] 9)) := (Frm.refl _ _).alloc _
  generalize hL0 : [bs l0, bs l1, bs l2] = L0 at *
  have hL3 : L0.length = 3 := by rw [← hL0]; rfl
  have Hok2 := Lib.hid hok2
  have Hf3 := Lib.hid hf3
  have Hrow := Lib.hid hrow
  have Hall := Lib.hid hall
  have Hfa := Lib.hid hfa
  have HL3 := Lib.hid hL3
  have HL0 := Lib.hid hL0
  clear hok2 hf3 hrow hall hfa hL3 hL0
  go_wp2_with fail
  go_loopw [7, 8] (fun v i wr => ∃ (t : Nat) (L : List ByteArray), t ≤ 3 ∧ i = .int .i64 t ∧ Own strE wr x3.heap.size 9 v L ∧ 3 ≤ L.length ∧ L.length ≤ 12 ∧ (∀ x ∈ L, OkX x) ∧ Frm noB x3 wr) (fun _ i _ => 3 - (intOf i).toNat)
  case atStart => exact ⟨0, L0, by omega, rfl, Hrow.out, by rw [HL3.out]; exact Nat.le_refl _, by rw [HL3.out]; omega, Hall.out, Hfa.out⟩
  case round =>
    obtain ⟨t, L, ht, rfl, ho, hl3, hl12, hall, hf⟩ := hrel
    by_cases hlt : t < 3
    · obtain ⟨x, hx⟩ := get_of_lt (l := L) (j := t) (by omega)
      have hox := hall x (List.mem_of_getElem? hx)
      have hup : ∀ y : ByteArray, OkX y → upL y.data.toList ≠ [] → OkX (bs (upL y.data.toList)) := fun y hy hu => ⟨by rw [bs_size]; have := upL_le y.data.toList; have := hy.size; rw [ba_len] at *; omega, by obtain ⟨r, hr⟩ := hy.rd; exact ⟨r, up_read hr hu⟩⟩
      have hxs := hox.size
      obtain ⟨va, vc, rfl, _, hg⟩ := ho.shape
      obtain ⟨g, rfl, _, hgl⟩ := hg (by omega)
      have c0 := str_cell ho hx
      obtain ⟨n, hn⟩ : ∃ n, n = L.length := ⟨_, rfl⟩
      rw [← hn] at ho hl3 hl12 ⊢
      have hu0 : upL x.data.toList = [] ∨ OkX (bs (upL x.data.toList)) := by
        by_cases hu : upL x.data.toList = []
        · exact .inl hu
        · exact .inr (hup x hox hu)
      clear hg
      have Ho := Lib.hid ho
      have Hall := Lib.hid hall
      have Hf := Lib.hid hf
      have Hx := Lib.hid hx
      have Hox := Lib.hid hox
      have Hup := Lib.hid hup
      have Hn := Lib.hid hn
      have Hu0 := Lib.hid hu0
      clear ho hall hf hx hox hup hn hu0
      go_wp2_with fail
      with_reducible refine (up_any x _ hxs).mono ?_
      rintro e w' ⟨rfl, rfl⟩
      go_wp2_with fail
      go_loopw [7, 9] (fun v u wy => ∃ (M : List ByteArray) (y : List UInt8), u = .string (bs y) ∧ (y = [] ∨ OkX (bs y)) ∧ Own strE wy x3.heap.size 9 v M ∧ 3 ≤ M.length ∧ M.length ≤ 12 ∧ (∀ x ∈ M, OkX x) ∧ Frm noB x3 wy) (fun _ u _ => orderMeas u)
      case atStart => exact ⟨L, _, rfl, Hu0.out, Ho.out, by rw [← Hn.out]; exact hl3, by rw [← Hn.out]; exact hl12, Hall.out, Hf.out⟩
      case round =>
        obtain ⟨M, y, rfl, hy, ho2, hm3, hm12, hall2, hf2⟩ := hrel
        obtain ⟨vb, vd, rfl, _, _⟩ := ho2.shape
        obtain ⟨m, hm⟩ : ∃ m, m = M.length := ⟨_, rfl⟩
        rw [← hm] at ho2 hm3 hm12 ⊢
        by_cases hy0 : y = []
        · subst hy0
          have he : (bs ([] : List UInt8)).toList.isEmpty = true := by rw [bs_isEmpty]; rfl
          have Hy := Lib.hid hy
          have Ho2 := Lib.hid ho2
          have Hall2 := Lib.hid hall2
          have Hf2 := Lib.hid hf2
          have Hm := Lib.hid hm
          clear hy ho2 hall2 hf2 hm
          go_wp2_with fail
          go_roundw
          case rel => exact ⟨t + 1, M, by omega, by go_num, Ho2.out, by rw [← Hm.out]; exact hm3, by rw [← Hm.out]; exact hm12, Hall2.out, Hf2.out⟩
          case measure => simp [intOf]; omega
        · have he : (bs y).toList.isEmpty = false := by rw [bs_isEmpty]; cases y; exact absurd rfl hy0; rfl
          have hoy : OkX (bs y) := hy.resolve_left hy0
          by_cases h12 : m < 12
          · have hys := hoy.size
            have hms : M.length ≤ 1000000 := by omega
            have hwz := hf2.size
            have hun : upL y = [] ∨ OkX (bs (upL y)) := by
              by_cases hu : upL y = []
              · exact .inl hu
              · exact .inr (Hup.out (bs y) hoy hu)
            have hmeas : orderMeas (.string (bs (upL y))) < orderMeas (.string (bs y)) := by
              show (bs (upL y)).size < (bs y).size
              rw [bs_size, bs_size]
              by_cases hu : upL y = []
              · rw [hu]; cases y; exact absurd rfl hy0; simp
              · exact upL_len hu
            have hal3 : ∀ x ∈ M ++ [bs y], OkX x := fun x hx => by
              rcases List.mem_append.1 hx with h | h
              · exact hall2 x h
              · simp at h; subst h; exact hoy
            generalize hby : bs y = Y at *
            have hupy : upL Y.data.toList = upL y := by rw [← hby]; rfl
            have Hy := Lib.hid hy
            have Ho2 := Lib.hid ho2
            have Hall2 := Lib.hid hall2
            have Hf2 := Lib.hid hf2
            have Hm := Lib.hid hm
            have Hy0 := Lib.hid hy0
            have Hoy := Lib.hid hoy
            have Hms := Lib.hid hms
            have Hwz := Lib.hid hwz
            have Hun := Lib.hid hun
            have Hal3 := Lib.hid hal3
            have Hby := Lib.hid hby
            have Hmeas := Lib.hid hmeas
            clear hy ho2 hall2 hf2 hm hy0 hoy hms hwz hun hal3 hby hmeas
            go_wp2_with (at_builtin; refine app_str _ (by rfl) _ _ (by rfl) x3.heap.size _ M (by rfl) Ho2.out Y _ (by rfl) _ rfl (by rfl) Hms.out Hwz.out ?_)
            intro v' w3 ho3 _ hf3 _ _
            have hf4 := Hf2.out.new hf3 (fun i hi hh => by have := (Ho2.out.lt i hh.symm).1; omega)
            have hlen : (M ++ [Y]).length = m + 1 := by rw [List.length_append, ← Hm.out]; rfl
            have hupc := fun w => up_any Y w hys
            rw [hupy] at hupc
            have Ho3 := Lib.hid ho3
            have Hf4 := Lib.hid hf4
            have Hlen := Lib.hid hlen
            have Hupc := Lib.hid hupc
            have Hupy := Lib.hid hupy
            clear ho3 hf4 hlen hupc hupy
            clear hf3
            go_wp2_with fail
            refine (Hupc.out _).mono ?_
            rintro e w' ⟨rfl, rfl⟩
            go_wp2_with fail
            go_roundw
            case rel => exact ⟨M ++ [Y], upL y, rfl, Hun.out, Ho3.out, by rw [Hlen.out]; omega, by rw [Hlen.out]; omega, Hal3.out, Hf4.out⟩
            case measure => exact Hmeas.out
          · have h12b : decide ((m : Int) < 12) = false := decide_eq_false (by omega)
            generalize hby : bs y = Y at *
            have Hy := Lib.hid hy
            have Ho2 := Lib.hid ho2
            have Hall2 := Lib.hid hall2
            have Hf2 := Lib.hid hf2
            have Hm := Lib.hid hm
            have Hy0 := Lib.hid hy0
            have Hoy := Lib.hid hoy
            have Hby := Lib.hid hby
            clear hy ho2 hall2 hf2 hm hy0 hoy hby
            go_wp2_with fail
            go_roundw
            case rel => exact ⟨t + 1, M, by omega, by go_num, Ho2.out, by rw [← Hm.out]; exact hm3, by rw [← Hm.out]; exact hm12, Hall2.out, Hf2.out⟩
            case measure => simp [intOf]; omega
    · obtain ⟨va, vc, rfl, hvc, hg⟩ := ho.shape
      obtain ⟨g, rfl, hgg, hgl⟩ := hg (by omega)
      obtain ⟨n, hn⟩ : ∃ n, n = L.length := ⟨_, rfl⟩
      clear hvc hgg
      rw [← hn] at ho hl3 hl12 ⊢
      obtain ⟨wo, hwo⟩ : ∃ W : World, W = wr := ⟨_, rfl⟩
      subst hwo
      have hfw := Hf3.out.trans hf
      clear hg hgl
      have Ho := Lib.hid ho
      have Hall := Lib.hid hall
      have Hf := Lib.hid hf
      have Hn := Lib.hid hn
      have Hfw := Lib.hid hfw
      clear ho hall hf hn hfw
      go_wp2_with fail
      clear hlt ht
      go_loopw [6, 10] (fun r u wa => ∃ i : Nat, i ≤ n ∧ r = .bool false ∧ u = .int .i64 i ∧ Frm noB wo wa) (fun _ u _ => n - (intOf u).toNat)
      case atStart => exact ⟨0, by omega, rfl, rfl, Frm.refl _ _⟩
      case round =>
        obtain ⟨wa, hwv⟩ : ∃ W : World, W = wr := ⟨_, rfl⟩
        subst hwv
        obtain ⟨i, hi, rfl, rfl, hfa⟩ := hrel
        by_cases hlt : i < n
        · obtain ⟨x, hx⟩ := get_of_lt (l := L) (j := i) (by rw [← Hn.out]; exact hlt)
          have hox := Hall.out x (List.mem_of_getElem? hx)
          have Hxs := Lib.hid hox.size
          have fr0 := (Frm.refl noB wa).drew
          have c0 := str_cell ((Ho.out.keep hfa).keep fr0) hx
          have hgl : g < wa.heap.size := World.block_lt_of_cell? wa.drew ⟨g, i, none⟩ c0
          have i1 : (0 : Int) ≤ (i : Int) := by omega
          have i2 : (i : Int) < (n : Int) := by omega
          have Hf0 := Lib.hid (hfa.trans fr0)
          have hself : befL x.data.toList x.data.toList = false := bf_self x
          have Hfa := Lib.hid hfa
          have Hfr0 := Lib.hid fr0
          have Hx := Lib.hid hx
          have Hox := Lib.hid hox
          have Hself := Lib.hid hself
          clear hfa fr0 hx hox hself
          go_upto_region 12 with fail
          go_region_held3 (fun W => W.cell? ⟨g, i, none⟩ = some (.string x)) (with_reducible assumption)
            (first | (go_at_call 22; (with_reducible refine (before_any x x _ Hxs.out).mono ?_); rintro e v1 ⟨rfl, hv1⟩; rw [Hself.out]; have c1 := cell_frm hv1 (fun h => h) c0; have Hf1 := Lib.hid (Hf0.out.trans hv1); clear hv1))
          clear c0 c1
          go_wp2_with fail
          go_loopw [6, 11] (fun r u wb => ∃ j : Nat, j ≤ n ∧ r = .bool false ∧ u = .int .i64 j ∧ Frm noB wo wb) (fun _ u _ => n - (intOf u).toNat)
          case atStart => exact ⟨0, by omega, rfl, rfl, Hf1.out⟩
          case round =>
            obtain ⟨wb, hwv⟩ : ∃ W : World, W = wr := ⟨_, rfl⟩
            subst hwv
            obtain ⟨j, hj, rfl, rfl, hfb⟩ := hrel
            by_cases hltj : j < n
            · obtain ⟨y, hy⟩ := get_of_lt (l := L) (j := j) (by rw [← Hn.out]; exact hltj)
              have hoy := Hall.out y (List.mem_of_getElem? hy)
              have Hys := Lib.hid hoy.size
              have i3 : (0 : Int) ≤ (j : Int) := by omega
              have i4 : (j : Int) < (n : Int) := by omega
              have Hfb := Lib.hid hfb
              have Hy := Lib.hid hy
              have Hoy := Lib.hid hoy
              clear hfb hy hoy
              go_upto_region 17 with fail
              go_cut [108] (fun t wx => t = .bool false ∧ Frm noB wo wx)
              case first =>
                have hc : wb.cell? ⟨g, i, none⟩ = some (.string x) ∧ wb.cell? ⟨g, j, none⟩ = some (.string y) := ⟨str_cell (Ho.out.keep Hfb.out) Hx.out, str_cell (Ho.out.keep Hfb.out) Hy.out⟩
                cases hxy : bf x y
                · refine ord17f hc hlt hltj hl12 Hxs.out Hys.out hxy ?_
                  intros
                  go_wp2_with fail
                  go_meet
                  exact ⟨rfl, Hfb.out.trans (by assumption)⟩
                · refine ord17t hc hlt hltj hl12 Hxs.out Hys.out hxy Hoy.out ?_
                  intros
                  go_wp2_with fail
                  go_meet
                  exact ⟨rfl, Hfb.out.trans (by assumption)⟩
              case rest =>
                obtain ⟨rfl, hfc⟩ := hcut
                have Hfc := Lib.hid hfc
                clear hfc
                go_wp2_with fail
                go_loopw [6, 12] (fun r u wd => ∃ k : Nat, k ≤ n ∧ r = .bool false ∧ u = .int .i64 k ∧ Frm noB wo wd) (fun _ u _ => n - (intOf u).toNat)
                case atStart => exact ⟨0, by omega, rfl, rfl, Hfc.out⟩
                case round =>
                  obtain ⟨wd, hwv⟩ : ∃ W : World, W = wr := ⟨_, rfl⟩
                  subst hwv
                  obtain ⟨k, hk, rfl, rfl, hfd⟩ := hrel
                  by_cases hltk : k < n
                  · obtain ⟨z, hz⟩ := get_of_lt (l := L) (j := k) (by rw [← Hn.out]; exact hltk)
                    have hoz := Hall.out z (List.mem_of_getElem? hz)
                    have Hzs := Lib.hid hoz.size
                    have i5 : (0 : Int) ≤ (k : Int) := by omega
                    have i6 : (k : Int) < (n : Int) := by omega
                    have Hfd := Lib.hid hfd
                    have Hz := Lib.hid hz
                    have Hoz := Lib.hid hoz
                    clear hfd hz hoz
                    go_upto_region 22 with fail
                    go_cut [146] (fun t wx => t = .bool false ∧ Frm noB wo wx)
                    case first =>
                      have hc : wd.cell? ⟨g, i, none⟩ = some (.string x) ∧ wd.cell? ⟨g, j, none⟩ = some (.string y) ∧ wd.cell? ⟨g, k, none⟩ = some (.string z) := ⟨str_cell (Ho.out.keep Hfd.out) Hx.out, str_cell (Ho.out.keep Hfd.out) Hy.out, str_cell (Ho.out.keep Hfd.out) Hz.out⟩
                      cases hxy : bf x y
                      · refine ord22f hc hlt hltj hltk hl12 Hxs.out Hys.out Hzs.out hxy ?_
                        intros
                        go_wp2_with fail
                        go_meet
                        exact ⟨rfl, Hfd.out.trans (by assumption)⟩
                      · cases hyz : bf y z
                        · refine ord22tf hc hlt hltj hltk hl12 Hxs.out Hys.out Hzs.out hxy hyz ?_
                          intros
                          go_wp2_with fail
                          go_meet
                          exact ⟨rfl, Hfd.out.trans (by assumption)⟩
                        · refine ord22tt hc hlt hltj hltk hl12 Hxs.out Hys.out Hzs.out hxy hyz ?_
                          intros
                          go_wp2_with fail
                          go_meet
                          exact ⟨rfl, Hfd.out.trans (by assumption)⟩
                    case rest =>
                      obtain ⟨rfl, hfe⟩ := hcut
                      have Hfe := Lib.hid hfe
                      clear hfe
                      go_wp2_with fail
                      go_upto_region 24 with fail
                      go_cut [201] (fun t wx => t = .bool false ∧ Frm noB wo wx)
                      case first =>
                        have hc : wc.cell? ⟨g, i, none⟩ = some (.string x) ∧ wc.cell? ⟨g, j, none⟩ = some (.string y) ∧ wc.cell? ⟨g, k, none⟩ = some (.string z) := ⟨str_cell (Ho.out.keep Hfe.out) Hx.out, str_cell (Ho.out.keep Hfe.out) Hy.out, str_cell (Ho.out.keep Hfe.out) Hz.out⟩
                        cases hxz : bf x z
                        · refine ord24f hc hlt hltj hltk hl12 Hxs.out Hys.out Hzs.out hxz ?_
                          intros
                          go_wp2_with fail
                          go_meet
                          exact ⟨rfl, Hfe.out.trans (by assumption)⟩
                        · cases hyz : bf y z
                          · refine ord24tf hc hlt hltj hltk hl12 Hxs.out Hys.out Hzs.out hxz hyz ?_
                            intros
                            go_wp2_with fail
                            go_meet
                            exact ⟨rfl, Hfe.out.trans (by assumption)⟩
                          · by_cases hxye : x = y
                            · refine ord24eq hc hlt hltj hltk hl12 Hxs.out Hys.out Hzs.out hxz hyz hxye ?_
                              intros
                              go_wp2_with fail
                              go_meet
                              exact ⟨rfl, Hfe.out.trans (by assumption)⟩
                            · cases hxy : bf x y
                              · refine ord24l hc hlt hltj hltk hl12 Hxs.out Hys.out Hzs.out hxz hyz hxye hxy ?_
                                intros
                                go_wp2_with fail
                                go_meet
                                exact ⟨rfl, Hfe.out.trans (by assumption)⟩
                              · refine ord24t hc hlt hltj hltk hl12 Hxs.out Hys.out Hzs.out hxz hyz hxye hxy ?_
                                intros
                                go_wp2_with fail
                                go_meet
                                exact ⟨rfl, Hfe.out.trans (by assumption)⟩
                      case rest =>
                        obtain ⟨rfl, hfg⟩ := hcut
                        have Hfg := Lib.hid hfg
                        clear hfg
                        go_wp2_with fail
                        go_roundw
                        case rel => exact ⟨k + 1, by omega, rfl, by go_num, Hfg.out⟩
                        case measure => simp [intOf]; omega
                  · have Hfd := Lib.hid hfd
                    clear hfd
                    go_wp2_with fail
                    go_roundw
                    case rel => exact ⟨j + 1, by omega, rfl, by go_num, Hfd.out⟩
                    case measure => simp [intOf]; omega
            · have Hfb := Lib.hid hfb
              clear hfb
              go_wp2_with fail
              go_roundw
              case rel => exact ⟨i + 1, by omega, rfl, by go_num, Hfb.out⟩
              case measure => simp [intOf]; omega
        · have Hfa := Lib.hid hfa
          clear hfa
          go_wp2_with fail
          refine (lives_any _).mono ?_
          rintro e y3 ⟨rfl, hg3⟩
          have hf10 := Hfw.out.trans (Hfa.out.trans hg3)
          have Hf10 := Lib.hid hf10
          clear hf10
          clear hg3
          go_wp2_with fail
          go_ret
          exact ⟨rfl, Hf10.out.below (Nat.le_refl _) (fun _ _ h => h)⟩
end Go.Proofs.Ytnmcdecdgcnmbaa
