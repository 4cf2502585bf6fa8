/- Path of the reference of rewriting. -/
import Derived.Test.YtbeilgkogbcjjaaDoorRewPath
import Derived.Outline
set_option linter.unusedVariables false
namespace Go.Proofs.YtbeilgkogbcjjaaDoor
open Go.RowKit

theorem begins_pre {s t : List UInt8} (ht : ¬ t = [47]) (h : beginsL s t = true) : t.length ≤ s.length := by
  unfold beginsL at h
  rw [decide_eq_false ht, Bool.false_or, Bool.and_eq_true, List.isPrefixOf_iff_prefix] at h
  exact h.1.length_le
theorem slash_yes {s : ByteArray} (h : s = ⟨#[47]⟩) : (s.toList == [47]) = true := by
  subst h
  rw [ByteArray.toList_eq]; exact beq_iff_eq.2 rfl
theorem empty_yes {s : ByteArray} (h : s.data.toList = []) : s.toList.isEmpty = true := by
  rw [ByteArray.toList_eq, h]; rfl
set_option maxRecDepth 100000 in
set_option maxHeartbeats 4000000 in
theorem ref_path_any (mp : ByteArray) (ex : Bool) (pfx : ByteArray) (sa : Option Addr) (sn sc : Nat) (da : Option Addr) (dn dc : Nat) (path : ByteArray) (w : World) (hml : mp.size ≤ 1000) (hpl : pfx.size ≤ 1000) (hps : path.size ≤ 1000) :
    Calls Tryd.prog 14 #[ruleV mp ex pfx (.slice sa sn sc) (.slice da dn dc), .string path] w fun e w' => e = .returned (.string (bs (refP pfx.data.toList mp.data.toList ex path.data.toList))) ∧ Frm noB w w' := by
  have hB := Blk.made w (ruleC mp ex pfx (.slice sa sn sc) (.slice da dn dc)) 35
  have fa := (Frm.refl noB w).alloc (.cells (ruleC mp ex pfx (.slice sa sn sc) (.slice da dn dc)) 35)
  have b0 := (hB.cell 0).trans (show _ = some (Value.string mp) from rfl)
  have b1 := (hB.cell 1).trans (show _ = some (Value.bool ex) from rfl)
  have b8 := (hB.cell 8).trans (show _ = some (Value.string pfx) from rfl)
  have hdef : refP pfx.data.toList mp.data.toList ex path.data.toList = if pfx.data.toList = [] then path.data.toList else if ex then (if path.data.toList = mp.data.toList then pfx.data.toList else path.data.toList) else if beginsL path.data.toList mp.data.toList = false then path.data.toList else fit path.data.toList (orSlash (withP pfx.data.toList (noSlash (leftL mp.data.toList path.data.toList)))) := rfl
  generalize refP pfx.data.toList mp.data.toList ex path.data.toList = R at *
  unfold ruleV
  by_cases h0 : pfx.data.toList = []
  · have hr : bs R = path := by rw [hdef, if_pos h0, bs_of]
    obtain rfl : pfx = ⟨#[]⟩ := ba_ext h0
    unfold ruleC at *
    have HB := Lib.hid hB
    have Hfa := Lib.hid fa
    have Hdef := Lib.hid hdef
    have Hr := Lib.hid hr
    have H0 := Lib.hid h0
    clear hB fa hdef hr h0
    clear b0 b1 b8
    go_enter Tryd.func14, Tryd.ntmps14
    go_wp2_with fail
    go_ret
    exact ⟨by rw [Hr.out]; rfl, Hfa.out⟩
  have he := empty_test h0
  have he2 : ¬ pfx.toList = [] := by rw [ByteArray.toList_eq]; exact h0
  rw [if_neg h0] at hdef
  cases ex
  · rw [if_neg Bool.false_ne_true] at hdef
    have hbg := fun w => rbegins_any path mp w (by omega) (by omega)
    cases hbeg : beginsL path.data.toList mp.data.toList
    · have hr : bs R = path := by rw [hdef, if_pos hbeg, bs_of]
      rw [hbeg] at hbg
      unfold ruleC at *
      have HB := Lib.hid hB
      have Hfa := Lib.hid fa
      have Hdef := Lib.hid hdef
      have Hr := Lib.hid hr
      have H0 := Lib.hid h0
      have Hbg := Lib.hid hbg
      have Hbeg := Lib.hid hbeg
      clear hB fa hdef hr h0 hbg hbeg
      clear b0 b1 b8
      go_enter Tryd.func14, Tryd.ntmps14
      go_wp2_with fail
      refine (Hbg.out _).mono ?_
      rintro e w' ⟨rfl, rfl⟩
      go_wp2_with fail
      go_ret
      exact ⟨by rw [Hr.out]; rfl, Hfa.out⟩
    · rw [if_neg (by rw [hbeg]; simp)] at hdef
      have hpre := fun h => begins_pre (t := mp.data.toList) h hbeg
      rw [hbeg] at hbg
      unfold ruleC at *
      have Hdef := Lib.hid hdef
      have H0 := Lib.hid h0
      have Hbg := Lib.hid hbg
      have Hbeg := Lib.hid hbeg
      have Hpre := Lib.hid hpre
      clear hdef h0 hbg hbeg hpre
      go_enter Tryd.func14, Tryd.ntmps14
      go_upto_region 1 with fail
      generalize w.alloc (.cells #[.string mp, .bool false, .slice none 0 0, .slice none 0 0, .int .i64 0, .int .i64 0, .int .i64 0, .int .i64 0, .string pfx, .slice sa sn sc, .slice da dn dc, .int .i64 0, .int .i64 0, .int .i64 0, .int .i64 0, .int .i64 0, .int .i64 0, .int .i64 0, .int .i64 0] 35) = W at *
      have Hbl := Lib.hid hB.lt
      have Hfa := Lib.hid fa
      clear hB fa
      go_wp2_with fail
      refine (Hbg.out _).mono ?_
      rintro e w' ⟨rfl, rfl⟩
      go_upto_if 35 with fail
      go_cut [6] (fun s wx => s = .string (bs (leftL mp.data.toList path.data.toList)) ∧ W = wx)
      case first =>
        have hbl := Hbl.out
        by_cases hmp : mp = ⟨#[47]⟩
        · have hr : bs (leftL mp.data.toList path.data.toList) = path := by rw [hmp]; exact bs_of path
          have t1 : (mp.toList == [47]) = true := slash_yes hmp
          have t2 : (!(mp.toList == [47])) = false := by rw [t1]; rfl
          rw [t2]
          have Hr := Lib.hid hr
          have Hmp := Lib.hid hmp
          clear hr hmp
          clear t1 t2
          go_wp2_with fail
          go_meet
          exact ⟨by rw [Hr.out], rfl⟩
        · have t1 := slash_test hmp
          have t2 : (!(mp.toList == [47])) = true := by rw [t1]; rfl
          have hr : bs (leftL mp.data.toList path.data.toList) = path.extract mp.size path.size := by rw [leftL, if_neg (ne_slash hmp), ext_drop, ba_len]
          have hle := Hpre.out (ne_slash hmp)
          rw [ba_len, ba_len] at hle
          have i1 : (0 : Int) ≤ (mp.size : Int) := by omega
          have i2 : (mp.size : Int) ≤ (path.size : Int) := by omega
          rw [t2]
          have Hr := Lib.hid hr
          have Hmp := Lib.hid hmp
          clear hr hmp
          clear t1 t2
          go_wp2_with fail
          go_meet
          exact ⟨by rw [Hr.out], rfl⟩
      case rest =>
        obtain ⟨rfl, rfl⟩ := hcut
        have hll : (leftL mp.data.toList path.data.toList).length ≤ 1000 := by
          unfold leftL; split
          · rw [ba_len]; exact hps
          · rw [List.length_drop, ba_len]; omega
        generalize leftL mp.data.toList path.data.toList = L at *
        go_upto_if 43 with fail
        go_cut [6] (fun s wx => s = .string (bs (noSlash L)) ∧ W = wx)
        case first =>
          have hbl := Hbl.out
          by_cases hL : L = [47]
          · have t1 : ((bs L).toList == [47]) = true := slash_yes (by rw [hL]; rfl)
            have hr : bs (noSlash L) = ⟨#[]⟩ := by rw [noSlash, if_pos hL]; rfl
            rw [t1]
            have Hr := Lib.hid hr
            have HL := Lib.hid hL
            clear hr hL
            clear t1
            go_wp2_with fail
            go_meet
            exact ⟨by rw [Hr.out], rfl⟩
          · have t1 : ((bs L).toList == [47]) = false := slash_test (fun e => hL (by have := congrArg (fun b => b.data.toList) e; exact this))
            have hr : bs (noSlash L) = bs L := by rw [noSlash, if_neg hL]
            rw [t1]
            have Hr := Lib.hid hr
            have HL := Lib.hid hL
            clear hr hL
            clear t1
            go_wp2_with fail
            go_meet
            exact ⟨by rw [Hr.out], rfl⟩
        case rest =>
          obtain ⟨rfl, rfl⟩ := hcut
          have hnl : (noSlash L).length ≤ 1000 := by unfold noSlash; split; simp; exact hll
          clear hll
          generalize noSlash L = N at *
          have hadd := fun w => run_cat pfx (bs N) (by rw [bs_size]; omega) w
          have hbl := Hbl.out
          have Hadd := Lib.hid hadd
          clear hadd
          go_upto_if 50 with (refine wpl_add (by rfl) _ _ (by rfl) _ _ _ (by rfl) (by rfl) (Hadd.out _) ?_)
          go_cut [7] (fun s wx => s = .string (bs (withP pfx.data.toList N)) ∧ W = wx)
          case first =>
            by_cases hp : pfx = ⟨#[47]⟩
            · have t1 := slash_yes hp
              have hr : bs (withP pfx.data.toList N) = bs N := by rw [withP, if_pos (by rw [hp])]
              rw [t1]
              have Hr := Lib.hid hr
              have Hp := Lib.hid hp
              clear hr hp
              clear t1
              go_wp2_with fail
              go_meet
              exact ⟨by rw [Hr.out], rfl⟩
            · have t1 := slash_test hp
              have hr : bs (withP pfx.data.toList N) = pfx ++ bs N := by rw [withP, if_neg (ne_slash hp), bs_cat, bs_list]
              rw [t1]
              have Hr := Lib.hid hr
              have Hp := Lib.hid hp
              clear hr hp
              clear t1
              go_wp2_with fail
              go_meet
              exact ⟨by rw [Hr.out], rfl⟩
          case rest =>
            obtain ⟨rfl, rfl⟩ := hcut
            have hwl : (withP pfx.data.toList N).length ≤ 2000 := by
              unfold withP; split
              · omega
              · rw [List.length_append, ba_len]; omega
            generalize withP pfx.data.toList N = O at *
            go_upto_if 53 with fail
            go_cut [7] (fun s wx => s = .string (bs (orSlash O)) ∧ W = wx)
            case first =>
              by_cases hO : O = []
              · have t1 := empty_yes (s := bs O) (by rw [bs_list]; exact hO)
                have t2 : (bs O).toList = [] := by rw [ByteArray.toList_eq, bs_list]; exact hO
                have hr : bs (orSlash O) = ⟨#[47]⟩ := by rw [orSlash, if_pos hO]; rfl
                rw [t1]
                have Hr := Lib.hid hr
                have HO := Lib.hid hO
                clear hr hO
                clear t1 t2
                go_wp2_with fail
                go_meet
                exact ⟨by rw [Hr.out], rfl⟩
              · have t1 := empty_test (s := bs O) (by rw [bs_list]; exact hO)
                have t2 : ¬ (bs O).toList = [] := by rw [ByteArray.toList_eq, bs_list]; exact hO
                have hr : bs (orSlash O) = bs O := by rw [orSlash, if_neg hO]
                rw [t1]
                have Hr := Lib.hid hr
                have HO := Lib.hid hO
                clear hr hO
                clear t1 t2
                go_wp2_with fail
                go_meet
                exact ⟨by rw [Hr.out], rfl⟩
            case rest =>
              obtain ⟨rfl, rfl⟩ := hcut
              have hol : (orSlash O).length ≤ 2000 := by unfold orSlash; split; simp; exact hwl
              clear hwl
              generalize orSlash O = O2 at *
              have hsz := bs_size O2
              have hdf := Hdef.out
              by_cases h6 : 60 < O2.length
              · have hr : bs R = path := by rw [hdf, fit, if_pos h6, bs_of]
                rw [← hsz] at h6
                generalize bs O2 = Q at *
                have Hdf := Lib.hid hdf
                have Hr := Lib.hid hr
                have Hsz := Lib.hid hsz
                clear hdf hr hsz
                go_wp2_with fail
                go_ret
                exact ⟨by rw [Hr.out]; rfl, Hfa.out⟩
              · have hr : bs R = bs O2 := by rw [hdf, fit, if_neg h6]
                rw [← hsz] at h6
                generalize bs O2 = Q at *
                have Hdf := Lib.hid hdf
                have Hr := Lib.hid hr
                have Hsz := Lib.hid hsz
                clear hdf hr hsz
                go_wp2_with fail
                go_ret
                exact ⟨by rw [Hr.out]; rfl, Hfa.out⟩
  · rw [if_pos rfl] at hdef
    unfold ruleC at *
    by_cases hq : path = mp
    · have t1 := str_yes hq
      have hr : bs R = pfx := by rw [hdef, if_pos (by rw [hq]), bs_of]
      have HB := Lib.hid hB
      have Hfa := Lib.hid fa
      have Hdef := Lib.hid hdef
      have Hr := Lib.hid hr
      have H0 := Lib.hid h0
      have Hq := Lib.hid hq
      clear hB fa hdef hr h0 hq
      clear b0 b1 b8
      go_enter Tryd.func14, Tryd.ntmps14
      go_wp2_with fail
      go_ret
      exact ⟨by rw [Hr.out]; rfl, Hfa.out⟩
    · have t1 := str_ne hq
      have hr : bs R = path := by rw [hdef, if_neg (fun e => hq (ba_ext e)), bs_of]
      have HB := Lib.hid hB
      have Hfa := Lib.hid fa
      have Hdef := Lib.hid hdef
      have Hr := Lib.hid hr
      have H0 := Lib.hid h0
      have Hq := Lib.hid hq
      clear hB fa hdef hr h0 hq
      clear b0 b1 b8
      go_enter Tryd.func14, Tryd.ntmps14
      go_wp2_with fail
      go_ret
      exact ⟨by rw [Hr.out]; rfl, Hfa.out⟩
end Go.Proofs.YtbeilgkogbcjjaaDoor
