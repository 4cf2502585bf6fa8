/- The parts of a path: sign, Parts and Path of the reference of layer 5. -/
import Derived.Test.YtjehdldjfnaniaaDoorPartsP
import Derived.Test.YtjehdldjfnaniaaDoorMatchP
import Derived.Outline
set_option linter.unusedVariables false
set_option linter.unusedSimpArgs false
namespace Go.Proofs.YtjehdldjfnaniaaDoor
open Go.RowKit

set_option maxHeartbeats 2000000 in
theorem sign_any (z : Nat) (w : World) : Calls Tryd.prog 40 #[.int .u8 (z : Int)] w fun e w' => e = .returned (.bool (okBN z)) ∧ w = w' := by
  have hcs : (z < 45) ∨ (z = 45) ∨ (z = 46) ∨ (z = 47) ∨ (48 ≤ z ∧ z ≤ 57) ∨ (58 ≤ z ∧ z ≤ 94) ∨ (z = 95) ∨ (z = 96) ∨ (97 ≤ z ∧ z ≤ 122) ∨ (123 ≤ z) := by omega
  rcases hcs with h0 | h1 | h2 | h3 | h4 | h5 | h6 | h7 | h8 | h9
  · have t0 : decide ((97 : Int) ≤ (z : Int)) = false := decide_eq_false (by omega)
    have t1 : decide ((z : Int) ≤ 122) = true := decide_eq_true (by omega)
    have t2 : decide ((48 : Int) ≤ (z : Int)) = false := decide_eq_false (by omega)
    have t3 : decide ((z : Int) ≤ 57) = true := decide_eq_true (by omega)
    have t4 : ((z : Int) == 45) = false := by simp; omega
    have t6 : ((z : Int) == 95) = false := by simp; omega
    have t8 : ((z : Int) == 46) = false := by simp; omega
    have hr : okBN z = false := by unfold okBN; exact decide_eq_false (by omega)
    rw [hr]
    have Hr := Lib.hid hr
    have H0 := Lib.hid h0
    clear hr h0
    go_enter Tryd.func40, Tryd.ntmps40
    go_wp2_with fail
    go_ret
    exact ⟨rfl, rfl⟩
  · have t0 : decide ((97 : Int) ≤ (z : Int)) = false := decide_eq_false (by omega)
    have t1 : decide ((z : Int) ≤ 122) = true := decide_eq_true (by omega)
    have t2 : decide ((48 : Int) ≤ (z : Int)) = false := decide_eq_false (by omega)
    have t3 : decide ((z : Int) ≤ 57) = true := decide_eq_true (by omega)
    have t4 : ((z : Int) == 45) = true := by simp; omega
    have t6 : ((z : Int) == 95) = false := by simp; omega
    have t8 : ((z : Int) == 46) = false := by simp; omega
    have hr : okBN z = true := by unfold okBN; exact decide_eq_true (by omega)
    rw [hr]
    have Hr := Lib.hid hr
    have H1 := Lib.hid h1
    clear hr h1
    go_enter Tryd.func40, Tryd.ntmps40
    go_wp2_with fail
    go_ret
    exact ⟨rfl, rfl⟩
  · have t0 : decide ((97 : Int) ≤ (z : Int)) = false := decide_eq_false (by omega)
    have t1 : decide ((z : Int) ≤ 122) = true := decide_eq_true (by omega)
    have t2 : decide ((48 : Int) ≤ (z : Int)) = false := decide_eq_false (by omega)
    have t3 : decide ((z : Int) ≤ 57) = true := decide_eq_true (by omega)
    have t4 : ((z : Int) == 45) = false := by simp; omega
    have t6 : ((z : Int) == 95) = false := by simp; omega
    have t8 : ((z : Int) == 46) = true := by simp; omega
    have hr : okBN z = true := by unfold okBN; exact decide_eq_true (by omega)
    rw [hr]
    have Hr := Lib.hid hr
    have H2 := Lib.hid h2
    clear hr h2
    go_enter Tryd.func40, Tryd.ntmps40
    go_wp2_with fail
    go_ret
    exact ⟨rfl, rfl⟩
  · have t0 : decide ((97 : Int) ≤ (z : Int)) = false := decide_eq_false (by omega)
    have t1 : decide ((z : Int) ≤ 122) = true := decide_eq_true (by omega)
    have t2 : decide ((48 : Int) ≤ (z : Int)) = false := decide_eq_false (by omega)
    have t3 : decide ((z : Int) ≤ 57) = true := decide_eq_true (by omega)
    have t4 : ((z : Int) == 45) = false := by simp; omega
    have t6 : ((z : Int) == 95) = false := by simp; omega
    have t8 : ((z : Int) == 46) = false := by simp; omega
    have hr : okBN z = false := by unfold okBN; exact decide_eq_false (by omega)
    rw [hr]
    have Hr := Lib.hid hr
    have H3 := Lib.hid h3
    clear hr h3
    go_enter Tryd.func40, Tryd.ntmps40
    go_wp2_with fail
    go_ret
    exact ⟨rfl, rfl⟩
  · have t0 : decide ((97 : Int) ≤ (z : Int)) = false := decide_eq_false (by omega)
    have t1 : decide ((z : Int) ≤ 122) = true := decide_eq_true (by omega)
    have t2 : decide ((48 : Int) ≤ (z : Int)) = true := decide_eq_true (by omega)
    have t3 : decide ((z : Int) ≤ 57) = true := decide_eq_true (by omega)
    have t4 : ((z : Int) == 45) = false := by simp; omega
    have t6 : ((z : Int) == 95) = false := by simp; omega
    have t8 : ((z : Int) == 46) = false := by simp; omega
    have hr : okBN z = true := by unfold okBN; exact decide_eq_true (by omega)
    rw [hr]
    have Hr := Lib.hid hr
    have H4 := Lib.hid h4
    clear hr h4
    go_enter Tryd.func40, Tryd.ntmps40
    go_wp2_with fail
    go_ret
    exact ⟨rfl, rfl⟩
  · have t0 : decide ((97 : Int) ≤ (z : Int)) = false := decide_eq_false (by omega)
    have t1 : decide ((z : Int) ≤ 122) = true := decide_eq_true (by omega)
    have t2 : decide ((48 : Int) ≤ (z : Int)) = true := decide_eq_true (by omega)
    have t3 : decide ((z : Int) ≤ 57) = false := decide_eq_false (by omega)
    have t4 : ((z : Int) == 45) = false := by simp; omega
    have t6 : ((z : Int) == 95) = false := by simp; omega
    have t8 : ((z : Int) == 46) = false := by simp; omega
    have hr : okBN z = false := by unfold okBN; exact decide_eq_false (by omega)
    rw [hr]
    have Hr := Lib.hid hr
    have H5 := Lib.hid h5
    clear hr h5
    go_enter Tryd.func40, Tryd.ntmps40
    go_wp2_with fail
    go_ret
    exact ⟨rfl, rfl⟩
  · have t0 : decide ((97 : Int) ≤ (z : Int)) = false := decide_eq_false (by omega)
    have t1 : decide ((z : Int) ≤ 122) = true := decide_eq_true (by omega)
    have t2 : decide ((48 : Int) ≤ (z : Int)) = true := decide_eq_true (by omega)
    have t3 : decide ((z : Int) ≤ 57) = false := decide_eq_false (by omega)
    have t4 : ((z : Int) == 45) = false := by simp; omega
    have t6 : ((z : Int) == 95) = true := by simp; omega
    have t8 : ((z : Int) == 46) = false := by simp; omega
    have hr : okBN z = true := by unfold okBN; exact decide_eq_true (by omega)
    rw [hr]
    have Hr := Lib.hid hr
    have H6 := Lib.hid h6
    clear hr h6
    go_enter Tryd.func40, Tryd.ntmps40
    go_wp2_with fail
    go_ret
    exact ⟨rfl, rfl⟩
  · have t0 : decide ((97 : Int) ≤ (z : Int)) = false := decide_eq_false (by omega)
    have t1 : decide ((z : Int) ≤ 122) = true := decide_eq_true (by omega)
    have t2 : decide ((48 : Int) ≤ (z : Int)) = true := decide_eq_true (by omega)
    have t3 : decide ((z : Int) ≤ 57) = false := decide_eq_false (by omega)
    have t4 : ((z : Int) == 45) = false := by simp; omega
    have t6 : ((z : Int) == 95) = false := by simp; omega
    have t8 : ((z : Int) == 46) = false := by simp; omega
    have hr : okBN z = false := by unfold okBN; exact decide_eq_false (by omega)
    rw [hr]
    have Hr := Lib.hid hr
    have H7 := Lib.hid h7
    clear hr h7
    go_enter Tryd.func40, Tryd.ntmps40
    go_wp2_with fail
    go_ret
    exact ⟨rfl, rfl⟩
  · have t0 : decide ((97 : Int) ≤ (z : Int)) = true := decide_eq_true (by omega)
    have t1 : decide ((z : Int) ≤ 122) = true := decide_eq_true (by omega)
    have t2 : decide ((48 : Int) ≤ (z : Int)) = true := decide_eq_true (by omega)
    have t3 : decide ((z : Int) ≤ 57) = false := decide_eq_false (by omega)
    have t4 : ((z : Int) == 45) = false := by simp; omega
    have t6 : ((z : Int) == 95) = false := by simp; omega
    have t8 : ((z : Int) == 46) = false := by simp; omega
    have hr : okBN z = true := by unfold okBN; exact decide_eq_true (by omega)
    rw [hr]
    have Hr := Lib.hid hr
    have H8 := Lib.hid h8
    clear hr h8
    go_enter Tryd.func40, Tryd.ntmps40
    go_wp2_with fail
    go_ret
    exact ⟨rfl, rfl⟩
  · have t0 : decide ((97 : Int) ≤ (z : Int)) = true := decide_eq_true (by omega)
    have t1 : decide ((z : Int) ≤ 122) = false := decide_eq_false (by omega)
    have t2 : decide ((48 : Int) ≤ (z : Int)) = true := decide_eq_true (by omega)
    have t3 : decide ((z : Int) ≤ 57) = false := decide_eq_false (by omega)
    have t4 : ((z : Int) == 45) = false := by simp; omega
    have t6 : ((z : Int) == 95) = false := by simp; omega
    have t8 : ((z : Int) == 46) = false := by simp; omega
    have hr : okBN z = false := by unfold okBN; exact decide_eq_false (by omega)
    rw [hr]
    have Hr := Lib.hid hr
    have H9 := Lib.hid h9
    clear hr h9
    go_enter Tryd.func40, Tryd.ntmps40
    go_wp2_with fail
    go_ret
    exact ⟨rfl, rfl⟩
/-- What Parts answers. -/
def PartsIs (s : ByteArray) (w : World) (e : Ending) (w' : World) : Prop := ∃ v, e = .returned (.tuple #[v, .bool (isPathL s.data.toList)]) ∧ Own strE w' w.heap.size 9 v (if isPathL s.data.toList = true then (partsL s.data.toList).map bs else []) ∧ Frm noB w w'
theorem run_mid (s : ByteArray) (i j : Nat) (h0 : i ≤ j) (h1 : j ≤ s.size) (w : World) : (Instr.slice 9 (.string s) (some (.int .i64 (i : Int))) (some (.int .i64 (j : Int))) none).run Tryd.prog w = .ok (.string (s.extract i j)) w := by
  have h2 : (0 : Int) ≤ (i : Int) ∧ (i : Int) ≤ (j : Int) ∧ (j : Int) ≤ (s.size : Int) := by omega
  simp [Instr.slice, Instr.sliceBounds, Instr.sliceBound, asIntOf, run_underlying Tryd.underlying9, h0, h1, h2]
theorem ext_mid (s : ByteArray) (i j : Nat) : s.extract i j = bs ((s.data.toList.drop i).take (j - i)) := by
  apply ByteArray.ext
  apply Array.toList_inj.1
  rw [bs_list]
  simp [ByteArray.data_extract]
set_option maxRecDepth 100000 in
set_option maxHeartbeats 4000000 in
theorem parts5_any (s : ByteArray) (w : World) (hs : s.size ≤ 1000000) : Calls Tryd.prog 27 #[.string s] w (PartsIs s w) := by
  by_cases h1 : s = ⟨#[47]⟩
  · have hi : isPathL s.data.toList = true := by rw [h1]; decide
    have hp : partsL s.data.toList = [] := by rw [h1]; rfl
    have hres : PartsIs s w (.returned (.tuple #[.slice none 0 0, .bool true])) w := ⟨_, by rw [hi], by rw [hi, if_pos rfl, hp]; exact Own.nil _ _ _ _, Frm.refl _ _⟩
    have t1 := slash_yes h1
    have Hi := Lib.hid hi
    have Hp := Lib.hid hp
    have Hres := Lib.hid hres
    have H1 := Lib.hid h1
    clear hi hp hres h1
    go_enter Tryd.func27, Tryd.ntmps27
    go_wp2_with fail
    go_ret2
    exact Hres.out
  have t1 := slash_test h1
  have hn := ne_slash h1
  have hno : isPathL s.data.toList = false → ∀ w', Frm noB w w' → PartsIs s w (.returned (.tuple #[.slice none 0 0, .bool false])) w' := fun h w' hf => ⟨_, by rw [h], by rw [h, if_neg (by simp)]; exact Own.nil _ _ _ _, hf⟩
  have hlen := ba_len s
  by_cases h2 : s.size < 2
  · have hr := hno (isPath_long hn (.inl (by omega)))
    have t2 : decide ((s.size : Int) < 2) = true := decide_eq_true (by omega)
    have Hn := Lib.hid hn
    have Hno := Lib.hid hno
    have Hr := Lib.hid hr
    have H1 := Lib.hid h1
    have Hlen := Lib.hid hlen
    clear hn hno hr h1 hlen
    go_enter Tryd.func27, Tryd.ntmps27
    go_wp2_with fail
    go_ret2
    exact Hr.out _ (Frm.refl _ _)
  have t2 : decide ((s.size : Int) < 2) = false := decide_eq_false (by omega)
  by_cases h3 : 60 < s.size
  · have hr := hno (isPath_long hn (.inr (.inl (by omega))))
    have t3 : decide ((60 : Int) < (s.size : Int)) = true := decide_eq_true (by omega)
    have Hn := Lib.hid hn
    have Hno := Lib.hid hno
    have Hr := Lib.hid hr
    have H1 := Lib.hid h1
    have Hlen := Lib.hid hlen
    clear hn hno hr h1 hlen
    go_enter Tryd.func27, Tryd.ntmps27
    go_wp2_with fail
    go_ret2
    exact Hr.out _ (Frm.refl _ _)
  have t3 : decide ((60 : Int) < (s.size : Int)) = false := decide_eq_false (by omega)
  have hz0 : 0 < s.size := by omega
  have hhd : s.data.toList.head? = some s[0] := by
    rw [List.head?_eq_getElem?, List.getElem?_eq_getElem (by rw [ba_len]; exact hz0)]; rfl
  by_cases h4 : s[0] = 47
  · have t4 : ((s[0].toNat : Int) != 47) = false := by rw [h4]; rfl
    have hsh := isPath_short hn (by omega) (by rw [hhd, h4])
    have hpl := parts_long hn (by omega)
    have hp0 : PS s.data.toList 1 1 [] := PS.first (by omega)
    have hyes : ∀ v acc w', PS s.data.toList (s.size + 1) (s.size + 1) acc → Own strE w' w.heap.size 9 v (acc.map bs) → Frm noB w w' → PartsIs s w (.returned (.tuple #[v, .bool true])) w' := fun v acc w' hp ho hf => by
      obtain ⟨e1, e2⟩ := hp.over (by omega)
      have hi : isPathL s.data.toList = true := by rw [hsh, e2]
      exact ⟨v, by rw [hi], by rw [hi, if_pos rfl, hpl, e1]; exact ho, hf⟩
    have hbad : (cutL s.data.toList.tail).all okPart = false → ∀ w', Frm noB w w' → PartsIs s w (.returned (.tuple #[.slice none 0 0, .bool false])) w' := fun h => hno (by rw [hsh, h])
    clear t1
    have Hn := Lib.hid hn
    have Hno := Lib.hid hno
    have Hhd := Lib.hid hhd
    have H4 := Lib.hid h4
    have Hsh := Lib.hid hsh
    have Hpl := Lib.hid hpl
    have Hp0 := Lib.hid hp0
    have Hyes := Lib.hid hyes
    have Hbad := Lib.hid hbad
    have H1 := Lib.hid h1
    have Hlen := Lib.hid hlen
    clear hn hno hhd h4 hsh hpl hp0 hyes hbad h1 hlen
    have t1 := slash_test H1.out
    go_enter Tryd.func27, Tryd.ntmps27
    go_wp2_with fail
    clear t1 t2 t3 t4
    have hsz : s.size ≤ 60 := by omega
    go_loopw [4, 5, 6] (fun o f i wr => ∃ (fr j : Nat) (acc : List (List UInt8)), f = .int .i64 fr ∧ i = .int .i64 j ∧ j ≤ s.size + 1 ∧ PS s.data.toList fr j acc ∧ Own strE wr w.heap.size 9 o (acc.map bs) ∧ acc.length ≤ j ∧ (j = s.size + 1 → fr = j) ∧ Frm noB w wr) (fun _ _ i _ => s.size + 1 - (intOf i).toNat)
    case atStart => exact ⟨1, 1, [], rfl, rfl, by omega, Hp0.out, Own.nil _ _ _ _, by simp, fun _ => rfl, Frm.refl _ _⟩
    case round =>
      obtain ⟨fr, j, acc, rfl, rfl, hj, hP, ho, hac, hfj, hf⟩ := hrel
      by_cases hle : j ≤ s.size
      · have hins := hP.inside (by rw [Hlen.out]; exact hle)
        have hfr := hins.1
        have Hins := Lib.hid hins
        have Hfj := Lib.hid hfj
        clear hins hfj
        have u1 : decide ((j : Int) ≤ (s.size : Int)) = true := decide_eq_true (by omega)
        by_cases hlt : j < s.size
        · have u2 : decide ((j : Int) < (s.size : Int)) = true := decide_eq_true (by omega)
          have hc : s.data.toList[j]? = some s[j] := by rw [List.getElem?_eq_getElem (by rw [ba_len]; exact hlt)]; rfl
          have i1 : (0 : Int) ≤ (j : Int) := by omega
          have i2 : (j : Int) < (s.size : Int) := by omega
          by_cases h47 : s[j] = 47
          · have u3 : ((s[j].toNat : Int) != 47) = false := by rw [h47]; rfl
            rw [h47] at hc
            have H47 := Lib.hid h47
            clear h47
            by_cases hjf : j = fr
            · have hb : (cutL s.data.toList.tail).all okPart = false := by subst hjf; exact hP.none (by rw [Hlen.out]; exact hle) (.inr hc)
              have u4 : ((j : Int) == (fr : Int)) = true := by simp; omega
              have hr := Hbad.out hb _ hf
              have Hjf := Lib.hid hjf
              have Hb := Lib.hid hb
              have Hr := Lib.hid hr
              have Hf := Lib.hid hf
              have HP := Lib.hid hP
              have Ho := Lib.hid ho
              have Hc := Lib.hid hc
              clear hjf hb hr hf hP ho hc
              go_wp2_with fail
              go_ret2
              exact Hr.out
            · have hP2 := hP.part (by rw [Hlen.out]; exact hle) hjf (.inr hc)
              have u4 : ((j : Int) == (fr : Int)) = false := by simp; omega
              have hsl := fun w => run_mid s fr j hfr hle w
              rw [ext_mid] at hsl
              have hol : (acc.map bs).length ≤ 1000000 := by rw [List.length_map]; omega
              have hbase : w.heap.size ≤ wr.heap.size := hf.size
              obtain ⟨oa, oc, rfl, _⟩ := ho.shape
              generalize (s.data.toList.drop fr).take (j - fr) = p at *
              have hmp : (acc ++ [p]).map bs = acc.map bs ++ [bs p] := by simp
              have hlt_own := fun k e => ho.lt k e
              have Hjf := Lib.hid hjf
              have Hf := Lib.hid hf
              have HP := Lib.hid hP
              have Ho := Lib.hid ho
              have HP2 := Lib.hid hP2
              have Hol := Lib.hid hol
              have Hmp := Lib.hid hmp
              have Hbase := Lib.hid hbase
              have Hlt_own := Lib.hid hlt_own
              have Hc := Lib.hid hc
              clear hjf hf hP ho hP2 hol hmp hbase hlt_own hc
              go_wp2_with (first | (at_builtin; refine app_str wr rfl _ _ (by rfl) w.heap.size _ _ (by rfl) Ho.out (bs p) #[.string (bs p)] rfl wr.heap.size rfl (by rfl) Hol.out Hbase.out ?_; intro v' w1 ho1 hf1 hf2 hb1 hv1))
              have hfin : Frm noB w w1 := Hf.out.new hf2 (fun i hi e => by have := Hlt_own.out i e.symm; omega)
              rw [← Hmp.out] at ho1
              have Ho1 := Lib.hid ho1
              have Hf1 := Lib.hid hf1
              have Hf2 := Lib.hid hf2
              have Hb1 := Lib.hid hb1
              have Hv1 := Lib.hid hv1
              have Hfin := Lib.hid hfin
              clear ho1 hf1 hf2 hb1 hv1 hfin
              go_wp2_with fail
              go_roundw
              case rel => exact ⟨j + 1, j + 1, acc ++ [p], by go_num, by go_num, by omega, HP2.out, Ho1.out, by simp; omega, fun _ => rfl, Hfin.out⟩
              case measure => simp [intOf]; omega
          · have u3 : ((s[j].toNat : Int) != 47) = true := by
              have : ¬ s[j].toNat = 47 := fun e => h47 (UInt8.toNat_inj.1 e)
              simp; omega
            have hsg := fun w => sign_any s[j].toNat w
            cases hok : okBN s[j].toNat
            · have hb := hP.bad hc (by rw [Hlen.out]; exact hlt) h47 hok
              rw [hok] at hsg
              have hr := Hbad.out hb _ hf
              have Hok := Lib.hid hok
              have Hsg := Lib.hid hsg
              have Hb := Lib.hid hb
              have Hr := Lib.hid hr
              have Hc := Lib.hid hc
              have Hf := Lib.hid hf
              have HP := Lib.hid hP
              have Ho := Lib.hid ho
              have H47 := Lib.hid h47
              clear hok hsg hb hr hc hf hP ho h47
              go_wp2_with fail
              refine (Hsg.out _).mono ?_
              rintro e w' ⟨rfl, rfl⟩
              go_wp2_with fail
              go_ret2
              exact Hr.out
            · have hP2 := hP.sign hc (by rw [Hlen.out]; exact hlt) hok
              rw [hok] at hsg
              have Hok := Lib.hid hok
              have Hsg := Lib.hid hsg
              have Hc := Lib.hid hc
              have Hf := Lib.hid hf
              have HP := Lib.hid hP
              have Ho := Lib.hid ho
              have H47 := Lib.hid h47
              have HP2 := Lib.hid hP2
              clear hok hsg hc hf hP ho h47 hP2
              go_wp2_with fail
              refine (Hsg.out _).mono ?_
              rintro e w' ⟨rfl, rfl⟩
              go_wp2_with fail
              go_roundw
              case rel => exact ⟨fr, j + 1, acc, rfl, by go_num, by omega, HP2.out, Ho.out, by omega, fun e => by omega, Hf.out⟩
              case measure => simp [intOf]; omega
        · have u2 : decide ((j : Int) < (s.size : Int)) = false := decide_eq_false (by omega)
          have hjs : j = s.size := by omega
          have Hjs := Lib.hid hjs
          clear hjs
          by_cases hjf : j = fr
          · have hb : (cutL s.data.toList.tail).all okPart = false := by subst hjf; exact hP.none (by rw [Hlen.out]; exact hle) (.inl (by rw [Hlen.out]; exact Hjs.out))
            have u4 : ((j : Int) == (fr : Int)) = true := by simp; omega
            have hr := Hbad.out hb _ hf
            have Hjf := Lib.hid hjf
            have Hb := Lib.hid hb
            have Hr := Lib.hid hr
            have Hf := Lib.hid hf
            have HP := Lib.hid hP
            have Ho := Lib.hid ho
            clear hjf hb hr hf hP ho
            go_wp2_with fail
            go_ret2
            exact Hr.out
          · have hP2 := hP.part (by rw [Hlen.out]; exact hle) hjf (.inl (by rw [Hlen.out]; exact Hjs.out))
            have u4 : ((j : Int) == (fr : Int)) = false := by simp; omega
            have hsl := fun w => run_mid s fr j hfr hle w
            rw [ext_mid] at hsl
            have hol : (acc.map bs).length ≤ 1000000 := by rw [List.length_map]; omega
            have hbase : w.heap.size ≤ wr.heap.size := hf.size
            obtain ⟨oa, oc, rfl, _⟩ := ho.shape
            generalize (s.data.toList.drop fr).take (j - fr) = p at *
            have hmp : (acc ++ [p]).map bs = acc.map bs ++ [bs p] := by simp
            have hlt_own := fun k e => ho.lt k e
            have Hjf := Lib.hid hjf
            have Hf := Lib.hid hf
            have HP := Lib.hid hP
            have Ho := Lib.hid ho
            have HP2 := Lib.hid hP2
            have Hol := Lib.hid hol
            have Hmp := Lib.hid hmp
            have Hbase := Lib.hid hbase
            have Hlt_own := Lib.hid hlt_own
            clear hjf hf hP ho hP2 hol hmp hbase hlt_own
            go_wp2_with (first | (at_builtin; refine app_str wr rfl _ _ (by rfl) w.heap.size _ _ (by rfl) Ho.out (bs p) #[.string (bs p)] rfl wr.heap.size rfl (by rfl) Hol.out Hbase.out ?_; intro v' w1 ho1 hf1 hf2 hb1 hv1))
            have hfin : Frm noB w w1 := Hf.out.new hf2 (fun i hi e => by have := Hlt_own.out i e.symm; omega)
            rw [← Hmp.out] at ho1
            have Ho1 := Lib.hid ho1
            have Hf1 := Lib.hid hf1
            have Hf2 := Lib.hid hf2
            have Hb1 := Lib.hid hb1
            have Hv1 := Lib.hid hv1
            have Hfin := Lib.hid hfin
            clear ho1 hf1 hf2 hb1 hv1 hfin
            go_wp2_with fail
            go_roundw
            case rel => exact ⟨j + 1, j + 1, acc ++ [p], by go_num, by go_num, by omega, HP2.out, Ho1.out, by simp; omega, fun _ => rfl, Hfin.out⟩
            case measure => simp [intOf]; omega
      · have hje : j = s.size + 1 := by omega
        have u1 : decide ((j : Int) ≤ (s.size : Int)) = false := decide_eq_false (by omega)
        have hfe := hfj hje
        have hr := Hyes.out _ acc wr (by rw [← hje]; exact (show fr = j from hfe) ▸ hP) ho hf
        obtain ⟨oa, oc, rfl, _⟩ := ho.shape
        have Hr := Lib.hid hr
        have Hje := Lib.hid hje
        have Hfe := Lib.hid hfe
        have Hfj := Lib.hid hfj
        have HP := Lib.hid hP
        have Ho := Lib.hid ho
        have Hf := Lib.hid hf
        clear hr hje hfe hfj hP ho hf
        go_wp2_with fail
        go_ret2
        exact Hr.out
  · have t4 : ((s[0].toNat : Int) != 47) = true := by
      have : ¬ s[0].toNat = 47 := fun e => h4 (UInt8.toNat_inj.1 e)
      simp; omega
    have hr := hno (isPath_long hn (.inr (.inr (by rw [hhd]; simpa using h4))))
    have Hn := Lib.hid hn
    have Hno := Lib.hid hno
    have Hr := Lib.hid hr
    have H1 := Lib.hid h1
    have Hhd := Lib.hid hhd
    have H4 := Lib.hid h4
    have Hlen := Lib.hid hlen
    clear hn hno hr h1 hhd h4 hlen
    go_enter Tryd.func27, Tryd.ntmps27
    go_wp2_with fail
    go_ret2
    exact Hr.out _ (Frm.refl _ _)
end Go.Proofs.YtjehdldjfnaniaaDoor
