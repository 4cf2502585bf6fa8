/- The walk of the statement TraceNames. -/
import Derived.Test.YtnmcdecdgcnmbaaTraceLives
import Derived.Test.YtnmcdecdgcnmbaaTraceName
import Derived.Test.YtnmcdecdgcnmbaaTraceSame
import Derived.Test.YtnmcdecdgcnmbaaTraceSpoilt
import Derived.Test.YtnmcdecdgcnmbaaStrs
import Derived.Test.YtnmcdecdgcnmbaaShort
import Derived.Test.YtnmcdecdgcnmbaaCat
import Derived.Deep.RegionHeld3
import Derived.Deep.DeepCutAuto
set_option linter.unusedVariables false
namespace Go.Proofs.Ytnmcdecdgcnmbaa
open Go.RowKit

theorem wf_u8' {a : Int} (h : (Lit.int .u8 a).wf = true) : 0 ≤ a ∧ a ≤ 255 := by
  obtain ⟨c, rfl⟩ := wf_u8 h
  have := c.toNat_lt
  omega
set_option maxRecDepth 100000 in
set_option maxHeartbeats 4000000 in
theorem traceNames_walk (a0 : ByteArray) (a1 : Int) (a2 : Int) (a3 : Int) (a4 : Bool) (w0 : a0.size ≤ maxLen) (w1 : (Lit.int .i64 a1).wf = true) (w2 : (Lit.int .i64 a2).wf = true) (w3 : (Lit.int .u8 a3).wf = true) (w : World) :
    Calls Try.prog 3 #[.string a0, .int .i64 a1, .int .i64 a2, .int .u8 a3, .bool a4] w fun e w' => e = .returned (.bool true) ∧ Below w.heap.size w w' := by
  have b1 := wf_i64 w1
  have b2 := wf_i64 w2
  obtain ⟨c0, c1⟩ := wf_u8' w3
  have hd0 : -9223372036854775808 ≤ a2.tdiv 3 ∧ a2.tdiv 3 ≤ 9223372036854775807 := by
    by_cases hp : 0 ≤ a2
    · rw [Int.tdiv_eq_ediv_of_nonneg hp]; omega
    · have h2 : (-a2).tdiv 3 = (-a2) / 3 := Int.tdiv_eq_ediv_of_nonneg (by omega)
      rw [Int.neg_tdiv] at h2; omega
  have Hb1 := Lib.hid b1
  have Hb2 := Lib.hid b2
  have Hw0 := Lib.hid w0
  have Hd0 := Lib.hid hd0
  clear b1 b2 w0 hd0
  clear w1 w2 w3
  go_enter Try.func3, Try.ntmps3
  go_wp2_with fail
  refine (name_any a1 _ Hb1.out.1 Hb1.out.2).mono ?_
  rintro e w1 ⟨l, rfl, hok, hf⟩
  obtain ⟨a, ha⟩ : ∃ a, a = bs l := ⟨_, rfl⟩
  have h3 : 3 ≤ a.size := by rw [ha, bs_size]; exact hok.lo
  have h40 : a.size ≤ 40 := by rw [ha, bs_size]; exact hok.hi
  rw [← ha]
  have Hf := Lib.hid hf
  clear hf
  clear ha hok
  have hsh : ((a0.data.toList.take 30).toArray).size ≤ 1000 := by simp; omega
  have hshort : ∀ w, Calls Try.prog 9 #[.string a0, .int .i64 30] w fun e w' => e = .returned (.string ⟨(a0.data.toList.take 30).toArray⟩) ∧ w = w' := fun w => short_any a0 30 w Hw0.out (by omega)
  have Hshort := Lib.hid hshort
  clear hshort
  generalize hst : (⟨(a0.data.toList.take 30).toArray⟩ : ByteArray) = a30 at *
  have hs30 : a30.size ≤ 1000 := by rw [← hst]; exact hsh
  clear hst hsh
  go_upto_region 2 with fail
  go_cut [12] (fun s wx => ∃ L : List ByteArray, L.length = 17 ∧ Own strE wx 0 9 s L ∧ (∀ x ∈ L, x.size ≤ 1000) ∧ Frm noB w wx)
  case first =>
    have tok1 : True := trivial
    have tok2 : True := trivial
    have tok3 : True := trivial
    have i1 : (0 : Int) ≤ (a.size : Int) - 2 := by omega
    have i2 : (a.size : Int) - 2 ≤ (a.size : Int) := by omega
    have e1 : (9223372036854775807 < a.size + 1) = False := eq_false (by omega)
    have e2 : (9223372036854775807 < a.size + 2) = False := eq_false (by omega)
    have e3 := run_upto a ((a.size : Int) - 2) (by omega) (by omega)
    have s3 : IntKind.i64.wrap (a2.tdiv 3) = a2.tdiv 3 := IntWalk.i64_in _ Hd0.out
    have s1 : IntKind.i64.wrap ((a.size : Int) - 2) = (a.size : Int) - 2 := IntWalk.i64_in _ (by omega)
    go_region_held3 (fun _ => True) (trivial)
      (first
        | (go_at_call 9; (with_reducible refine (Hshort.out _).mono ?_); rintro e w' ⟨rfl, rfl⟩)
        | (go_at_call 10; have _t := tok1; (with_reducible refine (spoilt_any a a2 a3 a4 _ (Nat.le_trans h40 (by omega)) Hb2.out.1 Hb2.out.2 c0 c1).mono ?_); rintro e x1 ⟨t1, rfl, ht1, hx1⟩; clear tok1)
        | (go_at_call 10; have _t := tok2; (with_reducible refine (spoilt_any a a2 a3 a4 _ (Nat.le_trans h40 (by omega)) Hb2.out.1 Hb2.out.2 c0 c1).mono ?_); rintro e x2 ⟨t2, rfl, ht2, hx2⟩; clear tok2)
        | (go_at_call 10; (with_reducible refine (spoilt_any t2 (a2.tdiv 3) a3 (!a4) _ (Nat.le_trans ht2 (Nat.le_trans h40 (by omega))) Hd0.out.1 Hd0.out.2 c0 c1).mono ?_); rintro e x3 ⟨t3, rfl, ht3, hx3⟩))
    go_wp2_with fail
    go_meet
    have z1 : (a ++ (⟨#[126]⟩ : ByteArray)).size ≤ 1000 := by rw [ByteArray.size_append]; show a.size + 1 ≤ 1000; omega
    have z2 : (a ++ (⟨#[47, 48]⟩ : ByteArray)).size ≤ 1000 := by rw [ByteArray.size_append]; show a.size + 2 ≤ 1000; omega
    have z3 : (a.extract 0 ((a.size : Int) - 2).toNat).size ≤ 1000 := by rw [ByteArray.size_extract]; omega
    have hall : ∀ x ∈ ([a30, a, t1, t3, a ++ ⟨#[126]⟩, a ++ ⟨#[47, 48]⟩, a.extract 0 ((a.size : Int) - 2).toNat, ⟨#[48, 58, 49]⟩, ⟨#[49, 58, 48]⟩, ⟨#[48, 49, 58, 49]⟩, ⟨#[49, 58, 48, 49]⟩, ⟨#[49]⟩, ⟨#[49, 58, 49, 58, 49]⟩, ⟨#[49, 47, 48]⟩, ⟨#[49, 126, 126, 58, 49]⟩, ⟨#[50, 49, 52, 55, 52, 56, 51, 54, 52, 56, 58, 49]⟩, ⟨#[50, 49, 52, 55, 52, 56, 51, 54, 52, 55, 58, 50, 49, 52, 55, 52, 56, 51, 54, 52, 55]⟩] : List ByteArray), x.size ≤ 1000 := by
      refine List.forall_mem_cons.2 ⟨hs30, List.forall_mem_cons.2 ⟨Nat.le_trans h40 (by omega), List.forall_mem_cons.2 ⟨Nat.le_trans ht1 (Nat.le_trans h40 (by omega)), List.forall_mem_cons.2 ⟨Nat.le_trans ht3 (Nat.le_trans ht2 (Nat.le_trans h40 (by omega))),
        List.forall_mem_cons.2 ⟨z1, List.forall_mem_cons.2 ⟨z2, List.forall_mem_cons.2 ⟨z3, ?_⟩⟩⟩⟩⟩⟩⟩
      decide
    exact ⟨[a30, a, t1, t3, a ++ ⟨#[126]⟩, a ++ ⟨#[47, 48]⟩, a.extract 0 ((a.size : Int) - 2).toNat, ⟨#[48, 58, 49]⟩, ⟨#[49, 58, 48]⟩, ⟨#[48, 49, 58, 49]⟩, ⟨#[49, 58, 48, 49]⟩, ⟨#[49]⟩, ⟨#[49, 58, 49, 58, 49]⟩, ⟨#[49, 47, 48]⟩, ⟨#[49, 126, 126, 58, 49]⟩, ⟨#[50, 49, 52, 55, 52, 56, 51, 54, 52, 56, 58, 49]⟩, ⟨#[50, 49, 52, 55, 52, 56, 51, 54, 52, 55, 58, 50, 49, 52, 55, 52, 56, 51, 54, 52, 55]⟩], rfl, str_lit x3 _ _ rfl 17 rfl 0 (Nat.zero_le _) (by decide), hall, ((((Frm.drew Hf.out).trans hx1).trans hx2).trans hx3).alloc _⟩
  case rest =>
    obtain ⟨L, hL17, hown, hLs, hf⟩ := hcut
    obtain ⟨ga, gc, rfl, _, hg⟩ := hown.shape
    obtain ⟨g, rfl, _, hgl⟩ := hg (by omega)
    rw [hL17] at hown ⊢
    have HL17 := Lib.hid hL17
    have Hown := Lib.hid hown
    have HLs := Lib.hid hLs
    have Hf := Lib.hid hf
    clear hL17 hown hLs hf
    clear hg
    go_wp2_with fail
    go_loopw [10, 13] (fun r i wr => ∃ k : Nat, k ≤ 17 ∧ r = .bool false ∧ i = .int .i64 k ∧ Frm noB w wr ∧ Frm noB wc wr) (fun _ i _ => 17 - (intOf i).toNat)
    case atStart => exact ⟨0, by omega, rfl, rfl, Hf.out, Frm.refl _ _⟩
    case round =>
      obtain ⟨k, hk, rfl, rfl, hf, hfc⟩ := hrel
      by_cases hlt : k < 17
      · obtain ⟨x, hx⟩ := get_of_lt (l := L) (j := k) (by rw [HL17.out]; exact hlt)
        have hxs := HLs.out x (List.mem_of_getElem? hx)
        have c0 := str_cell (Hown.out.keep hfc) hx
        have hz := hfc.size
        have hgw : g < wr.heap.size := by omega
        have hlog : LogIs (wr.alloc (.cells (logCells none none) 29)) wr.heap.size [] (oneB wr.heap.size) := .inl ⟨rfl, Blk.made _ _ _, rfl, fun k hk => by have hk' : k = wr.heap.size := hk; subst hk'; simp⟩
        have hc1 := cell_frm ((Frm.refl noB wr).alloc (.cells (logCells none none) 29)) (fun h => h) c0
        have Hf := Lib.hid hf
        have Hfc := Lib.hid hfc
        have Hx := Lib.hid hx
        have Hlog := Lib.hid hlog
        clear hf hfc hx hlog
        simp only [logCells] at hc1
        go_wp2_with fail
        refine (ref_note 0 (.slice none 0 0) [] x 0 0 0 0 false _ (Own.nil _ _ _ _) (by decide) (Nat.le_trans hxs (by omega)) (Nat.zero_le _)).mono ?_
        rintro e w2 ⟨v', rfl, ho, hf2, _⟩
        have hf2' : Frm noB wr w2 := ((Frm.refl noB wr).alloc _).trans (hf2.mono (fun i _ h => by simp [Value.ownBlock] at h))
        have hlog2 := Hlog.out.frm (hf2.mono (T := noB) (fun i _ h => by simp [Value.ownBlock] at h)) (fun _ _ h => h)
        have d0 := cell_frm hf2' (fun h => h) c0
        have hgw2 : g < w2.heap.size := Nat.lt_of_lt_of_le hgw hf2'.size
        have hne : ¬ oneB wr.heap.size g := by simp only [oneB]; omega
        have hxs2 : x.size ≤ 1000000 := Nat.le_trans hxs (by omega)
        have hi1 : (0 : Int) ≤ (k : Int) := by omega
        have hi2 : (k : Int) < 17 := by omega
        have Hf2' := Lib.hid hf2'
        have Hlog2 := Lib.hid hlog2
        have Hne := Lib.hid hne
        clear hf2' hlog2 hne
        clear ho hf2 c0 hc1
        go_upto_region 8 with fail
        go_cut [83] (fun s wx => s = .bool false ∧ Frm noB wr wx)
        case first =>
          go_region_held3 (fun W => W.cell? ⟨g, k, none⟩ = some (.string x))
            (first | exact d0 | exact cell_frm hf3 (fun h => h) d0 | exact cell_frm hf4 Hne.out (cell_frm hf3 (fun h => h) d0))
            (first
              | (go_at_call 12; (with_reducible refine (req_any x _ hxs2).mono ?_); rintro e w' ⟨rfl, rfl⟩)
              | (go_at_call 13; (with_reducible refine (ref_req x _ hxs2).mono ?_); rintro e w3 ⟨rfl, hf3⟩)
              | (go_at_call 14; refine (note_any wr.heap.size ⟨x, 0, 0, 0, false, 0⟩ [] _ _ ((Hlog2.out.frm (Frm.drew (Frm.refl noB w2)) (fun _ _ h => h)).frm hf3 (fun _ _ h => h)) (Nat.zero_le _) hxs2).mono ?_; rintro e w4 ⟨O', rfl, hl4, hf4, _⟩))
          go_wp2_with fail
          go_meet
          exact ⟨by simp, ((Frm.drew Hf2'.out).trans hf3).new hf4 (fun i hi h => by simp only [oneB] at h; omega)⟩
        case rest =>
          obtain ⟨rfl, hfx⟩ := hcut
          have Hf9 := Lib.hid (Hf.out.trans hfx)
          have Hfc9 := Lib.hid (Hfc.out.trans hfx)
          clear hfx
          go_wp2_with fail
          go_roundw
          case rel => exact ⟨k + 1, by omega, rfl, by go_num, Hf9.out, Hfc9.out⟩
          case measure => simp [intOf]; omega
      · obtain rfl : k = 17 := by omega
        have Hf := Lib.hid hf
        clear hf
        clear hfc
        go_wp2_with fail
        refine (lives_any _).mono ?_
        rintro e w2 ⟨rfl, hf2⟩
        have Hf2 := Lib.hid (Hf.out.trans hf2)
        clear hf2
        go_wp2_with fail
        go_ret
        exact ⟨rfl, Hf2.out.below (Nat.le_refl _) (fun _ _ h => h)⟩
end Go.Proofs.Ytnmcdecdgcnmbaa
