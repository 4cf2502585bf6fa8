/- The walk of the statement HeadsEdges. -/
import Derived.Test.YtgajlpahhfenaaaDoorHeadHV
import Derived.Outline
import Derived.IntWalk
import Derived.Deep.RegionHeld3
set_option linter.unusedVariables false
namespace Go.Proofs.YtgajlpahhfenaaaDoor
open Go.RowKit

theorem conv_byteE (w : World) (x : Int) (h0 : 0 ≤ x) (h1 : x ≤ 255) :
    (convert 33 9 (.slice (some ⟨w.heap.size, 0, none⟩) 1 1)).run Tryd.prog (w.alloc (.cells #[.int .u8 x] 5)) =
      .ok (.string (bs [UInt8.ofNat x.toNat])) (w.alloc (.cells #[.int .u8 x] 5)) := by
  have h := run_convert_bytes_arg (P := Tryd.prog) (w.alloc (.cells #[.int .u8 x] 5)) 33 5 Tryd.underlying33 Tryd.underlying5 w.heap.size 0 1 1 [x] rfl
    (fun i hi => by obtain rfl : i = 0 := by omega
                    simp) 9 Tryd.underlying9
  rw [h]
  have e : strOfNums [x] = bs [UInt8.ofNat x.toNat] := by simp [strOfNums, bs]
  rw [e]
theorem wf_u8'' {a : Int} (h : (Lit.int .u8 a).wf = true) : 0 ≤ a ∧ a ≤ 255 := by
  obtain ⟨c, rfl⟩ := wf_u8 h
  have := c.toNat_lt
  omega
theorem run_sl_one (B j : Nat) (w : World) (h : j < 4) : (Instr.slice 22 (.slice (some ⟨B, 0, none⟩) 4 4) (some (.int .i64 (j : Int))) (some (.int .i64 ((j : Int) + 1))) none).run Tryd.prog w = .ok (.slice (some ⟨B, j * 2, none⟩) 1 (4 - j)) w := by
  have h1 : (0 : Int) ≤ (j : Int) + 1 ∧ (j : Int) + 1 ≤ 4 := by omega
  have h2 : (0 : Int) ≤ (j : Int) ∧ (j : Int) ≤ (((j : Int) + 1).toNat : Int) := by omega
  have h3 : ((j : Int) + 1).toNat = j + 1 := by omega
  have h4 : ¬ 4 = j := by omega
  simp [Instr.slice, Instr.sliceBounds, Instr.sliceBound, asIntOf, run_underlying Tryd.underlying22, h1, h2, h3, h4, Tryd.sizeOf25, Addr.add_lit]
set_option maxRecDepth 100000 in
set_option maxHeartbeats 4000000 in
theorem headsEdges_walk (a0 : Int) (a1 : Int) (a2 : Int) (a3 : Int) (w0 : (Lit.int .u8 a0).wf = true) (w1 : (Lit.int .i64 a1).wf = true) (w2 : (Lit.int .i64 a2).wf = true) (w3 : (Lit.int .i64 a3).wf = true) (w : World) :
    Calls Tryd.prog 4 #[.int .u8 a0, .int .i64 a1, .int .i64 a2, .int .i64 a3] w fun e w' => e = .returned (.bool true) ∧ Below w.heap.size w w' := by
  obtain ⟨c0, c1⟩ := wf_u8'' w0
  have b1 := wf_i64 w1
  have b2 := wf_i64 w2
  have b3 := wf_i64 w3
  have hcv := fun w => conv_byteE w a0 c0 c1
  have Hb1 := Lib.hid b1
  have Hb2 := Lib.hid b2
  have Hb3 := Lib.hid b3
  clear b1 b2 b3
  clear w0 w1 w2 w3
  go_enter Tryd.func4, Tryd.ntmps4
  go_wp2_with fail
  refine (around_any a1 23 _ Hb1.out.1 Hb1.out.2 (by omega) (by omega)).mono ?_
  rintro e w' ⟨rfl, rfl⟩
  have hq := around_lt a1 23 (by omega)
  generalize around a1 23 = q at *
  have hq22 : q ≤ 22 := by omega
  clear hq
  go_wp2_with fail
  go_loop [9, 10] (fun s i => ∃ (j : Nat) (N : ByteArray), s = .string N ∧ i = .int .i64 j ∧ j ≤ 22 ∧ N.size ≤ 22 - j) (fun _ i => (intOf i).toNat)
  case atStart => exact ⟨q, ⟨#[]⟩, rfl, rfl, hq22, by show 0 ≤ _; omega⟩
  case round =>
    obtain ⟨j, N, rfl, rfl, hj, hN⟩ := hrel
    by_cases hj0 : 0 < j
    · obtain ⟨k, rfl⟩ : ∃ k, j = k + 1 := ⟨j - 1, by omega⟩
      have hN2 : N.size ≤ 100 := by omega
      have hN3 : (N ++ (⟨#[97]⟩ : ByteArray)).size ≤ 22 - k := by rw [ByteArray.size_append]; show N.size + 1 ≤ _; omega
      have e1 : (((k + 1 : Nat) : Int) - 1) = (k : Int) := by omega
      have hk22 : k ≤ 22 := by omega
      have hgt : decide ((0 : Int) < ((k + 1 : Nat) : Int)) = true := decide_eq_true (by omega)
      have HN := Lib.hid hN
      have HN3 := Lib.hid hN3
      have Hj := Lib.hid hj
      have He1 := Lib.hid e1
      clear hN hN3 hj e1
      go_wp2_with fail
      go_round
      case rel => exact ⟨k, _, rfl, by first | rfl | go_num, by have := Hj.out; omega, HN3.out⟩
      case measure => simp [intOf]
    · obtain rfl : j = 0 := by omega
      have hN22 : N.size ≤ 22 := by omega
      clear hN hj
      go_wp2_with fail
      refine (around_any a2 6 _ Hb2.out.1 Hb2.out.2 (by omega) (by omega)).mono ?_
      rintro e w' ⟨rfl, rfl⟩
      have hp := around_lt a2 6 (by omega)
      generalize around a2 6 = p at *
      have hp5 : p ≤ 5 := by omega
      clear hp
      obtain ⟨pp, hpp⟩ : ∃ pp : Nat, 58 + p = pp := ⟨_, rfl⟩
      have hpp63 : pp ≤ 63 := by omega
      have hpi : (58 : Int) + (p : Int) = (pp : Int) := by omega
      have Hpp := Lib.hid hpp
      clear hpp
      go_wp2_with fail
      go_loop [11, 12] (fun s i => ∃ (j : Nat) (V : ByteArray), s = .string V ∧ i = .int .i64 j ∧ j ≤ 63 ∧ V.size ≤ 63 - j) (fun _ i => (intOf i).toNat)
      case atStart => exact ⟨pp, ⟨#[]⟩, rfl, by first | rfl | go_num, hpp63, by show 0 ≤ _; omega⟩
      case round =>
        obtain ⟨j, V, rfl, rfl, hj, hV⟩ := hrel
        by_cases hj0 : 0 < j
        · obtain ⟨k, rfl⟩ : ∃ k, j = k + 1 := ⟨j - 1, by omega⟩
          have hV2 : V.size ≤ 100 := by omega
          have hV3 : (V ++ (⟨#[118]⟩ : ByteArray)).size ≤ 63 - k := by rw [ByteArray.size_append]; show V.size + 1 ≤ _; omega
          have e1 : (((k + 1 : Nat) : Int) - 1) = (k : Int) := by omega
          have hk63 : k ≤ 63 := by omega
          have hgt : decide ((0 : Int) < ((k + 1 : Nat) : Int)) = true := decide_eq_true (by omega)
          have HV := Lib.hid hV
          have HV3 := Lib.hid hV3
          have Hj := Lib.hid hj
          have He1 := Lib.hid e1
          clear hV hV3 hj e1
          go_wp2_with fail
          go_round
          case rel => exact ⟨k, _, rfl, by first | rfl | go_num, by have := Hj.out; omega, HV3.out⟩
          case measure => simp [intOf]
        · obtain rfl : j = 0 := by omega
          have hV63 : V.size ≤ 63 := by omega
          clear hV hj
          have hoe : (bs [UInt8.ofNat a0.toNat]).size ≤ 1 := Nat.le_refl _
          generalize bs [UInt8.ofNat a0.toNat] = O at *
          go_wp2_with fail
          have hO1 : ((⟨#[97]⟩ : ByteArray) ++ O).size ≤ 2 := by rw [ByteArray.size_append]; have : (⟨#[97]⟩ : ByteArray).size = 1 := rfl; omega
          have hO2 : ((⟨#[32]⟩ : ByteArray) ++ O).size ≤ 2 := by rw [ByteArray.size_append]; have : (⟨#[32]⟩ : ByteArray).size = 1 := rfl; omega
          generalize (⟨#[97]⟩ : ByteArray) ++ O = O1 at *
          generalize (⟨#[32]⟩ : ByteArray) ++ O = O2 at *
          obtain ⟨H4, hH4⟩ : ∃ H4 : List Hd, H4 = [⟨N, ⟨#[49]⟩⟩, ⟨⟨#[97]⟩, V⟩, ⟨O1, ⟨#[]⟩⟩, ⟨⟨#[98]⟩, O2⟩] := ⟨_, rfl⟩
          have hown : Own hdE ((w.alloc (.cells #[.int .u8 a0] 5)).alloc (.cells #[.string N, .string ⟨#[49]⟩, .string ⟨#[97]⟩, .string V, .string O1, .string ⟨#[]⟩, .string ⟨#[98]⟩, .string O2] 25)) 0 25 (.slice (some ⟨w.heap.size + 1, 0, none⟩) 4 4) H4 := by
            have := own_lit hdE (w.alloc (.cells #[.int .u8 a0] 5)) 25 H4 #[.string N, .string ⟨#[49]⟩, .string ⟨#[97]⟩, .string V, .string O1, .string ⟨#[]⟩, .string ⟨#[98]⟩, .string O2] (by rw [hH4]; rfl) 4 (by rw [hH4]; rfl) 0 (Nat.zero_le _) (by omega)
            rwa [World.size_alloc] at this
          have hrd := hown.rdS
          have hsz : ∀ x ∈ H4, x.name.size ≤ 1000000 ∧ x.val.size ≤ 1000000 := by
            have z1 : (⟨#[49]⟩ : ByteArray).size = 1 := rfl
            have z2 : (⟨#[97]⟩ : ByteArray).size = 1 := rfl
            have z3 : (⟨#[98]⟩ : ByteArray).size = 1 := rfl
            have z4 : (⟨#[]⟩ : ByteArray).size = 0 := rfl
            intro x hx
            rw [hH4] at hx
            simp only [List.mem_cons, List.not_mem_nil, or_false] at hx
            rcases hx with rfl | rfl | rfl | rfl <;> (simp only; omega)
          have hfw : Frm noB w ((w.alloc (.cells #[.int .u8 a0] 5)).alloc (.cells #[.string N, .string ⟨#[49]⟩, .string ⟨#[97]⟩, .string V, .string O1, .string ⟨#[]⟩, .string ⟨#[98]⟩, .string O2] 25)) := ((Frm.refl _ _).alloc _).alloc _
          obtain ⟨Bq, hBq⟩ : ∃ Bq, Bq = w.heap.size + 1 := ⟨_, rfl⟩
          rw [← hBq] at hown hrd ⊢
          generalize (w.alloc (.cells #[.int .u8 a0] 5)).alloc (.cells #[.string N, .string ⟨#[49]⟩, .string ⟨#[97]⟩, .string V, .string O1, .string ⟨#[]⟩, .string ⟨#[98]⟩, .string O2] 25) = W at *
          have Hown := Lib.hid hown
          have Hrd := Lib.hid hrd
          have Hsz := Lib.hid hsz
          have Hfw := Lib.hid hfw
          have HBq := Lib.hid hBq
          have HH4 := Lib.hid hH4
          have Hcv := Lib.hid hcv
          clear hown hrd hsz hfw hBq hH4 hcv
          go_loopw [15] (fun i wr => ∃ j : Nat, j ≤ 4 ∧ i = .int .i64 j ∧ Frm noB W wr) (fun i _ => 4 - (intOf i).toNat)
          case atStart => exact ⟨0, by omega, rfl, Frm.refl _ _⟩
          case round =>
            obtain ⟨j, hj, rfl, hf⟩ := hrel
            by_cases hlt : j < 4
            · have hrdj : Rd hdE wr (some ⟨Bq, j * 2, none⟩) 1 ((H4.drop j).take 1) := by
                have h1 := ((Hrd.out.keep hf).drop (Nat.le_of_lt hlt)).take (m := 1) (by omega)
                rwa [show 0 + j * hdE.k = j * 2 from by show 0 + j * 2 = j * 2; omega] at h1
              have hsl := fun w => run_sl_one Bq j w hlt
              have hszj : ∀ x ∈ (H4.drop j).take 1, x.name.size ≤ 1000000 ∧ x.val.size ≤ 1000000 := fun x hx => Hsz.out x (List.mem_of_mem_drop (List.mem_of_mem_take hx))
              have hck := fun w h => check_any (some ⟨Bq, j * 2, none⟩) 1 (4 - j) ((H4.drop j).take 1) w h (by omega) (by omega) hszj
              have hrk := fun w h => ref_check (some ⟨Bq, j * 2, none⟩) 1 (4 - j) ((H4.drop j).take 1) w h (by omega) (by omega) hszj
              generalize checkE ((H4.drop j).take 1) = E at *
              have tE : (E != E) = false := by simp
              have tE2 : (E == E) = true := by simp
              have w1 : IntKind.i64.wrap ((j : Int) + 1) = (j : Int) + 1 := IntWalk.i64_in _ (by omega)
              obtain ⟨wx, hwx⟩ : ∃ W, W = wr := ⟨_, rfl⟩
              subst hwx
              have Hszj := Lib.hid hszj
              have Hck := Lib.hid hck
              have Hrk := Lib.hid hrk
              have Hf := Lib.hid hf
              clear hszj hck hrk hf
              go_upto_region 16 with fail
              have hrdj := hrdj
              go_region_held3 (fun _ => True) (trivial)
                (first
                  | (go_at_call 15; (with_reducible refine (Hck.out _ ?_).mono ?_); (focus exact hrdj.keep (Frm.refl noB _).drew); rintro e y1 ⟨rfl, hg1⟩)
                  | (go_at_call 16; (with_reducible refine (Hrk.out _ ?_).mono ?_); (focus exact (hrdj.keep (Frm.refl noB _).drew).keep hg1); rintro e y2 ⟨rfl, hg2⟩))
              have hfe := (Hf.out.drew.trans hg1).trans hg2
              have Hfe := Lib.hid hfe
              clear hfe
              clear hg1 hg2 hrdj w1
              go_wp2_with fail
              go_roundw
              case rel => exact ⟨j + 1, by omega, by go_num, Hfe.out⟩
              case measure => simp [intOf]; omega
            · obtain rfl : j = 4 := by omega
              have hf2 := Hfw.out.trans hf
              obtain ⟨w6, hw6⟩ : ∃ W, W = wr := ⟨_, rfl⟩
              subst hw6
              have Hf := Lib.hid hf
              have Hf2 := Lib.hid hf2
              clear hf hf2
              go_wp2_with fail
              refine (around_any a3 5 _ Hb3.out.1 Hb3.out.2 (by omega) (by omega)).mono ?_
              rintro e w' ⟨rfl, rfl⟩
              have hp := around_lt a3 5 (by omega)
              generalize around a3 5 = r at *
              obtain ⟨rr, hrr⟩ : ∃ rr : Nat, 6 + r = rr := ⟨_, rfl⟩
              have hrr10 : rr ≤ 10 := by omega
              have hri : (6 : Int) + (r : Int) = (rr : Int) := by omega
              clear hp
              have Hrr := Lib.hid hrr
              clear hrr
              go_wp2_with fail
              go_loopw [16, 17] (fun o i wr => ∃ (j : Nat) (l : List Hd), i = .int .i64 j ∧ j ≤ 10 ∧ Own hdE wr w6.heap.size 25 o l ∧ l.length + j ≤ 10 ∧ (∀ x ∈ l, x.name.size ≤ 1000 ∧ x.val.size ≤ 1000) ∧ Frm noB w6 wr) (fun _ i _ => (intOf i).toNat)
              case atStart => exact ⟨rr, [], by first | rfl | go_num, hrr10, Own.nil _ _ _ _, by simpa using hrr10, by simp, Frm.refl _ _⟩
              case round =>
                obtain ⟨j, l, rfl, hj, ho, hll, hls, hf⟩ := hrel
                by_cases hj0 : 0 < j
                · obtain ⟨k, rfl⟩ : ∃ k, j = k + 1 := ⟨j - 1, by omega⟩
                  have e1 : (((k + 1 : Nat) : Int) - 1) = (k : Int) := by omega
                  have hk22 : k ≤ 22 := by omega
                  have hgt : decide ((0 : Int) < ((k + 1 : Nat) : Int)) = true := decide_eq_true (by omega)
                  have hd := fun w => decimal_any ((k + 1 : Nat) : Int) w (by omega) (by omega)
                  unfold DecIs at hd
                  have hds : (bs (decL ((k + 1 : Nat) : Int))).size ≤ 20 := by rw [bs_size]; exact decL_len (by omega) (by omega)
                  generalize bs (decL ((k + 1 : Nat) : Int)) = D at *
                  have hz : ((⟨#[104]⟩ : ByteArray) ++ D).size ≤ 1000 := by rw [ByteArray.size_append]; have : (⟨#[104]⟩ : ByteArray).size = 1 := rfl; omega
                  have hadd := fun w => run_cat (⟨#[104]⟩ : ByteArray) D (by have : (⟨#[104]⟩ : ByteArray).size = 1 := rfl; omega) w
                  generalize (⟨#[104]⟩ : ByteArray) ++ D = X at *
                  have hll2 : l.length ≤ 1000000 := by omega
                  have hwz := hf.size
                  have hls2 : ∀ x ∈ l ++ [(⟨X, ⟨#[]⟩⟩ : Hd)], x.name.size ≤ 1000 ∧ x.val.size ≤ 1000 := fun x hx => by
                    rcases List.mem_append.1 hx with h1 | h1
                    · exact hls x h1
                    · simp at h1; subst h1; exact ⟨hz, by have : (⟨#[]⟩ : ByteArray).size = 0 := rfl; simp only; omega⟩
                  have Ho := Lib.hid ho
                  have Hll := Lib.hid hll
                  have Hls := Lib.hid hls
                  have Hf := Lib.hid hf
                  have He1 := Lib.hid e1
                  have Hd := Lib.hid hd
                  have Hds := Lib.hid hds
                  have Hz := Lib.hid hz
                  have Hadd := Lib.hid hadd
                  have Hll2 := Lib.hid hll2
                  have Hwz := Lib.hid hwz
                  have Hls2 := Lib.hid hls2
                  have Hj := Lib.hid hj
                  clear ho hll hls hf e1 hd hds hz hadd hll2 hwz hls2 hj
                  go_wp2_with fail
                  refine (Hd.out _).mono ?_
                  rintro e w2 ⟨rfl, hf2⟩
                  have ho2 := Ho.out.keep hf2
                  have hf3 := Hf.out.trans hf2
                  have hwz2 := hf3.size
                  have Ho2 := Lib.hid ho2
                  have Hf3 := Lib.hid hf3
                  have Hwz2 := Lib.hid hwz2
                  clear ho2 hf3 hwz2
                  clear hf2
                  go_wp2_with (first | (refine wpl_add (by rfl) _ _ (by rfl) _ _ _ (by rfl) (by rfl) (Hadd.out _) ?_) | (at_builtin; refine app_hd _ (by rfl) _ _ (by rfl) w6.heap.size _ l (by rfl) Ho2.out ⟨X, ⟨#[]⟩⟩ _ (by rfl) _ rfl (by rfl) Hll2.out Hwz2.out ?_))
                  intro v' w3 ho3 _ hf4 _ _
                  have hf5 := Hf3.out.new hf4 (fun i hi hh => by have := (Ho2.out.lt i hh.symm).1; omega)
                  have Ho3 := Lib.hid ho3
                  have Hf5 := Lib.hid hf5
                  clear ho3 hf5
                  clear hf4
                  go_wp2_with fail
                  go_roundw
                  case rel => exact ⟨k, _, by first | rfl | go_num, by have := Hj.out; omega, Ho3.out, by have := Hll.out; simp; omega, Hls2.out, Hf5.out⟩
                  case measure => simp [intOf]
                · obtain rfl : j = 0 := by omega
                  have hln : l.length ≤ 10 := by omega
                  obtain ⟨oa, oc, rfl, hrl⟩ := ho.rd
                  obtain ⟨hc1, hc2, _⟩ := ho.cap
                  have hsz4 : ∀ x ∈ l, x.name.size ≤ 1000000 ∧ x.val.size ≤ 1000000 := fun x hx => by have := hls x hx; omega
                  have hck := fun w h => check_any oa l.length oc l w h hc1 hc2 hsz4
                  have hrk := fun w h => ref_check oa l.length oc l w h hc1 hc2 hsz4
                  generalize checkE l = E at *
                  have tE : (E == E) = true := by simp
                  obtain ⟨nl, hnl⟩ : ∃ nl, nl = l.length := ⟨_, rfl⟩
                  rw [← hnl] at hck hrk hrl ⊢
                  have hff := Hf2.out.trans hf
                  have Ho := Lib.hid ho
                  have Hll := Lib.hid hll
                  have Hls := Lib.hid hls
                  have Hf := Lib.hid hf
                  have Hrl := Lib.hid hrl
                  have Hck := Lib.hid hck
                  have Hrk := Lib.hid hrk
                  have Hff := Lib.hid hff
                  have Hsz4 := Lib.hid hsz4
                  have Hnl := Lib.hid hnl
                  clear ho hll hls hf hrl hck hrk hff hsz4 hnl
                  go_wp2_with fail
                  refine (Hck.out _ Hrl.out).mono ?_
                  rintro e y1 ⟨rfl, hg1⟩
                  have hrl2 := Hrl.out.keep hg1
                  have hff2 := Hff.out.trans hg1
                  have Hrl2 := Lib.hid hrl2
                  have Hff2 := Lib.hid hff2
                  clear hrl2 hff2
                  clear hg1
                  go_wp2_with fail
                  refine (Hrk.out _ Hrl2.out).mono ?_
                  rintro e y2 ⟨rfl, hg2⟩
                  have hff3 := Hff2.out.trans hg2
                  have Hff3 := Lib.hid hff3
                  clear hff3
                  clear hg2
                  go_wp2_with fail
                  refine (hlives_any _).mono ?_
                  rintro e y3 ⟨rfl, hg3⟩
                  have hff4 := Hff3.out.trans hg3
                  have Hff4 := Lib.hid hff4
                  clear hff4
                  clear hg3
                  go_wp2_with fail
                  go_ret
                  exact ⟨rfl, Hff4.out.below (Nat.le_refl _) (fun _ _ h => h)⟩
end Go.Proofs.YtgajlpahhfenaaaDoor
