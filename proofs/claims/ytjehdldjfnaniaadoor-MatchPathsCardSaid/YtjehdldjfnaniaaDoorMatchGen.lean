/- A match that is made of numbers (layer 5). -/
import Derived.Test.YtjehdldjfnaniaaDoorMatchP
import Derived.Test.YtjehdldjfnaniaaDoorHeadHV
import Derived.Test.YtjehdldjfnaniaaDoorStoreNew
import Derived.Test.YtjehdldjfnaniaaDoorAppR
import Derived.Outline
set_option linter.unusedVariables false
set_option linter.unusedSimpArgs false
namespace Go.Proofs.YtjehdldjfnaniaaDoor
open Go.RowKit

def mNmB : List ByteArray := [⟨#[97]⟩, ⟨#[98]⟩, ⟨#[122]⟩]
def mVlB : List ByteArray := [⟨#[]⟩, ⟨#[49]⟩, ⟨#[50]⟩]
def mHd (i k : Nat) : Hd := ⟨(mNmB[i * k / 3 % 3]?).getD ⟨#[]⟩, (mVlB[k / 9 % 3]?).getD ⟨#[]⟩⟩
def mAdd (acc : List Hd) (h : Hd) : List Hd := if hasN acc h.name then acc else acc ++ [h]
def mStep (acc : List Hd) (i k : Nat) : List Hd := if k % 3 = 0 then mAdd acc (mHd i k) else acc
def numA (xs : List Int) (j : Nat) : Int := (xs[j]?).getD 0
def mHsU (xs : List Int) : Nat → List Hd
  | 0 => []
  | 1 => []
  | j + 2 => mStep (mHsU xs (j + 1)) (j + 1) (around (numA xs (j + 1)) 1000)
/-- The heads of a match of numbers. -/
def mHs (xs : List Int) : List Hd := mHsU xs (max 1 (min xs.length 3))
def mN (xs : List Int) : Nat := if xs.length = 0 then 0 else around (numA xs 0) 1000000
def mMp (xs : List Int) : List (List UInt8) := mZ ((mN xs / 3 : Nat) : Int)
def mEx (xs : List Int) : Bool := decide (mN xs % 3 = 1)
theorem mAdd_len (acc : List Hd) (h : Hd) : (mAdd acc h).length ≤ acc.length + 1 := by
  unfold mAdd
  split
  · omega
  · simp
theorem mStep_len (acc : List Hd) (i k : Nat) : (mStep acc i k).length ≤ acc.length + 1 := by
  unfold mStep
  split
  · exact mAdd_len _ _
  · omega
theorem mHsU_len (xs : List Int) (j : Nat) : (mHsU xs j).length ≤ j := by
  induction j with
  | zero => simp [mHsU]
  | succ j ih =>
    cases j with
    | zero => simp [mHsU]
    | succ j => rw [mHsU]; have := mStep_len (mHsU xs (j + 1)) (j + 1) (around (numA xs (j + 1)) 1000); omega
theorem mNm_at (i : Nat) (h : i < 3) : mNmB[i]? = some ((mNmB[i]?).getD ⟨#[]⟩) := by
  have hc : i = 0 ∨ i = 1 ∨ i = 2 := by omega
  rcases hc with rfl | rfl | rfl <;> rfl
theorem mVl_at (i : Nat) (h : i < 3) : mVlB[i]? = some ((mVlB[i]?).getD ⟨#[]⟩) := by
  have hc : i = 0 ∨ i = 1 ∨ i = 2 := by omega
  rcases hc with rfl | rfl | rfl <;> rfl
theorem maxmin {j n : Nat} (h1 : 1 ≤ j) (h2 : j ≤ 3) (h3 : j ≤ n ∨ j = 1) (h4 : ¬ (j < n ∧ j < 3)) : j = max 1 (min n 3) := by omega
theorem match_res (tmps : Array Value) (w : World) (B : Nat) (v0 v1 v2 : Value) (h : tmps[2]?.getD undef = .pointer (some ⟨B, 0, none⟩)) (c0 : w.cell? ⟨B, 0, none⟩ = some v0) (c1 : w.cell? ⟨B, 1, none⟩ = some v1) (c2 : w.cell? ⟨B, 2, none⟩ = some v2) :
    (results Tryd.f8 tmps).run Tryd.prog w = .ok (.agg #[v0, v1, v2]) w := by
  simp [results, Tryd.results8, go_sem, h, c0, c1, c2]
set_option maxRecDepth 100000 in
set_option maxHeartbeats 4000000 in
theorem match_any (a : Option Addr) (n c : Nat) (xs : List Int) (w : World) (h : IntsL w a n xs) :
    Calls Tryd.prog 8 #[.slice a n c] w fun e w' => ∃ hv, e = .returned (.agg #[.string (bs (pathOf (mMp xs))), .bool (mEx xs), hv]) ∧ HV w' hv (mHs xs) ∧ Frm noB w w' := by
  have hl := h.len
  have hn := h.most
  have hN : mN xs ≤ 999999 := by
    unfold mN
    split
    · omega
    · have := around_lt (numA xs 0) 1000000 (by omega); omega
  have hNdef : mN xs = if xs.length = 0 then 0 else around (numA xs 0) 1000000 := rfl
  have hpa := fun w => pathof_any ((mN xs / 3 : Nat) : Int) w (by omega) (by omega)
  have hex : mEx xs = decide (mN xs % 3 = 1) := rfl
  have hmp : mMp xs = mZ ((mN xs / 3 : Nat) : Int) := rfl
  rw [← hmp] at hpa
  have hms : (bs (pathOf (mMp xs))).size ≤ 60 := by rw [bs_size, hmp]; have := mZ_len ((mN xs / 3 : Nat) : Int); omega
  have hsh : mHs xs = mHsU xs (max 1 (min xs.length 3)) := rfl
  generalize mMp xs = P at *
  generalize mEx xs = ex at *
  generalize mHs xs = HS at *
  generalize mN xs = N at *
  generalize bs (pathOf P) = p at *
  have hR := Blk.made w #[.string ⟨#[]⟩, .bool false, .slice none 0 0] 25
  have fR := (Frm.refl noB w).alloc (.cells #[.string ⟨#[]⟩, .bool false, .slice none 0 0] 25)
  obtain ⟨N3, hN3⟩ : ∃ N3, N3 = N / 3 := ⟨_, rfl⟩
  rw [← hN3] at hpa hmp
  have e3 : (N : Int) / 3 = (N3 : Int) := by omega
  have hex2 : ((N : Int) % 3 == 1) = ex := by rw [hex, Bool.eq_iff_iff, beq_iff_eq, decide_eq_true_eq]; omega
  have har0 : ∀ x, (xs.length = 0 → False) → xs[0]? = some x → around x 1000000 = N := fun x hne hx => by rw [hNdef, if_neg hne]; unfold numA; rw [hx]; rfl
  have hN0 : xs.length = 0 → N = 0 := fun h => by rw [hNdef, if_pos h]
  have Hh := Lib.hid h
  have Hl := Lib.hid hl
  have Hpa := Lib.hid hpa
  have HN3 := Lib.hid hN3
  have Hex := Lib.hid hex
  have Hmp := Lib.hid hmp
  have Hms := Lib.hid hms
  have Hsh := Lib.hid hsh
  have HR := Lib.hid hR
  have HfR := Lib.hid fR
  have He3 := Lib.hid e3
  have Hex2 := Lib.hid hex2
  have Har0 := Lib.hid har0
  have HN0 := Lib.hid hN0
  have HNdef := Lib.hid hNdef
  clear h hl hpa hN3 hex hmp hms hsh hR fR e3 hex2 har0 hN0 hNdef
  go_enter Tryd.func8, Tryd.ntmps8
  go_upto_if 12 with fail
  generalize hW : w.alloc (.cells #[.string ⟨#[]⟩, .bool false, .slice none 0 0] 25) = W at *
  go_cut [3] (fun s wx => s = .int .i64 (N : Int) ∧ W = wx)
  case first =>
    by_cases hn0 : 0 < n
    · obtain ⟨x, hx⟩ := get_of_lt (l := xs) (j := 0) (by rw [Hl.out]; exact hn0)
      obtain ⟨hb0, hb1⟩ := Hh.out.bd x (List.mem_of_getElem? hx)
      obtain ⟨b, off, rfl, hbl, c0⟩ := (Hh.out.keep HfR.out).cells 0 x hx
      have hq := Har0.out x (by rw [Hl.out]; omega) hx
      have har := fun w => around_any x 1000000 w hb0 hb1 (by omega) (by omega)
      rw [hq] at har
      have t0 : decide ((0 : Int) < (n : Int)) = true := decide_eq_true (by omega)
      rw [Nat.add_zero] at c0
      have Har := Lib.hid har
      have Hq := Lib.hid hq
      have Hx := Lib.hid hx
      have Hb0 := Lib.hid hb0
      have Hb1 := Lib.hid hb1
      clear har hq hx hb0 hb1
      go_wp2_with fail
      refine (Har.out _).mono ?_
      rintro e y ⟨rfl, rfl⟩
      go_wp2_with fail
      go_meet
      exact ⟨rfl, rfl⟩
    · have hz := HN0.out (by rw [Hl.out]; omega)
      have t0 : decide ((0 : Int) < (n : Int)) = false := decide_eq_false (by omega)
      have Hz := Lib.hid hz
      clear hz
      go_wp2_with fail
      go_meet
      exact ⟨by rw [Hz.out]; rfl, rfl⟩
  case rest =>
    obtain ⟨rfl, rfl⟩ := hcut
    have e3 := He3.out
    have hex2 := Hex2.out
    go_wp2_with fail
    refine (Hpa.out _).mono ?_
    rintro e y1 ⟨rfl, hg1⟩
    have hf1 := HfR.out.trans hg1
    have hR1 := HR.out.frm hg1 (fun h => h)
    have hB4 := Blk.made y1 #[.string p, .bool ex, .slice none 0 0] 25
    have hf4 := hf1.alloc (.cells #[.string p, .bool ex, .slice none 0 0] 25)
    have hR4 := hR1.alloc (.cells #[.string p, .bool ex, .slice none 0 0] 25)
    have hw1 : w.heap.size < y1.heap.size := hR1.lt
    clear e3
    have Hf1 := Lib.hid hf1
    have HR1 := Lib.hid hR1
    have HB4 := Lib.hid hB4
    have Hf4 := Lib.hid hf4
    have HR4 := Lib.hid hR4
    have Hg1 := Lib.hid hg1
    have Hw1 := Lib.hid hw1
    clear hf1 hR1 hB4 hf4 hR4 hg1 hw1
    go_wp2_with fail
    clear hex2
    go_loopw [5] (fun i wr => ∃ (j : Nat) (hv : Value), 1 ≤ j ∧ j ≤ 3 ∧ (j ≤ n ∨ j = 1) ∧ i = .int .i64 j ∧ Blk wr y1.heap.size #[.string p, .bool ex, hv] 25 ∧ Own hdE wr (y1.heap.size + 1) 36 hv (mHsU xs j) ∧ Blk wr w.heap.size #[.string ⟨#[]⟩, .bool false, .slice none 0 0] 25 ∧ y1.heap.size < wr.heap.size ∧ Frm noB w wr) (fun i _ => n - (intOf i).toNat)
    case atStart => exact ⟨1, .slice none 0 0, by omega, by omega, .inr rfl, rfl, HB4.out, Own.nil _ _ _ _, HR4.out, by simp, Hf4.out⟩
    case round =>
      obtain ⟨j, hv, hj1, hj3, hjn, rfl, hB, ho, hR, hyw, hf⟩ := hrel
      have hal := mHsU_len xs j
      obtain ⟨sa, sc, hsv, _⟩ := ho.shape
      obtain ⟨sn, hsn⟩ : ∃ n, n = (mHsU xs j).length := ⟨_, rfl⟩
      rw [← hsn] at hsv
      subst hsv
      have Hsn := Lib.hid hsn
      clear hsn
      have m0 := (hB.cell 0).trans (show _ = some (Value.string p) from rfl)
      have m1 := (hB.cell 1).trans (show _ = some (Value.bool ex) from rfl)
      have m2 := (hB.cell 2).trans (show _ = some (Value.slice sa sn sc) from rfl)
      by_cases hgo : j < n ∧ j < 3
      · obtain ⟨hlt, hlt3⟩ := hgo
        obtain ⟨x, hx⟩ := get_of_lt (l := xs) (j := j) (by rw [Hl.out]; exact hlt)
        obtain ⟨hb0, hb1⟩ := Hh.out.bd x (List.mem_of_getElem? hx)
        obtain ⟨b, off, rfl, hbl, c0⟩ := (Hh.out.keep hf).cells j x hx
        have har := fun w => around_any x 1000 w hb0 hb1 (by omega) (by omega)
        have hkl := around_lt x 1000 (by omega)
        have hst : mHsU xs (j + 1) = mStep (mHsU xs j) j (around x 1000) := by
          obtain ⟨j2, rfl⟩ : ∃ j2, j = j2 + 1 := ⟨j - 1, by omega⟩
          rw [mHsU]; unfold numA; rw [hx]; rfl
        generalize around x 1000 = k at *
        have hk1 : k ≤ 999 := by omega
        clear hkl
        have i1 : (0 : Int) ≤ (j : Int) := by omega
        have i2 : (j : Int) < (n : Int) := by omega
        have t1 : decide ((j : Int) < (n : Int)) = true := decide_eq_true (by omega)
        have t2 : decide ((j : Int) < 3) = true := decide_eq_true (by omega)
        by_cases hk3 : k % 3 = 0
        · have t3 : ((k : Int) % 3 == 0) = true := by simp; omega
          have hst2 : mHsU xs (j + 1) = mAdd (mHsU xs j) (mHd j k) := by rw [hst]; unfold mStep; rw [if_pos hk3]
          obtain ⟨jk, hjk, hjkb⟩ : ∃ jk : Nat, j * k = jk ∧ jk ≤ 2000 := by
            refine ⟨_, rfl, ?_⟩
            have hc : j = 1 ∨ j = 2 := by omega
            rcases hc with rfl | rfl <;> omega
          have hmul : (j : Int) * (k : Int) = (jk : Int) := by rw [← hjk]; simp
          obtain ⟨q1, hq1, hq1b⟩ : ∃ q, jk / 3 % 3 = q ∧ q < 3 := ⟨_, rfl, Nat.mod_lt _ (by omega)⟩
          obtain ⟨q2, hq2, hq2b⟩ : ∃ q, k / 9 % 3 = q ∧ q < 3 := ⟨_, rfl, Nat.mod_lt _ (by omega)⟩
          have hone : mHd j k = ⟨(mNmB[q1]?).getD ⟨#[]⟩, (mVlB[q2]?).getD ⟨#[]⟩⟩ := by unfold mHd; rw [hjk, hq1, hq2]
          have hn1 := mNm_at q1 hq1b
          have hv1 := mVl_at q2 hq2b
          generalize (mNmB[q1]?).getD ⟨#[]⟩ = nm at *
          generalize (mVlB[q2]?).getD ⟨#[]⟩ = vl at *
          generalize mHd j k = hd at *
          generalize mHsU xs j = acc at *
          have hn1 := cells_at hn1
          have hv1 := cells_at hv1
          simp only [mNmB, mVlB, List.map_cons, List.map_nil] at hn1 hv1
          have u1 : (jk : Int) / 3 % 3 = (q1 : Int) := by omega
          have u2 : (k : Int) / 9 % 3 = (q2 : Int) := by omega
          have Har := Lib.hid har
          have Hst := Lib.hid hst
          have Hst2 := Lib.hid hst2
          have Hx := Lib.hid hx
          have Hb0 := Lib.hid hb0
          have Hb1 := Lib.hid hb1
          have HB := Lib.hid hB
          have Ho := Lib.hid ho
          have HR := Lib.hid hR
          have Hf := Lib.hid hf
          have Hk3 := Lib.hid hk3
          have Hjk := Lib.hid hjk
          have Hq1 := Lib.hid hq1
          have Hq2 := Lib.hid hq2
          have Hone := Lib.hid hone
          have Hjn := Lib.hid hjn
          have Hyw := Lib.hid hyw
          clear har hst hst2 hx hb0 hb1 hB ho hR hf hk3 hjk hq1 hq2 hone hjn hyw
          go_upto_region 10 with (go_at_call 19; refine (Har.out _).mono ?_; rintro e y ⟨rfl, rfl⟩)
          clear m0 m1 m2 c0
          go_cut [7] (fun s wx => ∃ B : Nat, s = .pointer (some ⟨B, 0, none⟩) ∧ Blk wx B #[.string nm, .string vl] 36 ∧ y1.heap.size < B ∧ Frm noB wr wx)
          case first =>
            have hyw := Hyw.out
            go_region
            all_goals
              go_wp2_with fail
              go_meet
              refine ⟨_, rfl, ?_, ?_, ?_⟩
              · refine Blk.drew ?_
                with_reducible first | exact blk_new _ _ _ (by simp) | exact (blk_new _ _ _ (by simp)).alloc _ | exact ((blk_new _ _ _ (by simp)).alloc _).alloc _
              · omega
              · exact (((Frm.refl _ _).alloc _).alloc _).alloc _ |>.drew
          case rest =>
            obtain ⟨B, rfl, hH, hlB, hg5⟩ := hcut
            have hB5 := HB.out.frm hg5 (fun h => h)
            have ho5 := Ho.out.keep hg5
            have hR5 := HR.out.frm hg5 (fun h => h)
            have hf5 := Hf.out.trans hg5
            have hyw5 := Nat.lt_of_lt_of_le Hyw.out hg5.size
            have m2 := (hB5.cell 2).trans (show _ = some (Value.slice sa sn sc) from rfl)
            have h0 := (hH.cell 0).trans (show _ = some (Value.string nm) from rfl)
            have hget := fun w h => rget_hv (.slice sa sn sc) acc nm w h
            have hhn : hd.name = nm := by rw [Hone.out]
            have hhv : (⟨nm, vl⟩ : Hd) = hd := by rw [Hone.out]
            cases hha : hasN acc nm
            · rw [hha] at hget
              have hst3 : mHsU xs (j + 1) = acc ++ [hd] := by rw [Hst2.out]; unfold mAdd; rw [hhn, hha]; rfl
              have hol : acc.length ≤ 1000000 := by omega
              have Hha := Lib.hid hha
              have Hget := Lib.hid hget
              have Hhn := Lib.hid hhn
              have Hst3 := Lib.hid hst3
              have HB5 := Lib.hid hB5
              have Ho5 := Lib.hid ho5
              have HR5 := Lib.hid hR5
              have Hf5 := Lib.hid hf5
              have HH := Lib.hid hH
              have Hg5 := Lib.hid hg5
              have Hol := Lib.hid hol
              clear hha hget hhn hst3 hB5 ho5 hR5 hf5 hH hg5 hol
              go_wp2_with fail
              refine (Hget.out _ ⟨_, Ho5.out⟩).mono ?_
              rintro e y2 ⟨rfl, hyy⟩
              subst hyy
              have h1 := (HH.out.cell 1).trans (show _ = some (Value.string vl) from rfl)
              have hlt_own := fun k e => (Ho5.out.lt k e).1
              have hbase : y1.heap.size + 1 ≤ wc.heap.size := Nat.le_trans (by have := Hyw.out; omega) Hg5.out.size
              have hwy : w.heap.size < y1.heap.size := Hw1.out
              have Hlt_own := Lib.hid hlt_own
              have Hbase := Lib.hid hbase
              have Hwy := Lib.hid hwy
              clear hlt_own hbase hwy
              go_wp2_with (at_builtin; refine app_hd wc (by rfl) _ _ (by rfl) (y1.heap.size + 1) _ acc (by rfl) Ho5.out ⟨nm, vl⟩ _ (by rfl) wc.heap.size rfl (by rfl) Hol.out Hbase.out ?_)
              intro v2 w6 ho6 hf6a hf6 hb6 hn6
              have hB6 := HB5.out.frm hf6 (fun e => by have := Hlt_own.out _ e.symm; omega)
              have hR6 := HR5.out.frm hf6 (fun e => by have := Hlt_own.out _ e.symm; have := Hwy.out; omega)
              have hf7 := Hf5.out.new hf6 (fun i hi e => by have := Hlt_own.out _ e.symm; have := Hwy.out; omega)
              rw [← Hst3.out] at ho6
              obtain ⟨va, vc, hvs, _⟩ := ho6.shape
              obtain ⟨vn, hvn⟩ : ∃ n, n = (mHsU xs (j + 1)).length := ⟨_, rfl⟩
              rw [← hvn] at hvs
              subst hvs
              have Hvn := Lib.hid hvn
              clear hvn
              have p2 := (hB6.cell 2).trans (show _ = some (Value.slice sa sn sc) from rfl)
              have py := hB6.free 2
              have pl := hB6.lt
              have hB7 := hB6.set 2 (.slice va vn vc)
              rw [show (#[.string p, .bool ex, .slice sa sn sc] : Array Value).setIfInBounds 2 (.slice va vn vc) = #[.string p, .bool ex, .slice va vn vc] from rfl] at hB7
              have hR7 := hR6.set_ne (a := ⟨y1.heap.size, 2, none⟩) (by have := Hwy.out; simp; omega) (.slice va vn vc)
              have ho7 := ho6.frm (S := oneB y1.heap.size) ((Frm.refl (oneB y1.heap.size) w6).setOne 2 (.slice va vn vc)) (fun b hb e => by have h9 := (ho6.lt b hb).1; have e2 := (show _ = _ from e); omega)
              have hf8 := hf7.setNew (p := ⟨y1.heap.size, 2, none⟩) (by have := Hwy.out; simp; omega) (.slice va vn vc)
              have hyw8 : y1.heap.size < (w6.setCell ⟨y1.heap.size, 2, none⟩ (.slice va vn vc)).heap.size := hB7.lt
              clear m2 h0 h1
              have HB6 := Lib.hid hB6
              have HR6 := Lib.hid hR6
              have Hf7 := Lib.hid hf7
              have Ho6 := Lib.hid ho6
              have HB7 := Lib.hid hB7
              have HR7 := Lib.hid hR7
              have Ho7 := Lib.hid ho7
              have Hf8 := Lib.hid hf8
              have Hyw8 := Lib.hid hyw8
              have Hf6 := Lib.hid hf6
              have Hf6a := Lib.hid hf6a
              have Hb6 := Lib.hid hb6
              have Hn6 := Lib.hid hn6
              clear hB6 hR6 hf7 ho6 hB7 hR7 ho7 hf8 hyw8 hf6 hf6a hb6 hn6
              go_wp2_with fail
              go_roundw
              case rel => exact ⟨j + 1, _, by omega, by omega, .inl (by omega), by go_num, HB7.out, Ho7.out, HR7.out, Hyw8.out, Hf8.out⟩
              case measure => simp [intOf]; omega
            · rw [hha] at hget
              have hst3 : mHsU xs (j + 1) = acc := by rw [Hst2.out]; unfold mAdd; rw [hhn, hha]; rfl
              have Hha := Lib.hid hha
              have Hget := Lib.hid hget
              have Hhn := Lib.hid hhn
              have Hhv := Lib.hid hhv
              have Hst3 := Lib.hid hst3
              have HB5 := Lib.hid hB5
              have Ho5 := Lib.hid ho5
              have HR5 := Lib.hid hR5
              have Hf5 := Lib.hid hf5
              have HH := Lib.hid hH
              have Hg5 := Lib.hid hg5
              have Hyw5 := Lib.hid hyw5
              clear hha hget hhn hhv hst3 hB5 ho5 hR5 hf5 hH hg5 hyw5
              go_wp2_with fail
              refine (Hget.out _ ⟨_, Ho5.out⟩).mono ?_
              rintro e y2 ⟨rfl, hyy⟩
              subst hyy
              go_wp2_with fail
              go_roundw
              case rel => exact ⟨j + 1, .slice sa sn sc, by omega, by omega, .inl (by omega), by go_num, HB5.out, by rw [Hst3.out]; exact Ho5.out, HR5.out, Hyw5.out, Hf5.out⟩
              case measure => simp [intOf]; omega
        · have t3 : ((k : Int) % 3 == 0) = false := by simp; omega
          have hst2 : mHsU xs (j + 1) = mHsU xs j := by rw [hst]; unfold mStep; rw [if_neg hk3]
          have Har := Lib.hid har
          have Hst := Lib.hid hst
          have Hst2 := Lib.hid hst2
          have Hx := Lib.hid hx
          have Hb0 := Lib.hid hb0
          have Hb1 := Lib.hid hb1
          have HB := Lib.hid hB
          have Ho := Lib.hid ho
          have HR := Lib.hid hR
          have Hf := Lib.hid hf
          have Hk3 := Lib.hid hk3
          have Hyw := Lib.hid hyw
          clear har hst hst2 hx hb0 hb1 hB ho hR hf hk3 hyw
          go_wp2_with fail
          refine (Har.out _).mono ?_
          rintro e y ⟨rfl, rfl⟩
          go_wp2_with fail
          go_roundw
          case rel => exact ⟨j + 1, .slice sa sn sc, by omega, by omega, .inl (by omega), by go_num, HB.out, by rw [Hst2.out]; exact Ho.out, HR.out, Hyw.out, Hf.out⟩
          case measure => simp [intOf]; omega
      · have hje : HS = mHsU xs j := by
          rw [Hsh.out, Hl.out, ← maxmin hj1 hj3 hjn hgo]
        have hcs : (j < n ∧ ¬ j < 3) ∨ ¬ j < n := by omega
        have hwy : w.heap.size < y1.heap.size := Hw1.out
        have r0 := (hR.cell 0).trans (show _ = some (Value.string ⟨#[]⟩) from rfl)
        have r1 := (hR.cell 1).trans (show _ = some (Value.bool false) from rfl)
        have r2 := (hR.cell 2).trans (show _ = some (Value.slice none 0 0) from rfl)
        have z0 := hR.free 0
        have z1 := hR.free 1
        have z2 := hR.free 2
        have zl := hR.lt
        have hfin := ((hf.setNew (p := ⟨w.heap.size, 0, none⟩) (Nat.le_refl _) (.string p)).setNew (p := ⟨w.heap.size, 1, none⟩) (Nat.le_refl _) (.bool ex)).setNew (p := ⟨w.heap.size, 2, none⟩) (Nat.le_refl _) (.slice sa sn sc)
        have hown := ho.frm (S := oneB w.heap.size) ((((Frm.refl (oneB w.heap.size) wr).setOne 0 (.string p)).setOne 1 (.bool ex)).setOne 2 (.slice sa sn sc)) (fun b hb e => by have h9 := (ho.lt b hb).1; have e2 := (show _ = _ from e); omega)
        have hRf := ((hR.set 0 (.string p)).set 1 (.bool ex)).set 2 (.slice sa sn sc)
        rw [← hje] at hown
        have HRf := Lib.hid hRf
        have Hje := Lib.hid hje
        have HB := Lib.hid hB
        have Ho := Lib.hid ho
        have HR := Lib.hid hR
        have Hf := Lib.hid hf
        have Hyw := Lib.hid hyw
        have Hfin := Lib.hid hfin
        have Hown := Lib.hid hown
        have Hwy := Lib.hid hwy
        have Hjn := Lib.hid hjn
        clear hRf hje hB ho hR hf hyw hfin hown hwy hjn
        rcases hcs with ⟨g1, g2⟩ | g1
        · have t1 : decide ((j : Int) < (n : Int)) = true := decide_eq_true (by omega)
          have t2 : decide ((j : Int) < 3) = false := decide_eq_false (by omega)
          go_wp2_with fail
          refine bodyPost_ret (match_res _ _ w.heap.size (.string p) (.bool ex) (.slice sa sn sc) rfl ((HRf.out.cell 0).trans rfl) ((HRf.out.cell 1).trans rfl) ((HRf.out.cell 2).trans rfl)) rfl ?_
          exact ⟨_, rfl, ⟨_, Hown.out⟩, Hfin.out⟩
        · have t1 : decide ((j : Int) < (n : Int)) = false := decide_eq_false (by omega)
          go_wp2_with fail
          refine bodyPost_ret (match_res _ _ w.heap.size (.string p) (.bool ex) (.slice sa sn sc) rfl ((HRf.out.cell 0).trans rfl) ((HRf.out.cell 1).trans rfl) ((HRf.out.cell 2).trans rfl)) rfl ?_
          exact ⟨_, rfl, ⟨_, Hown.out⟩, Hfin.out⟩
end Go.Proofs.YtjehdldjfnaniaaDoor
