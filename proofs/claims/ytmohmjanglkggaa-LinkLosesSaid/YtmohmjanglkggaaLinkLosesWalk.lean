/- The walk of the statement LinkLoses. -/
import Derived.Test.YtmohmjanglkggaaLinkLives
import Derived.Test.YtmohmjanglkggaaLinkMsg
set_option linter.unusedVariables false
namespace Go.Proofs.Ytmohmjanglkggaa
open Go.RowKit

/-- The one fault. -/
def loF (d : Bool) (K : Nat) : Flt := ⟨if d then 3 else 1, 0, 100, 3, -1, (K : Int)⟩
def loN (d : Bool) (K i : Nat) : Nat := if (i + 1) % K = 0 then (if d then 2 else 0) else 1
def com (d : Bool) (K i : Nat) : Nat := if d then i + i / K else i - i / K
theorem com_succ (d : Bool) (K i : Nat) (hK : 0 < K) : com d K (i + 1) = com d K i + loN d K i := by
  have h1 : (i + 1) / K = i / K + if (i + 1) % K = 0 then 1 else 0 := by
    rw [Nat.succ_div]
    congr 1
    by_cases h : K ∣ i + 1
    · rw [if_pos h, if_pos (Nat.mod_eq_zero_of_dvd h)]
    · rw [if_neg h, if_neg (fun e => h (Nat.dvd_of_mod_eq_zero e))]
  have h2 : i / K ≤ i := Nat.div_le_self _ _
  unfold com loN
  rw [h1]
  cases d <;> by_cases h : (i + 1) % K = 0 <;> simp [h] <;> omega
theorem loF_ok (d : Bool) (K : Nat) (h0 : 0 < K) (h9 : K ≤ 9) : Okf (loF d K) := by
  cases d <;> constructor <;> simp [loF] <;> omega
theorem lo_sees (d : Bool) (K : Nat) (i : Nat) (dst : Int) (hi : i < 50) : seesB (loF d K) (i : Int) 3 dst = true := by
  have h1 : onWayB (loF d K).kind = true := by cases d <;> simp [loF, onWayB]
  have h2 : thereB (loF d K) (i : Int) = true := decide_eq_true (show (0 : Int) ≤ (i : Int) ∧ (i : Int) < 100 by omega)
  unfold seesB
  rw [h1, h2]
  simp [loF]
theorem lo_each (d : Bool) (K : Nat) (i : Nat) (h0 : 0 < K) : eachB (loF d K) ((i : Int) + 1) = decide ((i + 1) % K = 0) := by
  unfold eachB loF
  simp only
  rw [decide_eq_true (show (0 : Int) < (K : Int) by omega), Bool.true_and]
  have e : ((i : Int) + 1) % (K : Int) = (((i + 1) % K : Nat) : Int) := by rw [Int.natCast_emod]; rfl
  rw [e]
  by_cases h : (i + 1) % K = 0
  · rw [decide_eq_true h, h]; rfl
  · rw [decide_eq_false h, decide_eq_false (by omega)]
theorem lo_res (d : Bool) (K i : Nat) (dst : Int) (h0 : 0 < K) (hi : i < 50) : (resS (goS (i : Int) 3 dst 1 [loF d K] (exC i) 1)).length = loN d K i ∧ cntL (i : Int) 3 dst [loF d K] (exC i) 1 = exC (i + 1) := by
  have hs := lo_sees d K i dst hi
  have he := lo_each d K i h0
  constructor
  · rw [goS_see (i : Int) 3 dst 1 [loF d K] (exC i) 0 (loF d K) (i : Int) rfl rfl hs, he]
    unfold resS loN
    cases d <;> by_cases h : (i + 1) % K = 0 <;> simp [goS, loF, h]
  · rw [cntL_see (i : Int) 3 dst [loF d K] (exC i) 0 (loF d K) (i : Int) rfl rfl hs]
    simp [cntL, exC]

def Losing (w : World) (b base : Nat) (v : Value) (d : Bool) (K i : Nat) (e : Ending) (w' : World) : Prop :=
  ∃ (a : Option Addr) (c : Nat), e = .returned (.slice a (loN d K i) c) ∧ Lnk w' b base v 1 [loF d K] (exC (i + 1)) ∧ Frm (oneB b) w w'
theorem lo_send (b base : Nat) (v : Value) (d : Bool) (K i : Nat) (dst : Int) (w : World) (h0 : 0 < K) (hi : i < 50) (h : Lnk w b base v 1 [loF d K] (exC i)) :
    Calls Try.prog 14 #[.pointer (some ⟨b, 0, none⟩), .int .i64 (i : Int), .int .i64 3, .int .i64 dst] w (Losing w b base v d K i) := by
  refine (send_any b base v 1 (i : Int) 3 dst [loF d K] (exC i) w h (by omega) (by omega) ?_).mono ?_
  · intro c hc
    simp [exC] at hc
    omega
  rintro e w' ⟨x, rfl, ho, hl, hf⟩
  obtain ⟨r1, r2⟩ := lo_res d K i dst h0 hi
  have e1 : [loF d K].length = 1 := rfl
  rw [e1, r1] at ho
  rw [e1, r2] at hl
  obtain ⟨a, c, rfl, _, _⟩ := ownsRow_shape ho
  exact ⟨a, c, rfl, hl, hf⟩

set_option maxHeartbeats 2000000 in
theorem linkLoses_walk (a0 : Int) (a1 : Int) (a2 : Bool) (w0 : (Lit.int .i64 a0).wf = true) (w1 : (Lit.int .i64 a1).wf = true) (w : World) :
    Calls Try.prog 6 #[.int .i64 a0, .int .i64 a1, .bool a2] w fun e w' => e = .returned (.bool true) ∧ Below w.heap.size w w' := by
  have b0 := wf_i64 w0
  have b1 := wf_i64 w1
  clear w0 w1
  have hm0 := around_lt a0 9 (by omega)
  have em : (1 : Int) + (around a0 9 : Int) = ((1 + around a0 9 : Nat) : Int) := by omega
  cases a2
  · go_enter Try.func6, Try.ntmps6
    go_wp2_with fail
    refine (around_any a0 9 _ b0.1 b0.2 (by omega) (by omega)).mono ?_
    rintro e w' ⟨rfl, rfl⟩
    generalize around a0 9 = m0 at *
    obtain ⟨K, hK⟩ : ∃ K, K = 1 + m0 := ⟨_, rfl⟩
    rw [← hK] at em
    have hK0 : 0 < K := by omega
    have hK9 : K ≤ 9 := by omega
    have Em := Lib.hid em
    clear em hK
    go_wp2_with fail
    rw [Em.out]
    have hfr := ((Frm.refl noB w).alloc (.cells #[.int .i64 1, .int .i64 0, .int .i64 100, .int .i64 3, .int .i64 (-1), .int .i64 (K : Int)] 41)).alloc (.cells #[.int .i64 1, .int .i64 0, .int .i64 100, .int .i64 3, .int .i64 (-1), .int .i64 (K : Int)] 41)
    have hown := World.ownsRow_lit (base := w.heap.size) (e := 41) (size := 6) (w.alloc (.cells #[.int .i64 1, .int .i64 0, .int .i64 100, .int .i64 3, .int .i64 (-1), .int .i64 (K : Int)] 41)) #[.int .i64 1, .int .i64 0, .int .i64 100, .int .i64 3, .int .i64 (-1), .int .i64 (K : Int)] 1 (by simp) (by decide) rfl
    rw [World.size_alloc] at hown
    refine (new_link 1 w.heap.size 1 _ [loF false K] _ rfl (by decide) hown ?_).mono ?_
    · intro f hf
      simp at hf
      subst hf
      exact loF_ok false K hK0 hK9
    rintro e w1 ⟨b, v, rfl, hb, hl, hf⟩
    rw [World.size_alloc, World.size_alloc] at hb hl
    have HL := Lib.hid hl
    have Hf := Lib.hid (hfr.trans hf)
    clear hl hf hfr hown
    go_wp2_with fail
    refine (around_any a1 51 _ b1.1 b1.2 (by omega) (by omega)).mono ?_
    rintro e w' ⟨rfl, rfl⟩
    have hc0 := around_lt a1 51 (by omega)
    clear b0 b1
    generalize around a1 51 = c at *
    have hKz : ((K : Int) == 0) = false := by simp; omega
    go_wp2_with fail
    go_loopw [11, 12] (fun t i wr => ∃ k : Nat, k ≤ c ∧ i = .int .i64 k ∧ t = .int .i64 (com false K k : Nat) ∧ Lnk wr b (w.heap.size + 1 + 1) v 1 [loF false K] (exC k) ∧ Frm noB w wr) (fun _ i _ => c - (intOf i).toNat)
    case atStart => exact ⟨0, by omega, rfl, by simp [com], HL.out, Hf.out⟩
    case round =>
      obtain ⟨k, hk, rfl, rfl, hl, hf⟩ := hrel
      have HLr := Lib.hid hl
      have Hfr := Lib.hid hf
      clear hl hf
      by_cases hlt : k < c
      · have Hcs := Lib.hid (com_succ false K k hK0)
        have hcb : com false K k ≤ 200 := Nat.le_trans (Nat.sub_le k (k / K)) (by omega)
        have hln : loN false K k ≤ 2 := by unfold loN; split <;> (try split) <;> omega
        go_wp2_with fail
        refine (lo_send b _ v false K k _ _ hK0 (by omega) HLr.out).mono ?_
        rintro e w2 ⟨xa, xc, rfl, hl, hf⟩
        have HL2 := Lib.hid hl
        have Hf2 := Lib.hid (Hfr.out.new hf (fun i hi h => by simp only [oneB] at h; omega))
        clear hl hf
        have er : (((k : Int) + 1) % (K : Int)) = (((k + 1) % K : Nat) : Int) := by rw [Int.natCast_emod]; rfl
        by_cases hz : (k + 1) % K = 0
        · have tz : ((((k : Int) + 1) % (K : Int)) == 0) = true := by rw [er, hz]; rfl
          have tn : ((((k : Int) + 1) % (K : Int)) != 0) = false := by rw [er, hz]; rfl
          have Hz := Lib.hid hz
          clear hz er
          generalize loN false K k = ln at *
          generalize com false K k = cm at *
          go_wp2
          go_roundw
          case rel => exact ⟨k + 1, by omega, by go_num, by rw [Hcs.out]; rfl, HL2.out, Hf2.out⟩
          case measure => simp [intOf]; omega
        · have tz : ((((k : Int) + 1) % (K : Int)) == 0) = false := by rw [er]; simp; omega
          have tn : ((((k : Int) + 1) % (K : Int)) != 0) = true := by rw [er]; simp; omega
          have hl1 : loN false K k = 1 := by unfold loN; rw [if_neg hz]
          rw [hl1] at hln ⊢
          have Hl1 := Lib.hid hl1
          clear hz er hl1
          generalize com false K k = cm at *
          go_wp2
          go_roundw
          case rel => exact ⟨k + 1, by omega, by go_num, by rw [Hcs.out, Hl1.out]; rfl, HL2.out, Hf2.out⟩
          case measure => simp [intOf]; omega
      · obtain rfl : k = c := by omega
        have hdv : (k : Int) / (K : Int) = ((k / K : Nat) : Int) := by rw [Int.natCast_ediv]
        have hle := Nat.div_le_self k K
        have tz : (((com false K k : Nat) : Int) == (k : Int) - (k : Int) / (K : Int)) = true := by rw [hdv]; unfold com; simp; try omega
        have hq0 : 0 ≤ (k : Int) / (K : Int) := by rw [hdv]; exact Int.natCast_nonneg _
        have hq1 : (k : Int) / (K : Int) ≤ 51 := by rw [hdv]; omega
        clear hdv
        go_wp2_with fail
        refine (lives_any _).mono ?_
        rintro e w' ⟨rfl, hf⟩
        have Hf5 := Lib.hid (Hfr.out.trans hf)
        clear hf
        go_wp2
        go_ret
        exact ⟨rfl, Hf5.out.below (Nat.le_refl _) (fun _ _ h => h)⟩
  · go_enter Try.func6, Try.ntmps6
    go_wp2_with fail
    refine (around_any a0 9 _ b0.1 b0.2 (by omega) (by omega)).mono ?_
    rintro e w' ⟨rfl, rfl⟩
    generalize around a0 9 = m0 at *
    obtain ⟨K, hK⟩ : ∃ K, K = 1 + m0 := ⟨_, rfl⟩
    rw [← hK] at em
    have hK0 : 0 < K := by omega
    have hK9 : K ≤ 9 := by omega
    have Em := Lib.hid em
    clear em hK
    go_wp2_with fail
    rw [Em.out]
    have hfr := ((Frm.refl noB w).alloc (.cells #[.int .i64 3, .int .i64 0, .int .i64 100, .int .i64 3, .int .i64 (-1), .int .i64 (K : Int)] 41)).alloc (.cells #[.int .i64 3, .int .i64 0, .int .i64 100, .int .i64 3, .int .i64 (-1), .int .i64 (K : Int)] 41)
    have hown := World.ownsRow_lit (base := w.heap.size) (e := 41) (size := 6) (w.alloc (.cells #[.int .i64 3, .int .i64 0, .int .i64 100, .int .i64 3, .int .i64 (-1), .int .i64 (K : Int)] 41)) #[.int .i64 3, .int .i64 0, .int .i64 100, .int .i64 3, .int .i64 (-1), .int .i64 (K : Int)] 1 (by simp) (by decide) rfl
    rw [World.size_alloc] at hown
    refine (new_link 1 w.heap.size 1 _ [loF true K] _ rfl (by decide) hown ?_).mono ?_
    · intro f hf
      simp at hf
      subst hf
      exact loF_ok true K hK0 hK9
    rintro e w1 ⟨b, v, rfl, hb, hl, hf⟩
    rw [World.size_alloc, World.size_alloc] at hb hl
    have HL := Lib.hid hl
    have Hf := Lib.hid (hfr.trans hf)
    clear hl hf hfr hown
    go_wp2_with fail
    refine (around_any a1 51 _ b1.1 b1.2 (by omega) (by omega)).mono ?_
    rintro e w' ⟨rfl, rfl⟩
    have hc0 := around_lt a1 51 (by omega)
    clear b0 b1
    generalize around a1 51 = c at *
    have hKz : ((K : Int) == 0) = false := by simp; omega
    go_wp2_with fail
    go_loopw [11, 12] (fun t i wr => ∃ k : Nat, k ≤ c ∧ i = .int .i64 k ∧ t = .int .i64 (com true K k : Nat) ∧ Lnk wr b (w.heap.size + 1 + 1) v 1 [loF true K] (exC k) ∧ Frm noB w wr) (fun _ i _ => c - (intOf i).toNat)
    case atStart => exact ⟨0, by omega, rfl, by simp [com], HL.out, Hf.out⟩
    case round =>
      obtain ⟨k, hk, rfl, rfl, hl, hf⟩ := hrel
      have HLr := Lib.hid hl
      have Hfr := Lib.hid hf
      clear hl hf
      by_cases hlt : k < c
      · have Hcs := Lib.hid (com_succ true K k hK0)
        have hcb : com true K k ≤ 200 := by have h := Nat.div_le_self k K; unfold com; simp; omega
        have hln : loN true K k ≤ 2 := by unfold loN; split <;> (try split) <;> omega
        go_wp2_with fail
        refine (lo_send b _ v true K k _ _ hK0 (by omega) HLr.out).mono ?_
        rintro e w2 ⟨xa, xc, rfl, hl, hf⟩
        have HL2 := Lib.hid hl
        have Hf2 := Lib.hid (Hfr.out.new hf (fun i hi h => by simp only [oneB] at h; omega))
        clear hl hf
        have er : (((k : Int) + 1) % (K : Int)) = (((k + 1) % K : Nat) : Int) := by rw [Int.natCast_emod]; rfl
        by_cases hz : (k + 1) % K = 0
        · have tz : ((((k : Int) + 1) % (K : Int)) == 0) = true := by rw [er, hz]; rfl
          have tn : ((((k : Int) + 1) % (K : Int)) != 0) = false := by rw [er, hz]; rfl
          have Hz := Lib.hid hz
          clear hz er
          generalize loN true K k = ln at *
          generalize com true K k = cm at *
          go_wp2
          go_roundw
          case rel => exact ⟨k + 1, by omega, by go_num, by rw [Hcs.out]; rfl, HL2.out, Hf2.out⟩
          case measure => simp [intOf]; omega
        · have tz : ((((k : Int) + 1) % (K : Int)) == 0) = false := by rw [er]; simp; omega
          have tn : ((((k : Int) + 1) % (K : Int)) != 0) = true := by rw [er]; simp; omega
          have hl1 : loN true K k = 1 := by unfold loN; rw [if_neg hz]
          rw [hl1] at hln ⊢
          have Hl1 := Lib.hid hl1
          clear hz er hl1
          generalize com true K k = cm at *
          go_wp2
          go_roundw
          case rel => exact ⟨k + 1, by omega, by go_num, by rw [Hcs.out, Hl1.out]; rfl, HL2.out, Hf2.out⟩
          case measure => simp [intOf]; omega
      · obtain rfl : k = c := by omega
        have hdv : (k : Int) / (K : Int) = ((k / K : Nat) : Int) := by rw [Int.natCast_ediv]
        have hle := Nat.div_le_self k K
        have tz : (((com true K k : Nat) : Int) == (k : Int) + (k : Int) / (K : Int)) = true := by rw [hdv]; unfold com; simp; try omega
        have hq0 : 0 ≤ (k : Int) / (K : Int) := by rw [hdv]; exact Int.natCast_nonneg _
        have hq1 : (k : Int) / (K : Int) ≤ 51 := by rw [hdv]; omega
        clear hdv
        go_wp2_with fail
        refine (lives_any _).mono ?_
        rintro e w' ⟨rfl, hf⟩
        have Hf5 := Lib.hid (Hfr.out.trans hf)
        clear hf
        go_wp2
        go_ret
        exact ⟨rfl, Hf5.out.below (Nat.le_refl _) (fun _ _ h => h)⟩
end Go.Proofs.Ytmohmjanglkggaa
