/- strings.Builder: what its writing methods do (String is the shelf's). The panic of copyCheck isn't reached. -/
import Derived.Test.YtpgcfeplcibhoaaDoorShelf
import Derived.Test.YtpgcfeplcibhoaaDoorLib
import Derived.Test.YtpgcfeplcibhoaaDoorBs
import Derived.Lib.AppendStr
import Derived.Laws.Externs
set_option linter.unusedVariables false
namespace Go.Proofs.YtpgcfeplcibhoaaDoor
open Go.RowKit

abbrev BdAt (B b : Nat) (p : Value) (l : List UInt8) (w : World) : Prop := Lib.BuilderAt 70 5 B b p (Lib.byteCells l) w
abbrev Bd (B b : Nat) (l : List UInt8) (w : World) : Prop := Lib.IsBuilder 70 5 B b (Lib.byteCells l) w
theorem bd_size : (Tryd.prog.info? 70).map (·.size) = some 2 := by kernel_rfl
theorem bd_lies : liesAt Tryd.prog Tryd.prog.depth 70 (2 / Tryd.prog.cellsOf 70) 0 70 1 = true := by kernel_rfl
theorem info_byte : (Tryd.prog.info? 5).map (fun i => (i.zero, i.size, i.bytes)) = some (some (.int .u8 0), 1, 1) := by kernel_rfl

set_option maxRecDepth 100000 in
set_option maxHeartbeats 1000000 in
theorem cc_used (b : Nat) (w : World) (h0 : w.cell? ⟨b, 0, none⟩ = some (.pointer (some ⟨b, 0, none⟩))) :
    Calls Tryd.prog 50 #[.pointer (some ⟨b, 0, none⟩)] w fun e w' => e = .returned (.tuple #[]) ∧ w' = w := by
  obtain ⟨j, hj, _⟩ := Option.map_eq_some_iff.1 bd_size
  go_enter Tryd.func50, Tryd.ntmps50
  go_wp2
  rw [Lib.run_neq_ptr_same w _ Tryd.underlying67 hj]
  go_wp2
  go_end0
  exact ⟨rfl, rfl⟩
set_option maxRecDepth 100000 in
set_option maxHeartbeats 1000000 in
theorem cc_fresh (b : Nat) (w : World) (h0 : w.cell? ⟨b, 0, none⟩ = some (.pointer none)) (hsh : w.shape? b = some (70, 2)) (hfz : w.frozen? ⟨b, 0, none⟩ = false) :
    Calls Tryd.prog 50 #[.pointer (some ⟨b, 0, none⟩)] w fun e w' => e = .returned (.tuple #[]) ∧ w' = w.setCell ⟨b, 0, none⟩ (.pointer (some ⟨b, 0, none⟩)) := by
  obtain ⟨j, hj, hjs⟩ := Option.map_eq_some_iff.1 bd_size
  have r1 := Lib.run_to_unsafe w ⟨b, 0, none⟩ Tryd.underlying67 Tryd.underlying107 hj (by rw [hjs]; decide) hsh (Nat.zero_lt_succ 1)
  have r2 := Lib.run_from_unsafe w ⟨b, 0, none⟩ Tryd.underlying107 Tryd.underlying67 hj hsh bd_lies
  have r3 := fun W => run_callFunc_extern Tryd.func71 (by kernel_rfl) (by kernel_rfl) (by kernel_rfl) (e := Extern.AbiNoEscape.same) (by kernel_rfl) (args := #[.pointer (some ⟨b, 0, none⟩)]) (w := W)
  go_enter Tryd.func50, Tryd.ntmps50
  go_wp2
  rw [Lib.run_noEscape]
  simp only [Result.andThen]
  rw [Oper.upon_value]
  go_wp2
  go_end0
  exact ⟨rfl, rfl⟩
/-- Blocks beside the builder's own, and of no bytes, are as they were. -/
def Else (b : Nat) (w w' : World) : Prop := ∀ (k : Nat) (cs : Array Value) (T : TypeId), T ≠ 5 → k ≠ b → Blk w k cs T → Blk w' k cs T
theorem Else.refl (b : Nat) (w : World) : Else b w w := fun _ _ _ _ _ h => h
theorem Else.trans {b : Nat} {w w' w'' : World} (h : Else b w w') (h' : Else b w' w'') : Else b w w'' := fun k cs T h1 h2 hk => h' k cs T h1 h2 (h k cs T h1 h2 hk)
theorem Else.ofFrm {b : Nat} {w w' : World} (f : Frm noB w w') : Else b w w' := fun _ _ _ _ _ h => h.frm f (fun h => h)
theorem cc_any (B b : Nat) (bs : List Value) (w : World) (h : Lib.IsBuilder 70 5 B b bs w) :
    Calls Tryd.prog 50 #[.pointer (some ⟨b, 0, none⟩)] w fun e w' => e = .returned (.tuple #[]) ∧ Lib.BuilderAt 70 5 B b (.pointer (some ⟨b, 0, none⟩)) bs w' ∧ Below B w w' ∧ Else b w w' := by
  rcases h with h | h
  · refine (cc_fresh b w h.cell0 h.shape h.frozen0).mono ?_
    rintro e w' ⟨rfl, rfl⟩
    exact ⟨rfl, h.used _, (Below.refl B w).setCell (p := ⟨b, 0, none⟩) h.1 _, fun k cs T _ hk hB => hB.set_ne (a := ⟨b, 0, none⟩) hk _⟩
  · refine (cc_used b w h.cell0).mono ?_
    rintro e w' ⟨rfl, rfl⟩
    exact ⟨rfl, h, Below.refl B _, Else.refl _ _⟩
theorem bd_parts {B b : Nat} {p : Value} {l : List UInt8} {w : World} (h : BdAt B b p l w) : ∃ v, B ≤ b ∧ Blk w b #[p, v] 70 ∧ w.ownsRow B 5 1 v l.length (Lib.byteCells l) ∧ v.ownBlock ≠ some b := by
  obtain ⟨hB, v, hb, hown, hne⟩ := h
  rw [Lib.byteCells_length] at hown
  exact ⟨v, hB, hb, hown, hne⟩
theorem bd_put {B b : Nat} {p v v' : Value} {l : List UInt8} {w : World} (hB : B ≤ b) (hb : Blk w b #[p, v] 70) (hown : w.ownsRow B 5 1 v' l.length (Lib.byteCells l)) : BdAt B b p l (w.setCell ⟨b, 1, none⟩ v') :=
  Lib.BuilderAt.put hB hb (by rw [Lib.byteCells_length]; exact hown) (by decide)
theorem byteCells_app (a b : List UInt8) : Lib.byteCells (a ++ b) = Lib.byteCells a ++ Lib.byteCells b := by simp [Lib.byteCells]
set_option maxHeartbeats 2000000 in
theorem wstr_any (B b : Nat) (l : List UInt8) (S : ByteArray) (w : World) (h : Bd B b l w) (hlen : l.length ≤ 1000000) (hs : S.size ≤ 1000000) (hBw : B ≤ w.heap.size) :
    Calls Tryd.prog 37 #[.pointer (some ⟨b, 0, none⟩), .string S] w fun e w' => e = .returned (.tuple #[.int .i64 S.size, .nilIface]) ∧ Bd B b (l ++ S.data.toList) w' ∧ Below B w w' ∧ Else b w w' := by
  obtain ⟨i0, hi, hz0, hz1, hz2⟩ := info_parts info_byte
  have hsc : Lib.strCells S = Lib.byteCells S.data.toList := rfl
  have hss : S.data.toList.length = S.size := ba_len S
  have Hh := Lib.hid h
  have Hss := Lib.hid hss
  have Hsc := Lib.hid hsc
  clear h hss hsc
  go_enter Tryd.func37, Tryd.ntmps37
  go_wp2_with fail
  refine (cc_any B b _ _ Hh.out).mono ?_
  rintro e w1 ⟨rfl, h1, hb1, hel⟩
  obtain ⟨v, hB, hbk, hown, hne⟩ := bd_parts h1
  have c0 := (hbk.cell 0).trans (show _ = some (Value.pointer (some ⟨b, 0, none⟩)) from rfl)
  have c1 := (hbk.cell 1).trans (show _ = some v from rfl)
  have hz := hb1.size
  have bl := hbk.lt
  have H1 := Lib.hid h1
  have Hb1 := Lib.hid hb1
  have Hbk := Lib.hid hbk
  have Hown := Lib.hid hown
  have Hne := Lib.hid hne
  have Hel := Lib.hid hel
  clear h1 hb1 hbk hown hne hel
  go_wp2_with (at_builtin; refine Lib.wpList_append_own_string _ (by rfl) _ _ 68 9 (by rfl) B 5 i0 Tryd.underlying68 Tryd.underlying9 hi hz0 hz1 hz2 _ _ _ (by rfl) Hown.out S (by rfl) (by simp only [maxLen]; omega) (by omega) (by omega) ?_)
  intro v' w2 hown' hgrow _
  have hf : Frm (fun i => some i = v.ownBlock) w1 w2 := Frm.ofGrown hgrow
  have hb2 := Hbk.out.frm hf (fun e => Hne.out e.symm)
  have hel2 : ∀ u, Else b w (w2.setCell ⟨b, 1, none⟩ u) := fun u k cs T hT hk hB => (((Hel.out k cs T hT hk hB).frm hf (fun e => Lib.ownBlock_ne Hown.out (Hel.out k cs T hT hk hB) hT e.symm))).set_ne (a := ⟨b, 1, none⟩) hk u
  have d0 := (hb2.cell 0).trans (show _ = some (Value.pointer (some ⟨b, 0, none⟩)) from rfl)
  have d1 := (hb2.cell 1).trans (show _ = some v from rfl)
  have f1 := hb2.free 1
  have bl2 := hb2.lt
  obtain ⟨ao, n', cap, rfl⟩ : ∃ ao n' cap, v' = .slice ao n' cap := by
    rcases hown'.2 with ⟨hv, _⟩ | ⟨g, cap, cur, hv, _⟩
    · exact ⟨_, _, _, hv⟩
    · exact ⟨_, _, _, hv⟩
  have hput := bd_put (l := l ++ S.data.toList) hB hb2 (by rw [byteCells_app, ← Hsc.out, List.length_append, Hss.out]; exact hown')
  have hbelow := (Hb1.out.grown hgrow (by have := Hb1.out.size; omega) (fun k hk => (Hown.out.lt k hk).1)).setCell (p := ⟨b, 1, none⟩) hB (.slice ao n' cap)
  have Hput := Lib.hid hput
  have Hbelow := Lib.hid hbelow
  have Hb2 := Lib.hid hb2
  have Hf := Lib.hid hf
  have Hel2 := Lib.hid hel2
  clear hput hbelow hb2 hf hel2
  clear hown' hgrow
  go_wp2
  go_ret2
  exact ⟨rfl, .inr Hput.out, Hbelow.out, Hel2.out _⟩
theorem bdat_frm {B b : Nat} {p : Value} {l : List UInt8} {w w' : World} (h : BdAt B b p l w) (f : Frm noB w w') : BdAt B b p l w' := by
  obtain ⟨hB, v, hb, hown, hne⟩ := h
  exact ⟨hB, v, (show Blk w b #[p, v] 70 from hb).frm f (fun h => h), ownsRow_frm hown f (fun _ _ h => h), hne⟩
theorem bd_frm {B b : Nat} {l : List UInt8} {w w' : World} (h : Bd B b l w) (f : Frm noB w w') : Bd B b l w' := by
  rcases h with h | h
  · exact .inl (bdat_frm h f)
  · exact .inr (bdat_frm h f)
theorem bd_new (w : World) : Bd w.heap.size w.heap.size [] (w.alloc (.cells #[.pointer none, .slice none 0 0] 70)) := Lib.fresh_isBuilder _ _ w
theorem bd_lt {B b : Nat} {l : List UInt8} {w : World} (h : Bd B b l w) : b < w.heap.size ∧ B ≤ b := by
  rcases h with h | h
  · exact ⟨h.lt, h.1⟩
  · exact ⟨h.lt, h.1⟩
theorem Frm.andBelow {w W w1 : World} (h : Frm noB w W) (k : Below w.heap.size W w1) : Frm noB w w1 :=
  ⟨k.os.trans h.os, k.tape.trans h.tape, k.output.trans h.output, Nat.le_trans h.size k.size, fun i hi _ => (k.block i hi).trans (h.block i hi (fun h => h))⟩
end Go.Proofs.YtpgcfeplcibhoaaDoor
