/- Nodes of a tree, a row of them sorted. A row of nodes, sorted by name. Whole and Tree of a collector. -/
import Derived.Test.YtpgcfeplcibhoaaDoorColBase
import Derived.Test.YtpgcfeplcibhoaaDoorShelf
import Derived.Shelf.SlSortCmp.WholeK
import Derived.Shelf.SlSortCmp.NoneTotal
set_option linter.unusedVariables false
set_option linter.unusedSimpArgs false
namespace Go.Proofs.YtpgcfeplcibhoaaDoor
open Go.RowKit Go.Shelf
open Go.Sort (HoldsK flatK get_flatK size_flatK)

theorem sort_frm {α : Type} [Inhabited α] (enc : α → List Value) (k : Nat) (w : World) (g off m : Nat) (d : Array α) (os : Array Obj) : Frm (oneB g) w (sortWorldK enc k w g off m d os) := by
  refine ⟨rfl, rfl, rfl, size_sortWorldK_c enc k w g off m d os, fun i hi hs => ?_⟩
  show ((w.heap.modify g _) ++ os)[i]? = _
  rw [Array.getElem?_append_left (by simpa using hi), Array.getElem?_modify, if_neg (fun e => hs e.symm)]
theorem own_holds {α : Type} [Inhabited α] {E : Enc α} {w : World} {base g n c : Nat} {T : TypeId} {l : List α} (h : Own E w base T (.slice (some ⟨g, 0, none⟩) n c) l) (hk : 0 < E.k) : HoldsK E.enc E.k w g 0 l.toArray := by
  intro j hj
  rw [size_flatK] at hj
  rw [get_flatK _ _ _ _ hj]
  have h1 : j / E.k < l.length := Nat.div_lt_of_lt_mul (by rw [Nat.mul_comm]; simpa using hj)
  have h2 : j % E.k < E.k := Nat.mod_lt _ hk
  have h3 : l.toArray[j / E.k]! = l[j / E.k] := by simp [h1]
  have h4 : (E.enc l[j / E.k])[j % E.k]? = some ((E.enc l[j / E.k])[j % E.k]!) := by
    have : j % E.k < (E.enc l[j / E.k]).length := by rw [E.len]; exact h2
    rw [List.getElem?_eq_getElem this, List.getElem!_eq_getElem?_getD, List.getElem?_eq_getElem this]; rfl
  have h5 := h.cell (j / E.k) (j % E.k) _ _ (List.getElem?_eq_getElem h1) h4
  rw [h3]
  refine ⟨?_, h.cell? _⟩
  rw [Nat.zero_add]
  have e : j / E.k * E.k + j % E.k = j := by rw [Nat.mul_comm]; exact Nat.div_add_mod j E.k
  rw [e] at h5
  exact h5
theorem own_sorted {α : Type} [Inhabited α] {E : Enc α} {w : World} {base g n c : Nat} {T : TypeId} {l : List α} (h : Own E w base T (.slice (some ⟨g, 0, none⟩) n c) l) (hk : 0 < E.k) (m : Nat) (d : Array α) (os : Array Obj) (hd : d.size = l.length) :
    Own E (sortWorldK E.enc E.k w g 0 m d os) base T (.slice (some ⟨g, 0, none⟩) n c) d.toList := by
  have hH := own_holds h hk
  have hg := h.lt g rfl
  have hH2 := holdsK_sortWorldK_c E.enc E.k w g 0 l.toArray d m os hH hg.2 (by simpa using hd)
  obtain ⟨hlen, hv | ⟨g', cap, cur, hv, hb, hheap, hn, hcap, hsz, htk⟩⟩ := h
  · cases hv.1
  cases hv
  have hheap2 : (sortWorldK E.enc E.k w g 0 m d os).heap[g]? = some (.cells (Sort.putCells id 0 (flatK E.enc E.k d) cur) T (0, 0)) := by
    show ((w.heap.modify g _) ++ os)[g]? = _
    rw [Array.getElem?_append_left (by simpa using hg.2), Array.getElem?_modify, if_pos rfl, hheap]; rfl
  have hdl : d.toList.length = l.length := by simpa using hd
  have hcells : ∀ j, j < l.length * E.k → (Sort.putCells id 0 (flatK E.enc E.k d) cur)[j]? = (rowOf E d.toList)[j]? := fun j hj => by
    have h1 : j / E.k < d.size := by rw [hd]; exact Nat.div_lt_of_lt_mul (by rw [Nat.mul_comm]; exact hj)
    have h2 : j % E.k < E.k := Nat.mod_lt _ hk
    have e : j / E.k * E.k + j % E.k = j := by rw [Nat.mul_comm]; exact Nat.div_add_mod j E.k
    have h3 := (hH2.cell h1 h2).1
    rw [Nat.zero_add, e] at h3
    have h4 := rowOf_get E d.toList (j / E.k) (j % E.k) d[j / E.k] (by rw [Array.getElem?_toList]; exact Array.getElem?_eq_getElem h1) h2
    rw [e] at h4
    rw [h4]
    have h5 : j % E.k < (E.enc d[j / E.k]).length := by rw [E.len]; exact h2
    rw [List.getElem?_eq_getElem h5]
    have h6 : (sortWorldK E.enc E.k w g 0 m d os).cell? ⟨g, j, none⟩ = (Sort.putCells id 0 (flatK E.enc E.k d) cur)[j]? := by simp [World.cell?, hheap2]
    rw [← h6, h3, getElem!_pos d _ h1, List.getElem!_eq_getElem?_getD, List.getElem?_eq_getElem h5]; rfl
  refine ⟨by rw [rowOf_len], .inr ⟨g, _, _, by rw [hdl], hb, hheap2, by rw [hdl]; exact hn, hcap, by unfold Sort.putCells; rw [Array.size_mapIdx]; exact hsz, ?_⟩⟩
  rw [hdl]
  have hr : (rowOf E d.toList).length = l.length * E.k := by rw [rowOf_len, hdl]
  apply List.ext_getElem?
  intro j
  by_cases hj : j < l.length * E.k
  · rw [List.getElem?_take_of_lt hj, Array.getElem?_toList, hcells j hj]
  · rw [List.getElem?_eq_none (by rw [List.length_take]; omega), List.getElem?_eq_none (by omega)]
theorem swoN : Sort.SWO (ltOf cfN) where
  irrefl x := by unfold ltOf cfN; rw [cmp_self]; rfl
  trans x y z h1 h2 := by unfold ltOf cfN at *; simp only [decide_eq_true_eq] at *; exact cmp_trans _ _ _ h1 h2
  ntrans x y z h1 h2 := by
    unfold ltOf cfN at *
    simp only [decide_eq_false_iff_not, Int.not_lt] at *
    by_cases e1 : Lib.compareBytes x.name.data.toList y.name.data.toList = 0
    · rw [cmp_eq0 _ _ e1]; exact h2
    · by_cases e2 : Lib.compareBytes y.name.data.toList z.name.data.toList = 0
      · rw [← cmp_eq0 _ _ e2]; exact h1
      · have a1 : Lib.compareBytes y.name.data.toList x.name.data.toList < 0 := by rw [cmp_neg]; omega
        have a2 : Lib.compareBytes z.name.data.toList y.name.data.toList < 0 := by rw [cmp_neg]; omega
        have := cmp_trans _ _ _ a2 a1
        rw [cmp_neg] at this; omega
end Go.Proofs.YtpgcfeplcibhoaaDoor
set_option linter.unusedVariables false
set_option linter.unusedSimpArgs false
namespace Go.Proofs.YtpgcfeplcibhoaaDoor
open Go.RowKit Go.Shelf
open Go.Sort (HoldsK flatK get_flatK size_flatK grow)

set_option maxHeartbeats 1000000 in
theorem tree1_any (x y : Nod) (W : World) : Calls Tryd.prog 34 #[.agg (nodL x).toArray, .agg (nodL y).toArray] W fun e w' => e = .returned (.int .i64 (cfN x y)) ∧ ∃ q os', w' = grow (W.drewN q) os' := by
  obtain ⟨x0, x1, ⟨x2, x3, x4, x5, x6, x7⟩⟩ := x
  obtain ⟨y0, y1, ⟨y2, y3, y4, y5, y6, y7⟩⟩ := y
  have hcon := fun W' => Tryd.strings_Compare x0 y0 W'
  obtain ⟨r, hr⟩ : ∃ r, r = Lib.compareBytes x0.data.toList y0.data.toList := ⟨_, rfl⟩
  rw [← hr] at hcon
  have hcf : cfN ⟨x0, x1, ⟨x2, x3, x4, x5, x6, x7⟩⟩ ⟨y0, y1, ⟨y2, y3, y4, y5, y6, y7⟩⟩ = r := hr.symm
  rw [hcf]
  have Hr := Lib.hid hr
  have Hcf := Lib.hid hcf
  clear hr hcf
  simp only [nodL]
  go_enter Tryd.func34, Tryd.ntmps34
  go_wp2_with (go_at_call 35; refine (hcon _).mono ?_; rintro e w' ⟨rfl, rfl⟩)
  go_ret
  exact ⟨rfl, 0, _, by rw [Sort.alloc_eq_grow, Sort.alloc_eq_grow, Sort.grow_grow]; rfl⟩
theorem nodes_sort (w : World) (base : Nat) (v : Value) (l : List Nod) (h : Own nodE w base 49 v l) (hl : l.length ≤ 1000000) :
    Calls Tryd.prog 33 #[v, .func (.func 34) #[] #[]] w fun e w' => e = .returned (.tuple #[]) ∧
      ∃ l' : List Nod, l'.Perm l ∧ l'.Pairwise (fun x y => cfN y x < 0 → False) ∧ Own nodE w' base 49 v l' ∧ Frm (fun i => some i = v.ownBlock) w w' := by
  obtain ⟨a, c, rfl, _, hpos⟩ := h.shape
  by_cases h0 : l.length = 0
  · have := AnyF.slices_SortFunc_none Tryd.laySort a c (.func (.func 34) #[] #[]) w
    rw [h0] at h ⊢
    refine Calls.mono this ?_
    rintro e w' ⟨rfl, rfl⟩
    have hnil : l = [] := List.length_eq_zero_iff.1 h0
    exact ⟨rfl, l, List.Perm.refl _, by rw [hnil]; exact List.Pairwise.nil, h, Frm.refl _ _⟩
  · obtain ⟨g, rfl, hb, hg⟩ := hpos (by omega)
    have eg : ∀ args w, (callFunc 34 args).run Tryd.prog w = .ok (.enter 34 args) w := enters_of Tryd.func34 (by kernel_rfl) rfl
    have hcon := AnyQ.slices_SortFunc Tryd.laySort 8 (fun w => by kernel_rfl) (fun w => by kernel_rfl) nodL (fun _ => rfl) (fun x u hu => nodE.one x u hu) cfN swoN 34 #[] g 0 c l.toArray w eg
      (fun _ _ _ _ x y => tree1_any x y _) (own_holds h (by decide)) hg (by simp; omega)
    have hsz : l.toArray.size = l.length := by simp
    rw [hsz] at hcon
    refine Calls.mono hcon ?_
    rintro e w' ⟨rfl, d', n, os, hp, hs, rfl⟩
    have hd : d'.size = l.length := by rw [hp.1, hsz]
    refine ⟨rfl, d'.toList, ?_, ?_, own_sorted h (by decide) n d' os hd, (sort_frm nodL 8 w g 0 n d' os).mono (fun i _ e => by rw [show i = g from e]; rfl)⟩
    · have := hp.2.2
      rw [← hsz] at this
      rw [Array.extract_size] at this
      have e : d'.extract 0 l.toArray.size = d' := by rw [hsz, ← hd]; exact Array.extract_size
      rw [e] at this
      simpa using this
    · rw [List.pairwise_iff_getElem]
      intro i j hi hj hij hlt
      have := hs i j (Nat.zero_le _) hij (by rw [← hd]; simpa using hj)
      unfold ltOf at this
      simp only [decide_eq_false_iff_not] at this
      refine this ?_
      have hi' : i < d'.size := by simpa using hi
      have hj' : j < d'.size := by simpa using hj
      rw [getElem!_pos d' i hi', getElem!_pos d' j hj']
      simpa using hlt
end Go.Proofs.YtpgcfeplcibhoaaDoor
set_option linter.unusedVariables false
set_option linter.unusedSimpArgs false
namespace Go.Proofs.YtpgcfeplcibhoaaDoor
open Go.RowKit Go.Shelf

theorem whole_any (b k : Nat) (L : List Spn) (O : Nat → Prop) (r : Int) (w : World) (h : ColIs w b L k O) (hr : (Lit.int .i64 r).wf = true) (hnm : ∀ s ∈ L, s.name.size ≤ 1000) (hL : L.length ≤ 500) :
    Calls Tryd.prog 17 #[.pointer (some ⟨b, 0, none⟩), .int .i64 r] w fun e w' => e = .returned (.bool (missL L r).isEmpty) ∧ Frm noB w w' := by
  have hcon := missing_any b k L O r w h hr hnm hL
  have hM : misS L (seenL [] (namesL L r)) = missL L r := rfl
  rw [hM] at hcon
  obtain ⟨M, hM2⟩ : ∃ M, M = missL L r := ⟨_, rfl⟩
  rw [← hM2] at hcon ⊢
  have Hh := Lib.hid h
  have Hr := Lib.hid hr
  have Hnm := Lib.hid hnm
  have HL := Lib.hid hL
  have HM := Lib.hid hM
  have HM2 := Lib.hid hM2
  clear h hr hnm hL hM hM2
  go_enter Tryd.func17, Tryd.ntmps17
  have hb : ((M.length : Int) == 0) = M.isEmpty := by cases M <;> simp; omega
  go_wp2_with (go_at_call 32; refine hcon.mono ?_; rintro e w' ⟨v, rfl, ho, hf⟩; obtain ⟨a, c, rfl, _, _⟩ := ho.shape; have Hf := Lib.hid hf; clear hf ho)
  go_ret
  exact ⟨rfl, Hf.out⟩

theorem app_nod (w : World) {ops : Array Oper} {rest : List Oper} {o : Oper} {a : Act} {Q : Exit → Act → World → Prop} (hgd : o.guard = none) (s x : Operand)
    (ho : o.op = .call { callee := .builtin .append, args := #[s, x], argTypes := #[32, 32] }) (base : Nat)
    (v : Value) (l : List Nod) (hs : a.eval s = v) (hown : Own nodE w base 49 v l) (el : Nod) (cs : Array Value) (hcs : cs.toList = nodL el)
    (H : Nat) (hH : w.heap.size = H) (hx : a.eval x = .slice (some ⟨H, 0, none⟩) 1 1) (hsm : l.length ≤ 1000000) (hbase : base ≤ w.heap.size)
    (h : ∀ v' w', Own nodE w' base 49 v' (l ++ [el]) → Frm (fun i => some i = v.ownBlock) w w' → (v'.ownBlock = v.ownBlock ∨ ∃ g, v'.ownBlock = some g ∧ w.heap.size < g ∧ g < w'.heap.size) → wpList Tryd.prog ops Q rest (a.put o.dst v') w') : wpList Tryd.prog ops Q (o :: rest) a (w.alloc (.cells cs 49)) := by
  obtain ⟨i, hi, hz, h1, h2⟩ := info_parts info_nod
  exact wpl_app1 nodE w hgd s x 32 ho base 49 i _ 80 Tryd.underlying32 hi hz h1 h2 rfl (by decide) (by omega) v l hs hown el cs hcs H hH hx hsm hbase (fun v' w' a1 a2 a3 a4 a5 => h v' w' a1 a3 a4)
set_option maxRecDepth 100000 in
set_option maxHeartbeats 4000000 in
theorem ctree_any (b m1 m2 k : Nat) (L : List Spn) (rows : Int → Value) (O : Nat → Prop) (r : Int) (w : World) (h : ColM w b m1 m2 L rows k O) (hr : (Lit.int .i64 r).wf = true) (hnm : ∀ s ∈ L, s.name.size ≤ 1000) (hL : L.length ≤ 500) (hML : (missL L r).length ≤ 600000) :
    Calls Tryd.prog 14 #[.pointer (some ⟨b, 0, none⟩), .int .i64 r] w fun e w' => ∃ v l', e = .returned v ∧ Own nodE w' w.heap.size 49 v l' ∧ l'.Perm (nodesL L r) ∧ l'.Pairwise (fun x y => cfN y x < 0 → False) ∧ Frm noB w w' := by
  obtain ⟨ra, rc, hrv, hrd⟩ := (h.row r).rd
  have hlk := fun W (hW : Frm noB w W) => (h.keep hW).lookN r hr
  rw [hrv] at hlk
  have hBc := fun W (hW : Frm noB w W) => (h.blk.frm hW (fun h => h))
  have hlen : (namesL L r).length ≤ 500 := Nat.le_trans (by unfold namesL; rw [List.length_map]; exact List.length_filter_le _ _) hL
  have hnn : ∀ x ∈ namesL L r, x.size ≤ 1000 := fun x hx => by
    obtain ⟨s, hs, rfl⟩ := namesL_in hx
    exact hnm s hs
  have hmis := fun W (hW : Frm noB w W) => missing_any b k L O r W ⟨m1, m2, rows, h.keep hW⟩ hr hnm hL
  have hnl : nodesL L r = (namesL L r).map (cameN L) ++ (missL L r).map goneN := rfl
  rw [hnl]
  have hM : misS L (seenL [] (namesL L r)) = missL L r := rfl
  rw [hM] at hmis
  obtain ⟨M, hMM⟩ : ∃ M, M = missL L r := ⟨_, rfl⟩
  rw [← hMM] at hmis hML ⊢
  clear hnl hM hMM
  obtain ⟨nms, hnms⟩ : ∃ l, l = namesL L r := ⟨_, rfl⟩
  rw [← hnms] at hlk hrd hlen hnn ⊢
  clear hrv hnms
  obtain ⟨N, hN⟩ : ∃ N, N = nms.length := ⟨_, rfl⟩
  rw [← hN] at hlk hrd hlen
  obtain ⟨NM, hNM⟩ : ∃ q, q = M.length := ⟨_, rfl⟩
  have hl1 := hlk _ (Frm.refl _ w)
  have hc0 := h.blk.cell 0
  have hc1 := h.blk.cell 1
  simp at hc0 hc1
  have Hh := Lib.hid h
  have Hr := Lib.hid hr
  have Hnm := Lib.hid hnm
  have HL := Lib.hid hL
  have Hrd := Lib.hid hrd
  have Hlen := Lib.hid hlen
  have Hnn := Lib.hid hnn
  have HN := Lib.hid hN
  have Hlk := Lib.hid hlk
  have HBc := Lib.hid hBc
  have Hmis := Lib.hid hmis
  have HML := Lib.hid hML
  have HNM := Lib.hid hNM
  clear h hr hnm hL hrd hlen hnn hN hlk hBc hmis hML hNM
  go_enter Tryd.func14, Tryd.ntmps14
  go_wp2
  go_loopw [5, 17] (fun p i W => ∃ j : Nat, i = .int .i64 j ∧ j ≤ N ∧ Own nodE W w.heap.size 49 p ((nms.take j).map (cameN L)) ∧ Frm noB w W) (fun p i W => N - (intOfV i).toNat)
  case atStart => exact ⟨0, rfl, Nat.zero_le _, Own.nil _ _ _ _, Frm.refl _ _⟩
  case round =>
    obtain ⟨j, rfl, hj, ho, hf⟩ := hrel
    by_cases hjN : j < N
    · have hjl : j < nms.length := by rw [← HN.out]; exact hjN
      obtain ⟨x, hx⟩ : ∃ x, nms[j]? = some x := ⟨_, List.getElem?_eq_getElem hjl⟩
      have hxs := Hnn.out _ (List.mem_of_getElem? hx)
      obtain ⟨rb, off, rfl, hrb, hrc⟩ := str_rd Hrd.out hx
      have hcW := cell_frm hf (fun h => h) hrc
      have hlt : decide ((j : Int) < (N : Int)) = true := decide_eq_true (by omega)
      have hb0 := (HBc.out _ hf).cell 0
      simp at hb0
      have hlk1 := (Hh.out.keep hf).look1 x (by omega)
      obtain ⟨y, hy⟩ : ∃ y, y = (fndS L x.data.toList).getD spn0 := ⟨_, rfl⟩
      have hcn : cameN L x = ⟨x, false, y⟩ := by rw [hy]; rfl
      rw [← hy] at hlk1
      obtain ⟨y0, y1, y2, y3, y4, y5⟩ := y
      simp only [spnV] at hlk1
      have hol : ((nms.take j).map (cameN L)).length ≤ 1000000 := by rw [List.length_map, List.length_take]; have := Hlen.out; omega
      have hbs := hf.size
      have Hj := Lib.hid hj
      have Hjl := Lib.hid hjl
      have Hx := Lib.hid hx
      have Hxs := Lib.hid hxs
      have Hrb := Lib.hid hrb
      have Hrc := Lib.hid hrc
      have Hf := Lib.hid hf
      have Ho := Lib.hid ho
      have Hy := Lib.hid hy
      have Hcn := Lib.hid hcn
      have Hol := Lib.hid hol
      have Hbs := Lib.hid hbs
      clear hj hjl hx hxs hrb hrc hf ho hy hcn hol hbs
      go_wp2_with (at_builtin; refine app_nod wr rfl _ _ (by rfl) w.heap.size _ _ (by rfl) Ho.out ⟨x, false, ⟨y0, y1, y2, y3, y4, y5⟩⟩ _ (by rfl) _ rfl (by rfl) Hol.out Hbs.out ?_; intro v' w1 ho1 hf1 _; have Ho1 := Lib.hid ho1; have Hf1 := Lib.hid hf1; clear ho1 hf1)
      have hwr : wrap64 ((j : Int) + 1) = ((j + 1 : Nat) : Int) := by have := Hlen.out; unfold wrap64; omega
      rw [hwr]
      refine ⟨⟨j + 1, rfl, by omega, ?_, Hf.out.new Hf1.out (fun i hi e => by have := (Ho.out.lt i e.symm).1; omega)⟩, ?_⟩
      · rw [map_take_snoc _ _ _ _ Hx.out, Hcn.out]; exact Ho1.out
      · show N - (Int.toNat ((j + 1 : Nat) : Int)) < N - (Int.toNat (j : Int))
        omega
    · obtain rfl : j = N := by omega
      have htk : nms.take j = nms := List.take_of_length_le (by rw [← HN.out]; exact Nat.le_refl _)
      rw [htk] at ho
      have hlt : decide ((j : Int) < (j : Int)) = false := decide_eq_false (by omega)
      have hm := Hmis.out wr hf
      have hbs := hf.size
      have Hj := Lib.hid hj
      have Ho := Lib.hid ho
      have Hf := Lib.hid hf
      have Hbs := Lib.hid hbs
      have Htk := Lib.hid htk
      clear hj ho hf hbs htk
      go_wp2_with (go_at_call 32; refine hm.mono ?_; clear hm; rintro e W2 ⟨v2, rfl, ho2, hf2⟩; have Ho2 := Lib.hid ho2; have Hf2 := Lib.hid hf2; obtain ⟨a2, c2, hv2, _, _⟩ := ho2.shape; rw [← HNM.out] at hv2; subst hv2; clear ho2 hf2)
      have hz2 := Hf2.out.size
      obtain ⟨p0, hp0⟩ : ∃ q, q = u5 := ⟨_, rfl⟩
      go_loopw [5, 37] (fun p i W => ∃ q : Nat, i = .int .i64 q ∧ q ≤ NM ∧ Own nodE W w.heap.size 49 p (nms.map (cameN L) ++ (M.take q).map goneN) ∧ Frm noB w W ∧ Rd strE W a2 NM M ∧ ∀ g, p.ownBlock = some g → ∀ x, a2 = some x → x.block ≠ g) (fun p i W => NM - (intOfV i).toNat)
      case atStart =>
        refine ⟨0, rfl, Nat.zero_le _, ?_, (Hf.out.trans Hf2.out), Ho2.out.rdS, fun g hg x hx => ?_⟩
        · rw [List.take_zero, List.map_nil, List.append_nil]; exact Ho.out.frm Hf2.out (fun _ _ h => h)
        · subst hx
          have h1 := (Ho.out.lt g hg).2
          have h2 := (Ho2.out.lt x.block rfl).1
          omega
      case round =>
        obtain ⟨q, rfl, hq, ho, hf, hrd, hap⟩ := hrel
        by_cases hqN : q < NM
        · have hql : q < M.length := by rw [← HNM.out]; exact hqN
          obtain ⟨x, hx⟩ : ∃ x, M[q]? = some x := ⟨_, List.getElem?_eq_getElem hql⟩
          obtain ⟨rb2, off2, rfl, hrb2, hrc2⟩ := str_rd hrd hx
          have hlt2 : decide ((q : Int) < (NM : Int)) = true := decide_eq_true (by omega)
          have hol : (nms.map (cameN L) ++ (M.take q).map goneN).length ≤ 1000000 := by
            rw [List.length_append, List.length_map, List.length_map, List.length_take, ← HN.out]; have := Hlen.out; have := HML.out; omega
          have hbs2 := hf.size
          have Hq := Lib.hid hq
          have Hql := Lib.hid hql
          have Hx := Lib.hid hx
          have Hrb2 := Lib.hid hrb2
          have Hf := Lib.hid hf
          have Ho := Lib.hid ho
          have Hol := Lib.hid hol
          have Hbs2 := Lib.hid hbs2
          have Hrd := Lib.hid hrd
          have Hap := Lib.hid hap
          have Hz2 := Lib.hid hz2
          have Hp0 := Lib.hid hp0
          clear hq hql hx hrb2 hf ho hol hbs2 hrd hap hz2 hp0
          go_wp2_with (at_builtin; refine app_nod wr rfl _ _ (by rfl) w.heap.size _ _ (by rfl) Ho.out ⟨x, true, spn0⟩ _ (by rfl) _ rfl (by rfl) Hol.out Hbs2.out ?_; intro v' w1 ho1 hf1 hb1; have Ho1 := Lib.hid ho1; have Hf1 := Lib.hid hf1; have Hb1 := Lib.hid hb1; clear ho1 hf1 hb1)
          have hwr : wrap64 ((q : Int) + 1) = ((q + 1 : Nat) : Int) := by have := HML.out; have := HNM.out; unfold wrap64; omega
          rw [hwr]
          refine ⟨⟨q + 1, rfl, by omega, ?_, Hf.out.new Hf1.out (fun i hi e => by have := (Ho.out.lt i e.symm).1; omega), Hrd.out.frm Hf1.out (fun x hx e => Hap.out _ e.symm x hx rfl), fun g hg y hy => ?_⟩, ?_⟩
          · rw [map_take_snoc goneN _ _ _ Hx.out, ← List.append_assoc]; exact Ho1.out
          · rcases Hb1.out with hb | ⟨g', hb, hlt', _⟩
            · exact Hap.out g (by rw [← hb]; exact hg) y hy
            · rw [hb] at hg; cases hg
              cases hy
              show rb2 ≠ g
              have := Hrb2.out
              omega
          · show NM - (Int.toNat ((q + 1 : Nat) : Int)) < NM - (Int.toNat (q : Int))
            omega
        · obtain rfl : q = NM := by omega
          have htk2 : M.take q = M := List.take_of_length_le (by rw [← HNM.out]; exact Nat.le_refl _)
          rw [htk2] at ho
          have hlt2 : decide ((q : Int) < (q : Int)) = false := decide_eq_false (by omega)
          have hol : (nms.map (cameN L) ++ M.map goneN).length ≤ 1000000 := by
            rw [List.length_append, List.length_map, List.length_map, ← HN.out]; have := Hlen.out; have := HML.out; omega
          have hst := nodes_sort wr w.heap.size u5 _ ho hol
          have Hq := Lib.hid hq
          have Ho := Lib.hid ho
          have Hf := Lib.hid hf
          have Hol := Lib.hid hol
          have Htk2 := Lib.hid htk2
          have Hrd := Lib.hid hrd
          have Hap := Lib.hid hap
          have Hp0 := Lib.hid hp0
          have Hz2 := Lib.hid hz2
          clear hq ho hf hol htk2 hrd hap hp0 hz2
          go_wp2_with (go_at_call 33; refine hst.mono ?_; clear hst; rintro e W3 ⟨rfl, l3, hp3, hs3, ho3, hf3⟩; have Hp3 := Lib.hid hp3; have Hs3 := Lib.hid hs3; have Ho3 := Lib.hid ho3; have Hf3 := Lib.hid hf3; clear hp3 hs3 ho3 hf3)
          go_ret
          exact ⟨u5, l3, rfl, Ho3.out, Hp3.out, Hs3.out, Hf.out.new Hf3.out (fun i hi e => by have := (Ho.out.lt i e.symm).1; omega)⟩
end Go.Proofs.YtpgcfeplcibhoaaDoor
