/- SeglogResumes: for any numbers, shape, super and heads the law answers true, and its arguments read as before. Condition: the table blackbox/digest.constants starts as the program's text lays it (the card ties it). -/
import Derived.Test.YtnkebhlkhpgghaaGreatDoorPart14
set_option linter.unusedVariables false
set_option linter.unusedSimpArgs false

/- The row of SeglogResumes: its arguments opened, and the row said. -/
namespace Go.Proofs.YtnkebhlkhpgghaaGreatDoor
open Go Go.ChangeShapes Go.WideShapes Go.RowKit Go.Deep

instance : Inhabited Hd := ⟨⟨0, 0, []⟩⟩
section
variable {H : Type} {enc : TypeId × Value → H} {W : World} {base : Nat} {sp : Nat → Bool} {held : Bool}
theorem drop_seg (cs : List Value) (i n : Nat) : cs.drop i = (cs.drop i).take n ++ cs.drop (i + n) := by
  rw [← List.drop_drop]
  exact (List.take_append_drop n _).symm
set_option maxRecDepth 20000 in
theorem open_dig {fuel : Nat} {cs : List Value} {x : DataW H × List MemPlace} (h : DataW.trod enc Tryz.prog W base sp held fuel 40 cs = some x) : ∃ l : Bytes, l.length = 32 ∧ cs = bcells l := by
  obtain ⟨xs, m, _, _, hlen, hxl, hx⟩ := DataW.trod_array Tryz.underlying40 h
  have n1 : Tryz.prog.cellsOf 5 = 1 := by kernel_rfl
  have n32 : Tryz.prog.cellsOf 40 = 32 := by kernel_rfl
  rw [n32] at hlen
  obtain ⟨V, hV⟩ := choose_lt (α := UInt8) (n := 32) (p := fun i b => cs[i]? = some (.int .u8 b.toNat)) (fun i hi => by
    have h1 := hx i hi
    rw [n1, Nat.mul_one] at h1
    obtain ⟨y, hy⟩ : ∃ y, xs[i]? = some y := ⟨_, List.getElem?_eq_getElem (by omega)⟩
    rw [hy] at h1
    obtain ⟨k, e0, _, w0⟩ := DataW.trod_int Tryz.underlying5 h1
    have h2 : cs[i]? = some (.int .u8 k) := by
      have h3 := congrArg (fun l : List Value => l[0]?) e0
      simpa [List.getElem?_take, List.getElem?_drop] using h3
    have hb : 0 ≤ k ∧ k < 256 := by have := bounds_u8 w0; omega
    refine ⟨UInt8.ofNat k.toNat, ?_⟩
    rw [h2]
    congr 2
    simp
    omega)
  refine ⟨(List.range 32).map V, by simp, ?_⟩
  apply List.ext_getElem?
  intro i
  by_cases hi : i < 32
  · rw [hV i hi]
    simp [bcells, hi]
  · rw [List.getElem?_eq_none (by omega), List.getElem?_eq_none (by simp [bcells]; omega)]
set_option maxRecDepth 20000 in
theorem open_hd {fuel : Nat} {cs : List Value} {x : DataW H × List MemPlace} (h : DataW.trod enc Tryz.prog W base sp held fuel 70 cs = some x) : ∃ y : Hd, y.In ∧ cs = y.cells := by
  obtain ⟨xs, n, _, _, hlen, hx, hf⟩ := DataW.trod_struct Tryz.underlying70 h
  have n64 : Tryz.prog.cellsOf 34 = 1 := by kernel_rfl
  have n32 : Tryz.prog.cellsOf 40 = 32 := by kernel_rfl
  have n34 : Tryz.prog.cellsOf 70 = 34 := by kernel_rfl
  rw [n34] at hlen
  have hx : xs.length = 3 := hx
  match xs, hx, hf with
  | [y0, y1, y2], _, hf =>
    have f0 : DataW.trod enc Tryz.prog W base sp held n 34 ((cs.drop 0).take (Tryz.prog.cellsOf 34)) = some y0 := hf 0 _ rfl
    have f1 : DataW.trod enc Tryz.prog W base sp held n 34 ((cs.drop 1).take (Tryz.prog.cellsOf 34)) = some y1 := hf 1 _ rfl
    have f2 : DataW.trod enc Tryz.prog W base sp held n 40 ((cs.drop 2).take (Tryz.prog.cellsOf 40)) = some y2 := hf 2 _ rfl
    rw [n64] at f0 f1
    rw [n32] at f2
    obtain ⟨a0, e0, _, w0⟩ := DataW.trod_int Tryz.underlying34 f0
    obtain ⟨a1, e1, _, w1⟩ := DataW.trod_int Tryz.underlying34 f1
    obtain ⟨l, hl, e2⟩ := open_dig f2
    refine ⟨⟨a0, a1, l⟩, ⟨(wf_u64 w0).1, (wf_u64 w0).2, (wf_u64 w1).1, (wf_u64 w1).2, hl⟩, ?_⟩
    have h0 := drop_seg cs 0 1
    have h1 := drop_seg cs 1 1
    have h2 := drop_seg cs 2 32
    rw [e0] at h0
    rw [e1] at h1
    rw [e2] at h2
    rw [List.drop_of_length_le (show cs.length ≤ 2 + 32 from by omega), List.append_nil] at h2
    rw [show 1 + 1 = 2 from rfl, h2] at h1
    rw [show 0 + 1 = 1 from rfl, h1, List.drop_zero] at h0
    rw [h0]
    rfl
set_option maxRecDepth 20000 in
theorem open_sp {fuel : Nat} {cs : List Value} {x : DataW H × List MemPlace} (h : DataW.trod enc Tryz.prog W base sp held fuel 42 cs = some x) : ∃ y : Sp, y.In ∧ cs = y.cells := by
  obtain ⟨xs, n, _, _, hlen, hx, hf⟩ := DataW.trod_struct Tryz.underlying42 h
  have n64 : Tryz.prog.cellsOf 34 = 1 := by kernel_rfl
  have n32 : Tryz.prog.cellsOf 40 = 32 := by kernel_rfl
  have n70 : Tryz.prog.cellsOf 42 = 70 := by kernel_rfl
  rw [n70] at hlen
  have hx : xs.length = 8 := hx
  match xs, hx, hf with
  | [y0, y1, y2, y3, y4, y5, y6, y7], _, hf =>
    have f0 : DataW.trod enc Tryz.prog W base sp held n 34 ((cs.drop 0).take (Tryz.prog.cellsOf 34)) = some y0 := hf 0 _ rfl
    have f1 : DataW.trod enc Tryz.prog W base sp held n 34 ((cs.drop 1).take (Tryz.prog.cellsOf 34)) = some y1 := hf 1 _ rfl
    have f2 : DataW.trod enc Tryz.prog W base sp held n 34 ((cs.drop 2).take (Tryz.prog.cellsOf 34)) = some y2 := hf 2 _ rfl
    have f3 : DataW.trod enc Tryz.prog W base sp held n 40 ((cs.drop 3).take (Tryz.prog.cellsOf 40)) = some y3 := hf 3 _ rfl
    have f4 : DataW.trod enc Tryz.prog W base sp held n 34 ((cs.drop 35).take (Tryz.prog.cellsOf 34)) = some y4 := hf 4 _ rfl
    have f5 : DataW.trod enc Tryz.prog W base sp held n 34 ((cs.drop 36).take (Tryz.prog.cellsOf 34)) = some y5 := hf 5 _ rfl
    have f6 : DataW.trod enc Tryz.prog W base sp held n 34 ((cs.drop 37).take (Tryz.prog.cellsOf 34)) = some y6 := hf 6 _ rfl
    have f7 : DataW.trod enc Tryz.prog W base sp held n 40 ((cs.drop 38).take (Tryz.prog.cellsOf 40)) = some y7 := hf 7 _ rfl
    rw [n64] at f0 f1 f2 f4 f5 f6
    rw [n32] at f3 f7
    obtain ⟨a0, e0, _, w0⟩ := DataW.trod_int Tryz.underlying34 f0
    obtain ⟨a1, e1, _, w1⟩ := DataW.trod_int Tryz.underlying34 f1
    obtain ⟨a2, e2, _, w2⟩ := DataW.trod_int Tryz.underlying34 f2
    obtain ⟨l3, hl3, e3⟩ := open_dig f3
    obtain ⟨a4, e4, _, w4⟩ := DataW.trod_int Tryz.underlying34 f4
    obtain ⟨a5, e5, _, w5⟩ := DataW.trod_int Tryz.underlying34 f5
    obtain ⟨a6, e6, _, w6⟩ := DataW.trod_int Tryz.underlying34 f6
    obtain ⟨l7, hl7, e7⟩ := open_dig f7
    refine ⟨⟨a0, a1, a2, l3, a4, a5, a6, l7⟩, ⟨?_, hl3, hl7⟩, ?_⟩
    · intro q hq
      simp only [Sp.nums, List.mem_cons, List.mem_nil_iff, or_false] at hq
      rcases hq with rfl | rfl | rfl | rfl | rfl | rfl
      · exact wf_u64 w0
      · exact wf_u64 w1
      · exact wf_u64 w2
      · exact wf_u64 w4
      · exact wf_u64 w5
      · exact wf_u64 w6
    · have h0 := drop_seg cs 0 1
      have h1 := drop_seg cs 1 1
      have h2 := drop_seg cs 2 1
      have h3 := drop_seg cs 3 32
      have h4 := drop_seg cs 35 1
      have h5 := drop_seg cs 36 1
      have h6 := drop_seg cs 37 1
      have h7 := drop_seg cs 38 32
      rw [e0] at h0
      rw [e1] at h1
      rw [e2] at h2
      rw [e3] at h3
      rw [e4] at h4
      rw [e5] at h5
      rw [e6] at h6
      rw [e7, List.drop_of_length_le (show cs.length ≤ 38 + 32 from by omega), List.append_nil] at h7
      rw [show 37 + 1 = 38 from rfl, h7] at h6
      rw [show 36 + 1 = 37 from rfl, h6] at h5
      rw [show 35 + 1 = 36 from rfl, h5] at h4
      rw [show 3 + 32 = 35 from rfl, h4] at h3
      rw [show 2 + 1 = 3 from rfl, h3] at h2
      rw [show 1 + 1 = 2 from rfl, h2] at h1
      rw [show 0 + 1 = 1 from rfl, h1, List.drop_zero] at h0
      rw [h0]
      simp [Sp.cells]
set_option maxRecDepth 20000 in
/-- A row of heads, opened. -/
theorem open_heads {fuel : Nat} {a0 : Option Addr} {len cap : Nat} {x : DataW H × List MemPlace} (h : DataW.trod enc Tryz.prog W base sp held fuel 52 [.slice a0 len cap] = some x) :
    ∃ l : List Hd, l.length = len ∧ HdS W a0 l ∧ len ≤ cap ∧ cap ≤ 9223372036854775807 ∧ ∀ y ∈ l, y.In := by
  have n37 : Tryz.prog.cellsOf 70 = 34 := by kernel_rfl
  rcases open_slice Tryz.underlying52 h with ⟨hcs, _⟩ | ⟨a, len', cap', m, n, D, Pl, hcs, _, hl, hm, hmm, _, hx⟩
  · simp at hcs
    obtain ⟨rfl, rfl, rfl⟩ := hcs
    exact ⟨[], rfl, fun i y hy => by simp at hy, by omega, by omega, by simp⟩
  · simp at hcs
    obtain ⟨rfl, rfl, rfl⟩ := hcs
    unfold maxLen at hm
    have hlm : len ≤ m := by rw [hmm]; split <;> omega
    rw [n37] at hx
    obtain ⟨V, hV⟩ := choose_lt (α := Hd) (p := fun i y => i < len → y.In ∧ ∀ (j : Nat) (u : Value), y.cells[j]? = some u → W.cell? ((a.add (i * 34)).add j) = some u) (fun i (hi : i < m) => by
      obtain ⟨cs', h1, h2⟩ := hx i hi
      obtain ⟨y, hy, rfl⟩ := open_hd h2
      obtain ⟨_, hlen, hcell⟩ := World.cells?_some h1
      exact ⟨y, fun _ => ⟨hy, fun j u hu => (hcell j (by have := (List.getElem?_eq_some_iff.1 hu).1; rw [hd_len hy] at this; exact this)).trans hu⟩⟩)
    refine ⟨(List.range len).map V, by simp, ?_, by simpa using hl, by omega, fun y hy => ?_⟩
    · intro i y hy
      have hi : i < len := by have := (List.getElem?_eq_some_iff.1 hy).1; simpa using this
      simp [hi] at hy
      subst hy
      obtain ⟨b, off, spot⟩ := a
      have hc0 := (hV 0 (by omega) (by omega)).2 0 _ rfl
      have hspot : spot = none := by simpa [Addr.add] using World.cell?_spot hc0
      subst hspot
      refine ⟨b, off, rfl, fun j u hu => ?_⟩
      have h5 := (hV i (by omega) hi).2 j u hu
      rw [Addr.add_lit, Addr.add_lit] at h5
      exact h5
    · simp only [List.mem_map, List.mem_range] at hy
      obtain ⟨i, hi, rfl⟩ := hy
      exact (hV i (by omega) hi).1
end
theorem trodAll_five {H : Type} {enc : TypeId × Value → H} {P : Program} {w : World} {base : Nat} {spare : Nat → Bool} {held : Bool} {t0 t1 t2 t3 t4 : TypeId} {args : Array Value} {ds : List (DataW H)} {ps : List MemPlace} (h : DataW.TrodAll enc P w base spare held [t0, t1, t2, t3, t4] args.toList ds ps) :
    ∃ v0 v1 v2 v3 v4 d0 d1 d2 d3 d4 p0 p1 p2 p3 p4, args = #[v0, v1, v2, v3, v4] ∧ ds = [d0, d1, d2, d3, d4] ∧ ps = p0 ++ (p1 ++ (p2 ++ (p3 ++ p4))) ∧ DataW.Trod enc P w base spare held t0 v0 d0 p0 ∧ DataW.Trod enc P w base spare held t1 v1 d1 p1 ∧ DataW.Trod enc P w base spare held t2 v2 d2 p2 ∧ DataW.Trod enc P w base spare held t3 v3 d3 p3 ∧ DataW.Trod enc P w base spare held t4 v4 d4 p4 := by
  obtain ⟨v0, vs0, d0, ds0, p0, q0, hargs, rfl, rfl, hd0, h0⟩ := trodAll_cons h
  obtain ⟨v1, vs1, d1, ds1, p1, q1, rfl, rfl, rfl, hd1, h1⟩ := trodAll_cons h0
  obtain ⟨v2, vs2, d2, ds2, p2, q2, rfl, rfl, rfl, hd2, h2⟩ := trodAll_cons h1
  obtain ⟨v3, vs3, d3, ds3, p3, q3, rfl, rfl, rfl, hd3, h3⟩ := trodAll_cons h2
  obtain ⟨v4, vs4, d4, ds4, p4, q4, rfl, rfl, rfl, hd4, h4⟩ := trodAll_cons h3
  obtain ⟨rfl, rfl, rfl⟩ := trodAll_nil h4
  exact ⟨v0, v1, v2, v3, v4, d0, d1, d2, d3, d4, p0, p1, p2, p3, p4, by rw [← Array.toArray_toList (xs := args), hargs], rfl, by simp, hd0, hd1, hd2, hd3, hd4⟩
set_option maxRecDepth 100000 in
theorem resumes_lifted (os : Os) (started : os.Started) (H : Type) (enc : TypeId × Value → H) :
    ReturnsInHanded {} Tryz.checked os 4 .any (fun w args => (Rows.seglogResumesSpec.pre enc Tryz.prog Tryz.f4 [] false w args ∧ laidMetH Tryz.prog laidRow w) ∧ sizedMet enc Tryz.prog Tryz.f4 (OpenSpec.ofChange Rows.seglogResumesSpec) false w args)
      (Rows.seglogResumesSpec.post enc Tryz.prog Tryz.f4 false true false false) := by
  refine returnsInHanded_of_change_and (C := Tryz.checked) (X := fun w _ => laidMetH Tryz.prog laidRow w) (fun _ _ _ hh h => h.of_heap hh) ownGo started (by kernel_rfl) Tryz.func4
    (ChangeSpec.witness_shaped (enc := enc) (C := Tryz.checked) (os := os) (X := fun w _ => laidMetH Tryz.prog laidRow w) false (World.doorLaid Tryz.prog 14 os) #[.int .i64 0, .int .i64 0, .agg #[.int .i64 0, .int .i64 0], .agg zs70.toArray, .slice none 0 0] 8 rfl (World.shaped_of_RefB (by kernel_rfl) (by kernel_rfl)) (by kernel_rfl) (by kernel_rfl) (by kernel_rfl) (door_met os _)) ?_
  intro W base args ds gs before hval0 hW _ _ hL _
  have hval : ∀ (j : Nat) t v, Tryz.f4.params[j]? = some t → args[j]? = some v → Value.okWide Tryz.prog W .any base t v := hval0
  have hW' := hW
  obtain ⟨p, q, hA0, hV, rfl, hfz, hnd⟩ := hW
  have hA : DataW.TrodAll enc Tryz.prog W 0 (fun _ => true) true Tryz.f4.params.toList args.toList ds p := hA0
  rw [Tryz.params4] at hA hval
  obtain ⟨v0, v1, v2, v3, v4, d0, d1, d2, d3, d4, p0, p1, p2, p3, p4, rfl, rfl, rfl, h0, h1, h2, h3, h4⟩ := trodAll_five hA
  obtain ⟨rfl, rfl⟩ := trodVars_none hV
  have hT := tab_of_laid hL
  obtain ⟨many, rfl, rfl, rfl, wn⟩ := open_int Tryz.underlying3 (hval 0 3 v0 rfl rfl) h0
  obtain ⟨size, rfl, rfl, rfl, wz⟩ := open_int Tryz.underlying3 (hval 1 3 v1 rfl rfl) h1
  have k2 := h2
  have lt2 : ∀ x ∈ p2, x.block < W.heap.size := by obtain ⟨m, hm⟩ := k2; exact DataW.trod_lt m _ _ _ hm
  have k3 := h3
  have lt3 : ∀ x ∈ p3, x.block < W.heap.size := by obtain ⟨m, hm⟩ := k3; exact DataW.trod_lt m _ _ _ hm
  have k4 := h4
  have lt4 : ∀ x ∈ p4, x.block < W.heap.size := by obtain ⟨m, hm⟩ := k4; exact DataW.trod_lt m _ _ _ hm
  obtain ⟨c0, c1, y0, y1, n, rfl, _, _, g0, g1⟩ := Go.Joins.open_agg2 Tryz.underlying23 (by kernel_rfl) (by kernel_rfl) (hval 2 23 v2 rfl rfl) h2
  obtain ⟨per, e0, _, wp⟩ := DataW.trod_int Tryz.underlying3 g0
  obtain ⟨segs, e1, _, ws⟩ := DataW.trod_int Tryz.underlying3 g1
  simp only [List.cons.injEq, and_true] at e0 e1
  subst e0 e1
  obtain ⟨cs, rfl, _⟩ := okWide_struct Tryz.underlying42 (hval 3 42 v3 rfl rfl)
  obtain ⟨x, hx, hcs⟩ : ∃ x : Sp, x.In ∧ cs.toList = x.cells := by
    obtain ⟨fuel, hf⟩ := h3
    exact open_sp hf
  obtain rfl : cs = x.cells.toArray := by rw [← hcs]
  obtain ⟨a0, len, cap, rfl⟩ := okWide_slice Tryz.underlying52 (hval 4 52 v4 rfl rfl)
  obtain ⟨l, hl, hR, hlen, hcap, hin⟩ : ∃ l : List Hd, l.length = len ∧ HdS W a0 l ∧ len ≤ cap ∧ cap ≤ 9223372036854775807 ∧ ∀ y ∈ l, y.In := by
    obtain ⟨fuel, hf⟩ := h4
    exact open_heads hf
  subst hl
  clear hA0 hval0
  refine (resumes_any many size per segs x a0 cap l W hT hx hin hlen hcap hR).mono fun e W' ⟨he, bel⟩ => ?_
  subst he
  exact ⟨_, rfl, _, _, _, [], _, [], hW', trodAll_mk1 (shut_bool Tryz.underlying4 _), (trodAll_cons_mk (shut_int Tryz.underlying3 wn) (trodAll_mk4 (shut_int Tryz.underlying3 wz) (Below.trod laidOut (by kernel_rfl) (of_decide_eq_true (by kernel_rfl)) k2 bel lt2) (Below.trod laidOut (by kernel_rfl) (of_decide_eq_true (by kernel_rfl)) k3 bel lt3) (Below.trod laidOut (by kernel_rfl) (of_decide_eq_true (by kernel_rfl)) k4 bel lt4))), rfl, bel.frame _, fun h => by cases h⟩

theorem resumes_said : Rows.SeglogResumesSaid :=
  OpenClaim.holds_of_wide 4 Tryz.f4 rfl rfl rfl rfl rfl rfl rfl ⟨rfl, rfl, rfl, rfl, rfl⟩ rfl rfl rfl rfl rfl (by kernel_rfl) Tryz.func4 (by kernel_rfl)
    (of_decide_eq_true (by kernel_rfl)) (by unfold Func.isWrapper; first | (rw [if_pos (by decide +kernel)]; kernel_rfl) | (rw [if_neg (by decide +kernel)]; exact ⟨rfl, rfl⟩))
    (fun os started H enc _ => resumes_lifted os started H enc)
end Go.Proofs.YtnkebhlkhpgghaaGreatDoor
namespace Go.Proofs.YtnkebhlkhpgghaaGreatDoor
open Go
theorem resumes_card : Rows.SeglogResumesCardSaid :=
  Claim7.holds_tied_plain_at .later [] [.data] true _ false
    resumes_said (fun _ h => by cases h) (by kernel_rfl) (fun _ h => by cases h) seglogResumes_row_tie rfl ⟨rfl, rfl⟩ (by kernel_rfl) rfl
    (fun f fn hf hfn => by
      obtain rfl : f = 4 := Option.some.inj ((show Tryz.prog.funcNamed "blackbox/blackboxlaw12.SeglogResumes" = some 4 by kernel_rfl).symm.trans hf) |>.symm
      obtain rfl : fn = Tryz.f4 := (Option.some.inj (Tryz.func4.symm.trans hfn)).symm
      exact ⟨by kernel_rfl, fun j t ht => by
        rw [Tryz.params4] at ht
        have hm : t ∈ [3, 3, 23, 42, 52] := by simpa using Array.mem_of_getElem? ht
        have hall : ([3, 3, 23, 42, 52].all fun u => !Tryz.prog.wantsStandIn u) = true := by kernel_rfl
        exact (show Tryz.prog.wantsStandIn t = false by simpa using List.all_eq_true.1 hall t hm)⟩)
    (by kernel_rfl)
#print axioms resumes_card
end Go.Proofs.YtnkebhlkhpgghaaGreatDoor
