/- Part of a proof: the walks of the functions, and their plain laws: Steps. -/
import Derived.Test.YtnkebhlkhpgghaaGreatDoorPart10
set_option linter.unusedVariables false
set_option linter.unusedSimpArgs false

/- law 12: SeglogSteps: the walk. -/
namespace Go.Proofs.YtnkebhlkhpgghaaGreatDoor
open Go Go.RowKit Go.Deep Go.Sort

theorem formatMiss_any {F : Nat → Prop} {d : Nat} {k : Dk} (per segs : Int) (w : World) (hD : Disk F w d k) (h : fits k per segs = false) : Calls Tryz.prog 7 #[.pointer (some ⟨d, 0, none⟩), .agg #[.int .i64 per, .int .i64 segs]] w (Ret (.tuple #[.pointer none, .int .i64 1]) w) := by
  refine formatNo_any _ per segs 1 (by decide) w (fun w' e => ?_)
  by_cases hs : k.many < 2 ∨ k.size < 256
  · exact fitSmall_any w' per segs (hD.ext e) hs
  · have h1 := fitShape_any w' per segs (hD.ext e) (by omega) (by omega)
    rw [h] at h1
    exact h1
theorem formatNil_any (per segs : Int) (w : World) : Calls Tryz.prog 7 #[.pointer none, .agg #[.int .i64 per, .int .i64 segs]] w (Ret (.tuple #[.pointer none, .int .i64 5]) w) :=
  formatNo_any _ per segs 5 (by decide) w (fun w' _ => fitNil_any w' per segs)
theorem fits_nat {k : Dk} {per segs : Int} (h : fits k per segs = true) : ∃ p s : Nat, per = p ∧ segs = s ∧ 2 ≤ s ∧ s ≤ 64 ∧ 1 ≤ p ∧ 2 + p * s ≤ k.many ∧ 256 ≤ k.size := by
  simp only [fits, shOk, Bool.and_eq_true, decide_eq_true_eq] at h
  obtain ⟨⟨⟨h1, h2⟩, ⟨⟨h3, h4⟩, h5⟩, h6⟩, h7⟩ := h
  obtain ⟨p, rfl⟩ := Int.eq_ofNat_of_zero_le (show 0 ≤ per by omega)
  obtain ⟨s, rfl⟩ := Int.eq_ofNat_of_zero_le (show 0 ≤ segs by omega)
  refine ⟨p, s, rfl, rfl, by omega, by omega, by omega, ?_, h2⟩
  rw [← Int.natCast_mul] at h7
  omega
def Stp.In (x : Stp) : Prop := (-9223372036854775808 ≤ x.of_ ∧ x.of_ < 9223372036854775808) ∧ (0 ≤ x.off ∧ x.off < 18446744073709551616)

theorem new_inv (k : Dk) (p sg : Nat) (h : 2 ≤ sg) : (Lg.new k p sg).Inv 0 := ⟨by simp [Lg.new, Dk.super, Dk.flush], by simp [Lg.new]; omega, by simp [Lg.new, x0], by simp [Lg.new], by simp [Lg.new, x0]⟩
theorem At.lt {w w' : World} {F : Nat → Prop} {g d : Nat} {m : Lg} (h : At w F w' g d m) : ∀ i, Fg F g i → i < w'.heap.size := by
  obtain ⟨_, _, _, hh⟩ := h.log
  rintro i (hi | rfl)
  · exact hh.disk.sz i hi
  · exact hh.blk.lt
theorem sp_field0 (x : Sp) (w : World) : (Instr.field 42 (.agg x.cells.toArray) 0).run Tryz.prog w = .ok (.int .u64 x.epoch) w := by
  simp [Instr.field, run_underlying Tryz.underlying42, part, isAgg, run_underlying Tryz.underlying34, asAgg, Sp.cells]
theorem sp_field6 (x : Sp) (w : World) (h : x.In) : (Instr.field 42 (.agg x.cells.toArray) 6).run Tryz.prog w = .ok (.int .u64 x.next) w := by
  have h1 : x.cells.toArray[37]? = some (.int .u64 x.next) := Sp.cells_hi h 2
  generalize x.cells.toArray = xs at *
  simp [Instr.field, run_underlying Tryz.underlying42, part, isAgg, run_underlying Tryz.underlying34, asAgg, h1]
theorem sp_same (x : Sp) (w : World) (h : x.In) : (binOp .neq 42 (.agg x.cells.toArray) (.agg x.cells.toArray)).run Tryz.prog w = .ok (.bool false) w := by
  have h1 := sp_neq x x w h h
  rw [decide_eq_true rfl] at h1
  exact h1
theorem newOk_size {n z : Nat} (h : newOk n z = true) : z ≤ 1024 := by
  simp only [newOk, Bool.and_eq_true, decide_eq_true_eq] at h
  omega
theorem steps_cap {n z p sg : Nat} (h : (n : Int) ≤ 40) (hf : 2 + p * sg ≤ (Dk.new n z).many) (h2 : 2 ≤ sg) (hz : z ≤ 1024) : p * (Dk.new n z).size ≤ 90000 := by
  have h1 : 2 + p * sg ≤ n := hf
  have h3 := Nat.mul_le_mul_left p h2
  have h4 : p ≤ 40 := by omega
  exact Nat.le_trans (Nat.mul_le_mul h4 hz) (by decide)
theorem format_at2 {w w1 w3 : World} {F F2 : Nat → Prop} {g d : Nat} {m : Lg} (hF : ∀ i, F i → w.heap.size ≤ i) (hE : Ext w w1) (hL : Log F2 w3 g d m) (hM : Moves F w1 F2 w3) (hg : w1.heap.size ≤ g) : At w F2 w3 g d m := by
  have hle := hE.size
  refine ⟨hL, ?_, hE.keep hM.1 hF⟩
  rintro i (hi | rfl)
  · rcases hM.2 i hi with h | h
    · exact hF i h
    · omega
  · omega

set_option maxRecDepth 8000 in
set_option maxHeartbeats 3200000 in
theorem steps_any (many size per segs : Int) (v : Value) (l : List Stp) (w : World) (hT : Tab w) (hR : Rd w 5 Stp.cells v l) (hl : l.length ≤ 9223372036854775807) (hin : ∀ x ∈ l, x.In) :
    Calls Tryz.prog 3 #[.int .i64 many, .int .i64 size, .agg #[.int .i64 per, .int .i64 segs], v] w (Ret (.bool true) w) := by
  have hpos := hT.pos
  have HT := Lib.hid hT
  have HI := Lib.hid sh_info
  have HR := Lib.hid hR
  have HIN := Lib.hid hin
  have HLL := Lib.hid hl
  obtain ⟨A, c, hv, hcap, _, _⟩ := hR
  subst hv
  clear hT hin hl
  obtain ⟨w1, hw⟩ : ∃ w1, w1 = w.alloc (.cells #[.int .i64 per, .int .i64 segs] 23) := ⟨_, rfl⟩
  have HE1 := Lib.hid (show Ext w w1 from by rw [hw]; exact (Ext.refl w).alloc _)
  have HS1 := Lib.hid (show Blk w1 w.heap.size 23 [.int .i64 per, .int .i64 segs].toArray from by rw [hw]; exact Blk.new _ _ _)
  have HLG := Lib.hid (fun w' (e : Ext w w') => logged_any w' (HT.out.ext e))
  by_cases hnew : newOk many size = true
  · obtain ⟨n, rfl⟩ : ∃ n : Nat, many = n := ⟨many.toNat, by simp only [newOk, Bool.and_eq_true, decide_eq_true_eq] at hnew; omega⟩
    obtain ⟨z, rfl⟩ : ∃ z : Nat, size = z := ⟨size.toNat, by simp only [newOk, Bool.and_eq_true, decide_eq_true_eq] at hnew; omega⟩
    have HNW := Lib.hid hnew
    clear hnew
    rcases hf : fits (Dk.new n z) per segs with _ | _
    · have HFT := Lib.hid hf
      clear hf
      go_enter Tryz.func3, Tryz.ntmps3
      go_wp2_with (first
        | (have hg := HS1; rw [← hw]; clear hw)
        | (go_at_call 5; refine (few_any n z _ l w1 (HR.out.ext HE1.out) HLL.out).mono ?_; rintro e w2 ⟨b, rfl, rfl, hb⟩; clear hb; cases b)
        | (go_at_call 6; refine (newYes_any n z _ HNW.out).mono ?_; rintro e w3 ⟨F, d, rfl, hD3, hE3, hF3⟩; have HD3 := Lib.hid hD3; have HS3 := Lib.hid (HS1.out.ext hE3); have HE3 := Lib.hid (HE1.out.trans hE3); clear hD3 hE3 hF3)
        | (have hg := HS3; refine wpList_load_blk rfl 23 (.tmp 6) rfl w.heap.size 23 [.int .i64 per, .int .i64 segs] rfl HS3.out _ Tryz.underlying23 rfl HI.out ?_)
        | (go_at_call 7; refine (formatMiss_any per segs _ HD3.out HFT.out).mono ?_; rintro e w4 ⟨rfl, hE4⟩; have HE4 := Lib.hid (HE3.out.trans hE4); clear hE4)
        | (go_at_call 8; refine (HLG.out _ HE4.out).mono ?_; rintro e w5 ⟨rfl, hE5⟩; have HE5 := Lib.hid (HE4.out.trans hE5); clear hE5))
      all_goals go_ret
      · exact ⟨rfl, HE1.out⟩
      · exact ⟨rfl, HE5.out⟩
    · obtain ⟨p, sg, rfl, rfl, s1, s2, p1, hfm, hz⟩ := fits_nat hf
      have HFM := Lib.hid (And.intro s1 (And.intro s2 (And.intro p1 (And.intro hfm hz))))
      clear s1 s2 p1 hfm hz hf
      go_enter Tryz.func3, Tryz.ntmps3
      go_wp2_with (first
        | (have hg := HS1; rw [← hw]; clear hw)
        | (go_at_call 5; refine (few_any n z _ l w1 (HR.out.ext HE1.out) HLL.out).mono ?_; rintro e w2 ⟨b, rfl, rfl, hb⟩; have HBB := Lib.hid hb; clear hb; cases b)
        | (go_at_call 6; refine (newYes_any n z _ HNW.out).mono ?_; rintro e w3 ⟨F, d, rfl, hD3, hE3, hF3⟩; have HD3 := Lib.hid (And.intro hD3 (fun i hi => Nat.le_trans HE1.out.size (hF3 i hi))); have HS3 := Lib.hid (HS1.out.ext hE3); have HE3 := Lib.hid (HE1.out.trans hE3); clear hD3 hE3 hF3)
        | (have hg := HS3; refine wpList_load_blk rfl 23 (.tmp 6) rfl w.heap.size 23 [.int .i64 p, .int .i64 sg] rfl HS3.out _ Tryz.underlying23 rfl HI.out ?_)
        | (go_at_call 7; go_loud (refine (formatYes_any p sg _ HD3.out.1 HFM.out.1 HFM.out.2.1 HFM.out.2.2.1 HFM.out.2.2.2.1 HFM.out.2.2.2.2 (steps_cap (HBB.out trivial).2.1 HFM.out.2.2.2.1 HFM.out.1 (newOk_size HNW.out)) (by simp [Dk.new])).mono ?_; rintro e w4 ⟨F4, g, rfl, hL4, hM4, hg4⟩; have HL4 := Lib.hid (format_at2 HD3.out.2 HE3.out hL4 hM4 hg4); clear hL4 hM4 hg4)))
      · go_ret
        exact ⟨rfl, HE1.out⟩
      · have H40 := Lib.hid (HBB.out trivial).1
        have HIV4 := Lib.hid (new_inv (Dk.new n z) p sg HFM.out.1)
        clear HBB HNW
        obtain ⟨w0, rfl⟩ : ∃ w0 : World, w0 = w := ⟨_, rfl⟩
        go_loopw [13] (fun t wr => ∃ (i : Nat) (F : Nat → Prop) (m : Lg), t = .int .i64 i ∧ i ≤ l.length ∧ At w0 F wr g d m ∧ m.Inv i) (fun t _ => l.length - (intOf t).toNat)
        case atStart => exact ⟨0, F4, _, rfl, by omega, HL4.out, HIV4.out⟩
        case round =>
          obtain ⟨i, F, m, rfl, hi, hA, hv⟩ := hrel
          have HA := Lib.hid hA
          have HV := Lib.hid hv
          clear hA hv
          by_cases hlt : i < l.length
          · obtain ⟨x, hx⟩ : ∃ x, l[i]? = some x := ⟨_, List.getElem?_eq_getElem hlt⟩
            have HXI := Lib.hid (HIN.out x (List.mem_of_getElem? hx))
            obtain ⟨b, off, c', hv, _, hcell⟩ := rd_at (HR.out.ext HA.out.ext) hx
            obtain ⟨rfl, rfl⟩ : A = some ⟨b, off, none⟩ ∧ c = c' := by injection hv with h1 h2 h3; exact ⟨h1, h3⟩
            have c0 : wr.cell? ⟨b, off + i * 5, none⟩ = some (.int .i64 x.kind) := hcell 0 _ rfl
            have c1 := hcell 1 _ rfl
            have c2 := hcell 2 _ rfl
            have c3 := hcell 3 _ rfl
            have c4 := hcell 4 _ rfl
            obtain ⟨kd, cn, of_, ofs, kA, kl, kc⟩ := x
            simp only at c0 c1 c2 c3 c4
            have i0 : (0 : Int) ≤ i := by omega
            have i1 : (i : Int) < l.length := by omega
            clear hv hcell hx
            have HML := Lib.hid (Sp.cells_length HA.out.log.ok.x)
            have HMX := Lib.hid HA.out.log.ok.x
            by_cases hk0 : kd = 0
            · subst hk0
              go_wp2_with (first
                | (have hg := HX7; go_at_call 11; refine (image_any w7 HA7.out.disk).mono ?_; rintro e w8 ⟨rfl, hE8⟩; have HX8 := Lib.hid (HX7.out.ext hE8); have HA8 := Lib.hid (HA7.out.ex hE8); have HB8 := Lib.hid (HB7.out.ext hE8); clear hE8)
                | (have hg := HX8; go_at_call 12; refine (pending_any w8 HA8.out.disk).mono ?_; rintro e w9 ⟨rfl, hE9⟩; have HX9 := Lib.hid (HX8.out.ext hE9); have HA9 := Lib.hid (HA8.out.ex hE9); have HB9 := Lib.hid (HB8.out.ext hE9); have k0 : w9.cell? ⟨wr.heap.size, 0, none⟩ = some (.int .i64 0) := HB9.out.cell 0; have k1 : w9.cell? ⟨wr.heap.size, 1, none⟩ = some (.int .i64 cn) := HB9.out.cell 1; have k2 : w9.cell? ⟨wr.heap.size, 2, none⟩ = some (.int .i64 of_) := HB9.out.cell 2; have k3 : w9.cell? ⟨wr.heap.size, 3, none⟩ = some (.int .u64 ofs) := HB9.out.cell 3; clear hE9)
                | (have hg := HA6; refine wpList_store_blk rfl 42 (.tmp 16) (.tmp 62) rfl w6.heap.size 42 zs70 m.x.cells rfl rfl (by rw [← zc_sp]; exact Blk.new _ _ _) (by rw [HML.out]; rfl) (by rw [HML.out]; exact sp_info) (Sp.cells_one _) ?_; intro w7 hB7 hK7; have hE7 := ((Ext.refl w6).alloc _).keep hK7 (fun i hi => by cases hi; exact Nat.le_refl _); have HX7 := Lib.hid hB7; have HA7 := Lib.hid (HA6.out.ex hE7); have HB7 := Lib.hid (HB6.out.ext hE7); clear hB7 hK7 hE7)
                | (have hg := HA5; go_at_call 10; refine (logSuper_any w5 HA5.out.log).mono ?_; rintro e w6 ⟨rfl, hE6⟩; have HA6 := Lib.hid (HA5.out.ex hE6); have HB6 := Lib.hid (HB5.out.ext hE6); clear hE6)
                | (go_at_call 9; refine (logNext_any _ (HA.out.log.ext ((Ext.refl wr).alloc _))).mono ?_; rintro e w5 ⟨rfl, hE5⟩; have HA5 := Lib.hid (HA.out.ex (((Ext.refl wr).alloc (.cells #[.int .i64 0, .int .i64 cn, .int .i64 of_, .int .u64 ofs, .slice kA kl kc] 37)).trans hE5)); have HB5 := Lib.hid ((Blk.new wr 37 #[.int .i64 0, .int .i64 cn, .int .i64 of_, .int .u64 ofs, .slice kA kl kc]).ext hE5); clear hE5))
              generalize hq : min (max cn 0) 260 = q at *
              have hq0 : 0 ≤ q := by omega
              have hq1 : q ≤ 260 := by omega
              generalize IntKind.u64.wrap (m.next + ofs.tmod 3) = S at *
              have hwq : IntKind.u64.wrap q = q := IntWalk.u64_in _ (by omega)
              clear hq k0 k1 k2 k3 c0 c1 c2 c3 c4
              have HEIN := Lib.hid (fromEv_in (seq := S) HXI.out.1.1 HXI.out.1.2 (show q.toNat ≤ 1000 from by omega))
              have hlen : (fromEv S of_ q.toNat).length = q.toNat := fromEv_length _ _ _
              have HC := Lib.hid (fun v' w' (hA' : At w0 F w' g d m) (hR' : Rd w' 6 Ev.cells v' (fromEv S of_ q.toNat)) => logAppend_any v' (fromEv S of_ q.toNat) w' hA'.log hR' (by rw [hlen]; omega) HEIN.out (HT.out.ext hA'.ext) (hA'.pos hpos).1 (hA'.pos hpos).2 HV.out.tight HV.out.seg)
              have HOK := Lib.hid (fun h0 => HV.out.append HA.out.log.ok (by have := H40.out; omega) (fromEv S of_ q.toNat) (by rw [hlen]; omega) h0)
              have HNO := Lib.hid (append_no m (fromEv S of_ q.toNat))
              rw [hlen] at HOK
              have HFR := Lib.hid (fun w' => from_any S q of_ w' (by omega))
              generalize fromEv S of_ q.toNat = evs at *
              generalize m.append evs = r at *
              obtain ⟨cd, m'⟩ := r
              simp only at HC HOK HNO
              have HNX9 := Lib.hid (show ¬ Fg F g w6.heap.size from fun hh => by have := HA6.out.lt _ hh; omega)
              clear hlen
              by_cases hcd : cd = 0
              · subst hcd
                have HOK2 := Lib.hid (HOK.out rfl)
                have hnext : m'.next = m.next + q := by have := HOK2.out.2.2; omega
                have HKE := Lib.hid HOK2.out.2.1
                have hws : IntKind.u64.wrap (m.next + q) = m.next + q := IntWalk.u64_in _ (by have := HA.out.log.ok.n0; have := HV.out.nx; have := H40.out; omega)
                have HNE := Lib.hid hnext
                clear HOK HNO hnext
                go_wp2_with (first
                  | (go_at_call 14; go_loud (refine (HFR.out _).mono ?_; rintro e w10 ⟨ve, rfl, hR10, hE10⟩; have HR10 := Lib.hid hR10; have HX10 := Lib.hid (HX9.out.ext hE10); have HA10 := Lib.hid (HA9.out.ex hE10); clear hR10 hE10))
                  | (go_at_call 13; go_loud (refine (HC.out ve _ HA10.out HR10.out).mono ?_; rintro e w11 ⟨rfl, F', hL11, hM11⟩; have HA11 := Lib.hid (HA10.out.go hL11 hM11); have HX11 := Lib.hid (HX10.out.keep hM11.1 HNX9.out); clear hL11 hM11))
                  | (have hg := HA11; go_at_call 9; go_loud (refine (logNext_any _ HA11.out.log).mono ?_; rw [HNE.out]; rintro e w12 ⟨rfl, hE12⟩; have HA12 := Lib.hid (HA11.out.ex hE12); have HX12 := Lib.hid (HX11.out.ext hE12); clear hE12)))
                go_quiet (fail)
                go_wp2_with fail
                obtain ⟨w13, hw13⟩ : ∃ w13, w13 = w12.drewN nq := ⟨_, rfl⟩
                have HA13 := Lib.hid (show At w0 F' w13 g d m' from by rw [hw13]; exact HA12.out.ex ((Ext.refl _).drewN _))
                have HX13 := Lib.hid (show Blk w13 w6.heap.size 42 m.x.cells.toArray from by rw [hw13]; exact HX12.out)
                have HI13 := Lib.hid HOK2.out.1
                rw [← hw13]
                clear hw13
                have HSU := Lib.hid (fun w' (e : Ext w13 w') => logSuper_any w' (HA13.out.log.ext e))
                have HNX := Lib.hid (fun w' (e : Ext w13 w') => logNext_any w' (HA13.out.log.ext e))
                have HMI := Lib.hid HA13.out.log.ok.x
                have rw0 := cell_regrown (show w13.cell? ⟨w6.heap.size, 0, none⟩ = some (.int .u64 m.x.epoch) from HX13.out.cell 0)
                rcases HKE.out.1 with heq | hlt2
                · rw [heq] at HSU
                  have hnx : decide (m'.next < m.x.next) = false := decide_eq_false (by have := HKE.out.2; rw [heq] at this; omega)
                  clear heq
                  refine wp_region_tail (C := fun w' => ∃ rg : Regrown, w' = grow (redrawn w13 rg.d) rg.os) 27 (by kernel_rfl) (by kernel_rfl) (regrown_start w13) ?_
                  simp only [List.take_succ_cons, List.take_zero, List.drop_succ_cons, List.drop_zero]
                  iterate 1 go_big_quiet_step (fail)
                  go_big_quiet_step ((go_at_call 10; exact Calls.regrown_of (HSU.out _ (below_regrown _ _ _))))
                  go_big_quiet_want
                  refine q_field 42 (.tmp 128) 0 rfl _ (.int .u64 m.x.epoch) rfl (fun w' => sp_field0 m.x w') ?_
                  simp only [Act.put, List.setIfInBounds_toArray, List.set_cons_zero, List.set_cons_succ]
                  go_big_quiet_on
                  iterate 5 go_big_quiet_step (fail)
                  go_big_quiet_step ((go_at_call 10; exact Calls.regrown_of (HSU.out _ (below_regrown _ _ _))))
                  go_big_quiet_want
                  refine q_field 42 (.tmp 135) 0 rfl _ (.int .u64 m.x.epoch) rfl (fun w' => sp_field0 m.x w') ?_
                  simp only [Act.put, List.setIfInBounds_toArray, List.set_cons_zero, List.set_cons_succ]
                  go_big_quiet_on
                  iterate 4 go_big_quiet_step (fail)
                  iterate 1 go_big_quiet_step (fail)
                  go_big_quiet_step ((go_at_call 10; exact Calls.regrown_of (HSU.out _ (below_regrown _ _ _))))
                  go_big_quiet_want
                  refine q_load_blk 42 (.tmp 16) rfl w6.heap.size 42 m.x.cells rfl (fun w' hw' => HX13.out.ext (regrown_ext hw')) _ Tryz.underlying42 rfl (by rw [HML.out]; exact sp_info) ?_
                  simp only [Act.put, List.setIfInBounds_toArray, List.set_cons_zero, List.set_cons_succ]
                  go_big_quiet_on
                  go_big_quiet_want
                  refine q_bin .neq 42 (.tmp 142) (.tmp 143) 42 rfl (.agg m.x.cells.toArray) (.agg m.x.cells.toArray) (.bool false) rfl rfl (fun w' => sp_guard _ _ _ _ _ w') (fun w' => sp_same m.x w' HMX.out) ?_
                  simp only [Act.put, List.setIfInBounds_toArray, List.set_cons_zero, List.set_cons_succ]
                  go_big_quiet_on
                  iterate 4 go_big_quiet_step (fail)
                  go_big_quiet_step ((go_at_call 10; exact Calls.regrown_of (HSU.out _ (below_regrown _ _ _))))
                  go_big_quiet_want
                  refine q_field 42 (.tmp 149) 6 rfl _ (.int .u64 m.x.next) rfl (fun w' => sp_field6 m.x w' HMX.out) ?_
                  simp only [Act.put, List.setIfInBounds_toArray, List.set_cons_zero, List.set_cons_succ]
                  go_big_quiet_on
                  iterate 1 go_big_quiet_step (fail)
                  go_big_quiet_step ((go_at_call 9; exact Calls.regrown_of (HNX.out _ (below_regrown _ _ _))))
                  iterate 1 go_big_quiet_step (fail)
                  refine wpQuiet_nil ?_
                  intro wz hwz
                  have HAz := Lib.hid (HA13.out.ex (regrown_ext hwz))
                  clear hwz rw0
                  go_wp2_with fail
                  go_roundw
                  case rel => exact ⟨i + 1, F', m', by go_num, by omega, HAz.out, HI13.out⟩
                  case measure => simp [intOf]; omega
                · have hl1 : decide (m'.x.epoch < m.x.epoch) = false := decide_eq_false (by omega)
                  have hl2 : (m'.x.epoch == m.x.epoch) = false := by rw [beq_eq_false_iff_ne]; omega
                  have hnx : decide (m'.next < m'.x.next) = false := decide_eq_false (by have := HKE.out.2; omega)
                  clear hlt2
                  refine wp_region_tail (C := fun w' => ∃ rg : Regrown, w' = grow (redrawn w13 rg.d) rg.os) 27 (by kernel_rfl) (by kernel_rfl) (regrown_start w13) ?_
                  simp only [List.take_succ_cons, List.take_zero, List.drop_succ_cons, List.drop_zero]
                  iterate 1 go_big_quiet_step (fail)
                  go_big_quiet_step ((go_at_call 10; exact Calls.regrown_of (HSU.out _ (below_regrown _ _ _))))
                  go_big_quiet_want
                  refine q_field 42 (.tmp 128) 0 rfl _ (.int .u64 m'.x.epoch) rfl (fun w' => sp_field0 m'.x w') ?_
                  simp only [Act.put, List.setIfInBounds_toArray, List.set_cons_zero, List.set_cons_succ]
                  go_big_quiet_on
                  iterate 5 go_big_quiet_step (fail)
                  go_big_quiet_step ((go_at_call 10; exact Calls.regrown_of (HSU.out _ (below_regrown _ _ _))))
                  go_big_quiet_want
                  refine q_field 42 (.tmp 135) 0 rfl _ (.int .u64 m'.x.epoch) rfl (fun w' => sp_field0 m'.x w') ?_
                  simp only [Act.put, List.setIfInBounds_toArray, List.set_cons_zero, List.set_cons_succ]
                  go_big_quiet_on
                  iterate 4 go_big_quiet_step (fail)
                  iterate 4 go_big_quiet_step (fail)
                  iterate 4 go_big_quiet_step (fail)
                  go_big_quiet_step ((go_at_call 10; exact Calls.regrown_of (HSU.out _ (below_regrown _ _ _))))
                  go_big_quiet_want
                  refine q_field 42 (.tmp 149) 6 rfl _ (.int .u64 m'.x.next) rfl (fun w' => sp_field6 m'.x w' HMI.out) ?_
                  simp only [Act.put, List.setIfInBounds_toArray, List.set_cons_zero, List.set_cons_succ]
                  go_big_quiet_on
                  iterate 1 go_big_quiet_step (fail)
                  go_big_quiet_step ((go_at_call 9; exact Calls.regrown_of (HNX.out _ (below_regrown _ _ _))))
                  iterate 1 go_big_quiet_step (fail)
                  refine wpQuiet_nil ?_
                  intro wz hwz
                  have HAz := Lib.hid (HA13.out.ex (regrown_ext hwz))
                  clear hwz rw0
                  go_wp2_with fail
                  go_roundw
                  case rel => exact ⟨i + 1, F', m', by go_num, by omega, HAz.out, HI13.out⟩
                  case measure => simp [intOf]; omega
              · have hcn : (cd != 0) = true := by simpa using hcd
                have hce : (cd == 0) = false := by simpa using hcd
                have hmm := (HNO.out hcd).symm
                subst hmm
                clear HOK HNO hcd
                go_wp2_with (first
                  | (go_at_call 14; go_loud (refine (HFR.out _).mono ?_; rintro e w10 ⟨ve, rfl, hR10, hE10⟩; have HR10 := Lib.hid hR10; have HX10 := Lib.hid (HX9.out.ext hE10); have HA10 := Lib.hid (HA9.out.ex hE10); clear hR10 hE10))
                  | (go_at_call 13; go_loud (refine (HC.out ve _ HA10.out HR10.out).mono ?_; rintro e w11 ⟨rfl, F', hL11, hM11⟩; have HA11 := Lib.hid (HA10.out.go hL11 hM11); have HX11 := Lib.hid (HX10.out.keep hM11.1 HNX9.out); clear hL11 hM11)))
                have HSU20 := Lib.hid (fun w' (e : Ext w11 w') => logSuper_any w' (HA11.out.log.ext e))
                have HNX20 := Lib.hid (fun w' (e : Ext w11 w') => logNext_any w' (HA11.out.log.ext e))
                have HIM20 := Lib.hid (fun w' (e : Ext w11 w') => image_any w' (HA11.out.disk.ext e))
                have HPE20 := Lib.hid (fun w' (e : Ext w11 w') => pending_any w' (HA11.out.disk.ext e))
                refine wp_region_tail (C := fun w' => ∃ rg : Regrown, w' = grow (redrawn w11 rg.d) rg.os) 25 (by kernel_rfl) (by kernel_rfl) (regrown_start w11) ?_
                simp only [List.take_succ_cons, List.take_zero, List.drop_succ_cons, List.drop_zero]
                iterate 10 go_big_quiet_step (first | (go_at_call 9; exact Calls.regrown_of (HNX20.out _ (below_regrown _ _ _))) | (go_at_call 10; exact Calls.regrown_of (HSU20.out _ (below_regrown _ _ _))))
                go_big_quiet_want
                refine q_load_blk 42 (.tmp 16) rfl w6.heap.size 42 m.x.cells rfl (fun w' hw' => HX11.out.ext (regrown_ext hw')) _ Tryz.underlying42 rfl (by rw [HML.out]; exact sp_info) ?_
                simp only [Act.put, List.setIfInBounds_toArray, List.set_cons_zero, List.set_cons_succ]
                go_big_quiet_on
                go_big_quiet_want
                refine q_bin .neq 42 (.tmp 105) (.tmp 106) 42 rfl (.agg m.x.cells.toArray) (.agg m.x.cells.toArray) (.bool false) rfl rfl (fun w' => sp_guard _ _ _ _ _ w') (fun w' => sp_same m.x w' HMX.out) ?_
                simp only [Act.put, List.setIfInBounds_toArray, List.set_cons_zero, List.set_cons_succ]
                go_big_quiet_on
                iterate 13 go_big_quiet_step (first | (go_at_call 11; exact Calls.regrown_of (HIM20.out _ (below_regrown _ _ _))) | (go_at_call 12; exact Calls.regrown_of (HPE20.out _ (below_regrown _ _ _))))
                refine wpQuiet_nil ?_
                intro w12 hw12
                have HA12 := Lib.hid (HA11.out.ex (regrown_ext hw12))
                have HX12 := Lib.hid (HX11.out.ext (regrown_ext hw12))
                clear hw12
                go_wp2_with fail
                have HSU := Lib.hid (fun w' (e : Ext w12 w') => logSuper_any w' (HA12.out.log.ext e))
                have HNX := Lib.hid (fun w' (e : Ext w12 w') => logNext_any w' (HA12.out.log.ext e))
                have HMI := Lib.hid HA12.out.log.ok.x
                have rw0 := cell_regrown (show w12.cell? ⟨w6.heap.size, 0, none⟩ = some (.int .u64 m.x.epoch) from HX12.out.cell 0)
                have hnx : decide (m.next < m.x.next) = false := decide_eq_false (by have := HV.out.xn; omega)
                refine wp_region_tail (C := fun w' => ∃ rg : Regrown, w' = grow (redrawn w12 rg.d) rg.os) 27 (by kernel_rfl) (by kernel_rfl) (regrown_start w12) ?_
                simp only [List.take_succ_cons, List.take_zero, List.drop_succ_cons, List.drop_zero]
                iterate 1 go_big_quiet_step (fail)
                go_big_quiet_step ((go_at_call 10; exact Calls.regrown_of (HSU.out _ (below_regrown _ _ _))))
                go_big_quiet_want
                refine q_field 42 (.tmp 128) 0 rfl _ (.int .u64 m.x.epoch) rfl (fun w' => sp_field0 m.x w') ?_
                simp only [Act.put, List.setIfInBounds_toArray, List.set_cons_zero, List.set_cons_succ]
                go_big_quiet_on
                iterate 5 go_big_quiet_step (fail)
                go_big_quiet_step ((go_at_call 10; exact Calls.regrown_of (HSU.out _ (below_regrown _ _ _))))
                go_big_quiet_want
                refine q_field 42 (.tmp 135) 0 rfl _ (.int .u64 m.x.epoch) rfl (fun w' => sp_field0 m.x w') ?_
                simp only [Act.put, List.setIfInBounds_toArray, List.set_cons_zero, List.set_cons_succ]
                go_big_quiet_on
                iterate 4 go_big_quiet_step (fail)
                iterate 1 go_big_quiet_step (fail)
                go_big_quiet_step ((go_at_call 10; exact Calls.regrown_of (HSU.out _ (below_regrown _ _ _))))
                go_big_quiet_want
                refine q_load_blk 42 (.tmp 16) rfl w6.heap.size 42 m.x.cells rfl (fun w' hw' => HX12.out.ext (regrown_ext hw')) _ Tryz.underlying42 rfl (by rw [HML.out]; exact sp_info) ?_
                simp only [Act.put, List.setIfInBounds_toArray, List.set_cons_zero, List.set_cons_succ]
                go_big_quiet_on
                go_big_quiet_want
                refine q_bin .neq 42 (.tmp 142) (.tmp 143) 42 rfl (.agg m.x.cells.toArray) (.agg m.x.cells.toArray) (.bool false) rfl rfl (fun w' => sp_guard _ _ _ _ _ w') (fun w' => sp_same m.x w' HMX.out) ?_
                simp only [Act.put, List.setIfInBounds_toArray, List.set_cons_zero, List.set_cons_succ]
                go_big_quiet_on
                iterate 4 go_big_quiet_step (fail)
                go_big_quiet_step ((go_at_call 10; exact Calls.regrown_of (HSU.out _ (below_regrown _ _ _))))
                go_big_quiet_want
                refine q_field 42 (.tmp 149) 6 rfl _ (.int .u64 m.x.next) rfl (fun w' => sp_field6 m.x w' HMX.out) ?_
                simp only [Act.put, List.setIfInBounds_toArray, List.set_cons_zero, List.set_cons_succ]
                go_big_quiet_on
                iterate 1 go_big_quiet_step (fail)
                go_big_quiet_step ((go_at_call 9; exact Calls.regrown_of (HNX.out _ (below_regrown _ _ _))))
                iterate 1 go_big_quiet_step (fail)
                refine wpQuiet_nil ?_
                intro wz hwz
                have HAz := Lib.hid (HA12.out.ex (regrown_ext hwz))
                clear hwz rw0
                go_wp2_with fail
                go_roundw
                case rel => exact ⟨i + 1, F', m, by go_num, by omega, HAz.out, HV.out.step⟩
                case measure => simp [intOf]; omega
            · have hkz : (kd == 0) = false := by simpa using hk0
              by_cases hk1 : kd = 1
              · subst hk1
                clear hk0
                go_wp2_with (first
                  | (have hg := HX7; go_at_call 11; refine (image_any w7 HA7.out.disk).mono ?_; rintro e w8 ⟨rfl, hE8⟩; have HX8 := Lib.hid (HX7.out.ext hE8); have HA8 := Lib.hid (HA7.out.ex hE8); have HB8 := Lib.hid (HB7.out.ext hE8); clear hE8)
                  | (have hg := HX8; go_at_call 12; refine (pending_any w8 HA8.out.disk).mono ?_; rintro e w9 ⟨rfl, hE9⟩; have HX9 := Lib.hid (HX8.out.ext hE9); have HA9 := Lib.hid (HA8.out.ex hE9); have HB9 := Lib.hid (HB8.out.ext hE9); have k0 : w9.cell? ⟨wr.heap.size, 0, none⟩ = some (.int .i64 1) := HB9.out.cell 0; have k1 : w9.cell? ⟨wr.heap.size, 1, none⟩ = some (.int .i64 cn) := HB9.out.cell 1; have k2 : w9.cell? ⟨wr.heap.size, 2, none⟩ = some (.int .i64 of_) := HB9.out.cell 2; have k3 : w9.cell? ⟨wr.heap.size, 3, none⟩ = some (.int .u64 ofs) := HB9.out.cell 3; clear hE9)
                  | (have hg := HA6; refine wpList_store_blk rfl 42 (.tmp 16) (.tmp 62) rfl w6.heap.size 42 zs70 m.x.cells rfl rfl (by rw [← zc_sp]; exact Blk.new _ _ _) (by rw [HML.out]; rfl) (by rw [HML.out]; exact sp_info) (Sp.cells_one _) ?_; intro w7 hB7 hK7; have hE7 := ((Ext.refl w6).alloc _).keep hK7 (fun i hi => by cases hi; exact Nat.le_refl _); have HX7 := Lib.hid hB7; have HA7 := Lib.hid (HA6.out.ex hE7); have HB7 := Lib.hid (HB6.out.ext hE7); clear hB7 hK7 hE7)
                  | (have hg := HA5; go_at_call 10; refine (logSuper_any w5 HA5.out.log).mono ?_; rintro e w6 ⟨rfl, hE6⟩; have HA6 := Lib.hid (HA5.out.ex hE6); have HB6 := Lib.hid (HB5.out.ext hE6); clear hE6)
                  | (go_at_call 9; refine (logNext_any _ (HA.out.log.ext ((Ext.refl wr).alloc _))).mono ?_; rintro e w5 ⟨rfl, hE5⟩; have HA5 := Lib.hid (HA.out.ex (((Ext.refl wr).alloc (.cells #[.int .i64 1, .int .i64 cn, .int .i64 of_, .int .u64 ofs, .slice kA kl kc] 37)).trans hE5)); have HB5 := Lib.hid ((Blk.new wr 37 #[.int .i64 1, .int .i64 cn, .int .i64 of_, .int .u64 ofs, .slice kA kl kc]).ext hE5); clear hE5)
                  | (have hg := HX9; go_at_call 15; refine (logCommit_any w9 HA9.out.log).mono ?_; rintro e w10 ⟨rfl, F', hL10, hM10⟩; have HA10 := Lib.hid (HA9.out.go hL10 hM10); have HX10 := Lib.hid (HX9.out.keep hM10.1 (fun hh => by have := HA6.out.lt _ hh; omega)); clear hL10 hM10))
                have HKV := HV.out.keep HA.out.log.ok (by have := H40.out; omega)
                have HKE := Lib.hid HKV.2
                have HI10 := Lib.hid HKV.1
                clear HKV k0 k1 k2 k3 c0 c1 c2 c3 c4
                obtain ⟨m', hm'⟩ : ∃ m', m' = m.keep := ⟨_, rfl⟩
                rw [← hm'] at HA10 HKE HI10
                clear hm'
                have HSU := Lib.hid (fun w' (e : Ext w10 w') => logSuper_any w' (HA10.out.log.ext e))
                have HNX := Lib.hid (fun w' (e : Ext w10 w') => logNext_any w' (HA10.out.log.ext e))
                have HMI := Lib.hid HA10.out.log.ok.x
                have rw0 := cell_regrown (show w10.cell? ⟨w6.heap.size, 0, none⟩ = some (.int .u64 m.x.epoch) from HX10.out.cell 0)
                rcases HKE.out.1 with heq | hlt2
                · rw [heq] at HSU
                  have hnx : decide (m'.next < m.x.next) = false := decide_eq_false (by have := HKE.out.2; rw [heq] at this; omega)
                  clear heq
                  refine wp_region_tail (C := fun w' => ∃ rg : Regrown, w' = grow (redrawn w10 rg.d) rg.os) 27 (by kernel_rfl) (by kernel_rfl) (regrown_start w10) ?_
                  simp only [List.take_succ_cons, List.take_zero, List.drop_succ_cons, List.drop_zero]
                  iterate 1 go_big_quiet_step (fail)
                  go_big_quiet_step ((go_at_call 10; exact Calls.regrown_of (HSU.out _ (below_regrown _ _ _))))
                  go_big_quiet_want
                  refine q_field 42 (.tmp 128) 0 rfl _ (.int .u64 m.x.epoch) rfl (fun w' => sp_field0 m.x w') ?_
                  simp only [Act.put, List.setIfInBounds_toArray, List.set_cons_zero, List.set_cons_succ]
                  go_big_quiet_on
                  iterate 5 go_big_quiet_step (fail)
                  go_big_quiet_step ((go_at_call 10; exact Calls.regrown_of (HSU.out _ (below_regrown _ _ _))))
                  go_big_quiet_want
                  refine q_field 42 (.tmp 135) 0 rfl _ (.int .u64 m.x.epoch) rfl (fun w' => sp_field0 m.x w') ?_
                  simp only [Act.put, List.setIfInBounds_toArray, List.set_cons_zero, List.set_cons_succ]
                  go_big_quiet_on
                  iterate 4 go_big_quiet_step (fail)
                  iterate 1 go_big_quiet_step (fail)
                  go_big_quiet_step ((go_at_call 10; exact Calls.regrown_of (HSU.out _ (below_regrown _ _ _))))
                  go_big_quiet_want
                  refine q_load_blk 42 (.tmp 16) rfl w6.heap.size 42 m.x.cells rfl (fun w' hw' => HX10.out.ext (regrown_ext hw')) _ Tryz.underlying42 rfl (by rw [HML.out]; exact sp_info) ?_
                  simp only [Act.put, List.setIfInBounds_toArray, List.set_cons_zero, List.set_cons_succ]
                  go_big_quiet_on
                  go_big_quiet_want
                  refine q_bin .neq 42 (.tmp 142) (.tmp 143) 42 rfl (.agg m.x.cells.toArray) (.agg m.x.cells.toArray) (.bool false) rfl rfl (fun w' => sp_guard _ _ _ _ _ w') (fun w' => sp_same m.x w' HMX.out) ?_
                  simp only [Act.put, List.setIfInBounds_toArray, List.set_cons_zero, List.set_cons_succ]
                  go_big_quiet_on
                  iterate 4 go_big_quiet_step (fail)
                  go_big_quiet_step ((go_at_call 10; exact Calls.regrown_of (HSU.out _ (below_regrown _ _ _))))
                  go_big_quiet_want
                  refine q_field 42 (.tmp 149) 6 rfl _ (.int .u64 m.x.next) rfl (fun w' => sp_field6 m.x w' HMX.out) ?_
                  simp only [Act.put, List.setIfInBounds_toArray, List.set_cons_zero, List.set_cons_succ]
                  go_big_quiet_on
                  iterate 1 go_big_quiet_step (fail)
                  go_big_quiet_step ((go_at_call 9; exact Calls.regrown_of (HNX.out _ (below_regrown _ _ _))))
                  iterate 1 go_big_quiet_step (fail)
                  refine wpQuiet_nil ?_
                  intro wz hwz
                  have HAz := Lib.hid (HA10.out.ex (regrown_ext hwz))
                  clear hwz rw0
                  go_wp2_with fail
                  go_roundw
                  case rel => exact ⟨i + 1, F', m', by go_num, by omega, HAz.out, HI10.out⟩
                  case measure => simp [intOf]; omega
                · have hl1 : decide (m'.x.epoch < m.x.epoch) = false := decide_eq_false (by omega)
                  have hl2 : (m'.x.epoch == m.x.epoch) = false := by rw [beq_eq_false_iff_ne]; omega
                  have hnx : decide (m'.next < m'.x.next) = false := decide_eq_false (by have := HKE.out.2; omega)
                  clear hlt2
                  refine wp_region_tail (C := fun w' => ∃ rg : Regrown, w' = grow (redrawn w10 rg.d) rg.os) 27 (by kernel_rfl) (by kernel_rfl) (regrown_start w10) ?_
                  simp only [List.take_succ_cons, List.take_zero, List.drop_succ_cons, List.drop_zero]
                  iterate 1 go_big_quiet_step (fail)
                  go_big_quiet_step ((go_at_call 10; exact Calls.regrown_of (HSU.out _ (below_regrown _ _ _))))
                  go_big_quiet_want
                  refine q_field 42 (.tmp 128) 0 rfl _ (.int .u64 m'.x.epoch) rfl (fun w' => sp_field0 m'.x w') ?_
                  simp only [Act.put, List.setIfInBounds_toArray, List.set_cons_zero, List.set_cons_succ]
                  go_big_quiet_on
                  iterate 5 go_big_quiet_step (fail)
                  go_big_quiet_step ((go_at_call 10; exact Calls.regrown_of (HSU.out _ (below_regrown _ _ _))))
                  go_big_quiet_want
                  refine q_field 42 (.tmp 135) 0 rfl _ (.int .u64 m'.x.epoch) rfl (fun w' => sp_field0 m'.x w') ?_
                  simp only [Act.put, List.setIfInBounds_toArray, List.set_cons_zero, List.set_cons_succ]
                  go_big_quiet_on
                  iterate 4 go_big_quiet_step (fail)
                  iterate 4 go_big_quiet_step (fail)
                  iterate 4 go_big_quiet_step (fail)
                  go_big_quiet_step ((go_at_call 10; exact Calls.regrown_of (HSU.out _ (below_regrown _ _ _))))
                  go_big_quiet_want
                  refine q_field 42 (.tmp 149) 6 rfl _ (.int .u64 m'.x.next) rfl (fun w' => sp_field6 m'.x w' HMI.out) ?_
                  simp only [Act.put, List.setIfInBounds_toArray, List.set_cons_zero, List.set_cons_succ]
                  go_big_quiet_on
                  iterate 1 go_big_quiet_step (fail)
                  go_big_quiet_step ((go_at_call 9; exact Calls.regrown_of (HNX.out _ (below_regrown _ _ _))))
                  iterate 1 go_big_quiet_step (fail)
                  refine wpQuiet_nil ?_
                  intro wz hwz
                  have HAz := Lib.hid (HA10.out.ex (regrown_ext hwz))
                  clear hwz rw0
                  go_wp2_with fail
                  go_roundw
                  case rel => exact ⟨i + 1, F', m', by go_num, by omega, HAz.out, HI10.out⟩
                  case measure => simp [intOf]; omega
              · have hkn : (kd == 1) = false := by simpa using hk1
                clear hk0 hk1
                go_wp2_with (first
                  | (have hg := HX7; go_at_call 11; refine (image_any w7 HA7.out.disk).mono ?_; rintro e w8 ⟨rfl, hE8⟩; have HX8 := Lib.hid (HX7.out.ext hE8); have HA8 := Lib.hid (HA7.out.ex hE8); have HB8 := Lib.hid (HB7.out.ext hE8); clear hE8)
                  | (have hg := HX8; go_at_call 12; refine (pending_any w8 HA8.out.disk).mono ?_; rintro e w9 ⟨rfl, hE9⟩; have HX9 := Lib.hid (HX8.out.ext hE9); have HA9 := Lib.hid (HA8.out.ex hE9); have HB9 := Lib.hid (HB8.out.ext hE9); have k0 : w9.cell? ⟨wr.heap.size, 0, none⟩ = some (.int .i64 kd) := HB9.out.cell 0; have k1 : w9.cell? ⟨wr.heap.size, 1, none⟩ = some (.int .i64 cn) := HB9.out.cell 1; have k2 : w9.cell? ⟨wr.heap.size, 2, none⟩ = some (.int .i64 of_) := HB9.out.cell 2; have k3 : w9.cell? ⟨wr.heap.size, 3, none⟩ = some (.int .u64 ofs) := HB9.out.cell 3; clear hE9)
                  | (have hg := HA6; refine wpList_store_blk rfl 42 (.tmp 16) (.tmp 62) rfl w6.heap.size 42 zs70 m.x.cells rfl rfl (by rw [← zc_sp]; exact Blk.new _ _ _) (by rw [HML.out]; rfl) (by rw [HML.out]; exact sp_info) (Sp.cells_one _) ?_; intro w7 hB7 hK7; have hE7 := ((Ext.refl w6).alloc _).keep hK7 (fun i hi => by cases hi; exact Nat.le_refl _); have HX7 := Lib.hid hB7; have HA7 := Lib.hid (HA6.out.ex hE7); have HB7 := Lib.hid (HB6.out.ext hE7); clear hB7 hK7 hE7)
                  | (have hg := HA5; go_at_call 10; refine (logSuper_any w5 HA5.out.log).mono ?_; rintro e w6 ⟨rfl, hE6⟩; have HA6 := Lib.hid (HA5.out.ex hE6); have HB6 := Lib.hid (HB5.out.ext hE6); clear hE6)
                  | (go_at_call 9; refine (logNext_any _ (HA.out.log.ext ((Ext.refl wr).alloc _))).mono ?_; rintro e w5 ⟨rfl, hE5⟩; have HA5 := Lib.hid (HA.out.ex (((Ext.refl wr).alloc (.cells #[.int .i64 kd, .int .i64 cn, .int .i64 of_, .int .u64 ofs, .slice kA kl kc] 37)).trans hE5)); have HB5 := Lib.hid ((Blk.new wr 37 #[.int .i64 kd, .int .i64 cn, .int .i64 of_, .int .u64 ofs, .slice kA kl kc]).ext hE5); clear hE5))
                clear k0 k1 k2 k3 c0 c1 c2 c3 c4
                have HSU := Lib.hid (fun w' (e : Ext w9 w') => logSuper_any w' (HA9.out.log.ext e))
                have HNX := Lib.hid (fun w' (e : Ext w9 w') => logNext_any w' (HA9.out.log.ext e))
                have HMI := Lib.hid HA9.out.log.ok.x
                have rw0 := cell_regrown (show w9.cell? ⟨w6.heap.size, 0, none⟩ = some (.int .u64 m.x.epoch) from HX9.out.cell 0)
                have hnx : decide (m.next < m.x.next) = false := decide_eq_false (by have := HV.out.xn; omega)
                refine wp_region_tail (C := fun w' => ∃ rg : Regrown, w' = grow (redrawn w9 rg.d) rg.os) 27 (by kernel_rfl) (by kernel_rfl) (regrown_start w9) ?_
                simp only [List.take_succ_cons, List.take_zero, List.drop_succ_cons, List.drop_zero]
                iterate 1 go_big_quiet_step (fail)
                go_big_quiet_step ((go_at_call 10; exact Calls.regrown_of (HSU.out _ (below_regrown _ _ _))))
                go_big_quiet_want
                refine q_field 42 (.tmp 128) 0 rfl _ (.int .u64 m.x.epoch) rfl (fun w' => sp_field0 m.x w') ?_
                simp only [Act.put, List.setIfInBounds_toArray, List.set_cons_zero, List.set_cons_succ]
                go_big_quiet_on
                iterate 5 go_big_quiet_step (fail)
                go_big_quiet_step ((go_at_call 10; exact Calls.regrown_of (HSU.out _ (below_regrown _ _ _))))
                go_big_quiet_want
                refine q_field 42 (.tmp 135) 0 rfl _ (.int .u64 m.x.epoch) rfl (fun w' => sp_field0 m.x w') ?_
                simp only [Act.put, List.setIfInBounds_toArray, List.set_cons_zero, List.set_cons_succ]
                go_big_quiet_on
                iterate 4 go_big_quiet_step (fail)
                iterate 1 go_big_quiet_step (fail)
                go_big_quiet_step ((go_at_call 10; exact Calls.regrown_of (HSU.out _ (below_regrown _ _ _))))
                go_big_quiet_want
                refine q_load_blk 42 (.tmp 16) rfl w6.heap.size 42 m.x.cells rfl (fun w' hw' => HX9.out.ext (regrown_ext hw')) _ Tryz.underlying42 rfl (by rw [HML.out]; exact sp_info) ?_
                simp only [Act.put, List.setIfInBounds_toArray, List.set_cons_zero, List.set_cons_succ]
                go_big_quiet_on
                go_big_quiet_want
                refine q_bin .neq 42 (.tmp 142) (.tmp 143) 42 rfl (.agg m.x.cells.toArray) (.agg m.x.cells.toArray) (.bool false) rfl rfl (fun w' => sp_guard _ _ _ _ _ w') (fun w' => sp_same m.x w' HMX.out) ?_
                simp only [Act.put, List.setIfInBounds_toArray, List.set_cons_zero, List.set_cons_succ]
                go_big_quiet_on
                iterate 4 go_big_quiet_step (fail)
                go_big_quiet_step ((go_at_call 10; exact Calls.regrown_of (HSU.out _ (below_regrown _ _ _))))
                go_big_quiet_want
                refine q_field 42 (.tmp 149) 6 rfl _ (.int .u64 m.x.next) rfl (fun w' => sp_field6 m.x w' HMX.out) ?_
                simp only [Act.put, List.setIfInBounds_toArray, List.set_cons_zero, List.set_cons_succ]
                go_big_quiet_on
                iterate 1 go_big_quiet_step (fail)
                go_big_quiet_step ((go_at_call 9; exact Calls.regrown_of (HNX.out _ (below_regrown _ _ _))))
                iterate 1 go_big_quiet_step (fail)
                refine wpQuiet_nil ?_
                intro wz hwz
                have HAz := Lib.hid (HA9.out.ex (regrown_ext hwz))
                clear hwz rw0
                go_wp2_with fail
                go_roundw
                case rel => exact ⟨i + 1, F, m, by go_num, by omega, HAz.out, HV.out.step⟩
                case measure => simp [intOf]; omega
          · go_wp2_with (go_at_call 8; refine (HLG.out _ HA.out.ext).mono ?_; rintro e w5 ⟨rfl, hE5⟩; have HE5 := Lib.hid (HA.out.ext.trans hE5); clear hE5)
            go_ret
            exact ⟨rfl, HE5.out⟩
  · have hn2 : newOk many size = false := by simpa using hnew
    have HNW := Lib.hid hn2
    clear hn2 hnew
    go_enter Tryz.func3, Tryz.ntmps3
    go_wp2_with (first
      | (have hg := HS1; rw [← hw]; clear hw)
      | (go_at_call 5; refine (few_any many size _ l w1 (HR.out.ext HE1.out) HLL.out).mono ?_; rintro e w2 ⟨b, rfl, rfl, hb⟩; clear hb; cases b)
      | (go_at_call 6; refine (newNo_any many size _ HNW.out).mono ?_; rintro e w3 ⟨rfl, hE3⟩; have HS3 := Lib.hid (HS1.out.ext hE3); have HE3 := Lib.hid (HE1.out.trans hE3); clear hE3)
      | (have hg := HS3; refine wpList_load_blk rfl 23 (.tmp 6) rfl w.heap.size 23 [.int .i64 per, .int .i64 segs] rfl HS3.out _ Tryz.underlying23 rfl HI.out ?_)
      | (go_at_call 7; refine (formatNil_any per segs _).mono ?_; rintro e w4 ⟨rfl, hE4⟩; have HE4 := Lib.hid (HE3.out.trans hE4); clear hE4)
      | (go_at_call 8; refine (HLG.out _ HE4.out).mono ?_; rintro e w5 ⟨rfl, hE5⟩; have HE5 := Lib.hid (HE4.out.trans hE5); clear hE5))
    all_goals go_ret
    · exact ⟨rfl, HE1.out⟩
    · exact ⟨rfl, HE5.out⟩
end Go.Proofs.YtnkebhlkhpgghaaGreatDoor
