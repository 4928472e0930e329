/- Part of a proof: the walks of the functions, and their plain laws: Disk3, Disk4, Disk5, Area, Aput, Athr, Build. -/
import Derived.Test.YtnkebhlkhpgghaaGreatDoorPart3
import Derived.Lib.QuietBelow
import Derived.Lib.Builder
import Derived.Test.YtnkebhlkhpgghaaGreatDoorShelf
set_option linter.unusedVariables false
set_option linter.unusedSimpArgs false

/- sector.Write, settle, Flush, New: the walks. -/
namespace Go.Proofs.YtnkebhlkhpgghaaGreatDoor
open Go Go.RowKit Go.Deep

theorem wpList_mapUpd {P : Program} {ops : Array Oper} {rest : List Oper} {o : Oper} {a : Act} {Q : Exit → Act → World → Prop} {w : World} (hgd : o.guard = none) (t kt et : TypeId) (x y z : Operand)
    (ho : o.op = .mapUpdate t x y z) (ht : P.underlying t = some (.map kt et)) (hk : P.underlying kt = some (.int .i64)) (r : Nat) (f : Int → Option Int) (hM : Mp w r f) (k v : Int) (hx : a.eval x = .map (some r)) (hy : a.eval y = .int .i64 k) (hz : a.eval z = .int .i64 v)
    (h : ∀ w1, Mp w1 r (updF f k v) → Keep (One r) w w1 → wpList P ops Q rest (a.put o.dst undef) w1) : wpList P ops Q (o :: rest) a w := by
  refine wpList_plain hgd fun K hK => ?_
  obtain ⟨w1, hrun, hm, hk1⟩ := hM.upd (P := P) ht hk k v
  unfold Oper.wp
  simp only [execOp, ho, hx, hy, hz, Sem.run_bind, hrun, Result.andThen_ok, Sem.run_pure]
  exact hK _ _ (h _ hm hk1)
theorem wpList_clearM {P : Program} {ops : Array Oper} {rest : List Oper} {o : Oper} {a : Act} {Q : Exit → Act → World → Prop} {w : World} (hgd : o.guard = none) (t kt et : TypeId) (x : Operand)
    (ho : o.op = .call { callee := .builtin .clear, args := #[x], argTypes := #[t] }) (ht : P.underlying t = some (.map kt et)) (r : Nat) (f : Int → Option Int) (hM : Mp w r f) (hx : a.eval x = .map (some r))
    (h : ∀ w1, Mp w1 r (fun _ => none) → Keep (One r) w w1 → wpList P ops Q rest (a.put o.dst (.tuple #[])) w1) : wpList P ops Q (o :: rest) a w := by
  refine wpList_plain hgd fun K hK => ?_
  obtain ⟨w1, hrun, hm, hk1⟩ := hM.clear (P := P) (ty := o.type) ht
  unfold Oper.wp
  simp only [execOp, ho, resolve, invoke, builtin, hx, Sem.run_bind, Sem.run_pure, Result.andThen_ok, List.map_toArray, List.map_cons, List.map_nil, hrun]
  exact hK _ _ (h _ hm hk1)


/-- The same, the new element's block told by a number. -/
theorem wpList_append1g {P : Program} {ops : Array Oper} {rest : List Oper} {o : Oper} {a : Act} {Q : Exit → Act → World → Prop} {W : World} (base g : Nat) (hgg : W.heap.size = g) (hgd : o.guard = none) (s x : Operand) (t e : TypeId) (z : Value) (size bytes : Nat)
    (ho : o.op = .call { callee := .builtin .append, args := #[s, x], argTypes := #[t, t] })
    (ht : P.underlying t = some (.slice e)) (hinfo : (P.info? e).map (fun i => (i.zero, i.size, i.bytes)) = some (some z, size, bytes)) (hz : z.cells.size = size) (hb0 : 0 < bytes) (hs0 : 0 < size)
    (v : Value) (n : Nat) (xs news : List Value) (hs : a.eval s = v) (hx : a.eval x = .slice (some ⟨g, 0, none⟩) 1 1) (hn : news.length = size) (h1 : ∀ u ∈ news, u.oneCell' = true)
    (HO : W.ownsRow base e size v n xs) (hbase : base ≤ W.heap.size) (hl : (n + 1) * bytes ≤ 140737488355328)
    (h : ∀ A c w1, w1.ownsRow base e size (.slice A (n + 1) c) (n + 1) (xs ++ news) → Keep (Of v) W w1 → ((Value.slice A (n + 1) c).ownBlock = v.ownBlock ∨ ∃ b, (Value.slice A (n + 1) c).ownBlock = some b ∧ W.heap.size ≤ b) → wpList P ops Q rest (a.put o.dst (.slice A (n + 1) c)) w1) :
    wpList P ops Q (o :: rest) a (W.alloc (.cells news.toArray e)) := by
  subst hgg
  exact wpList_append1 base hgd s x t e z size bytes ho ht hinfo hz hb0 hs0 v n xs news hs hx hn h1 HO hbase hl h

theorem own_own {w : World} {base n base' n' : Nat} {e e' : TypeId} {z z' : Nat} {v v' : Value} {xs xs' : List Value} (h : w.ownsRow base e z v n xs) (h' : w.ownsRow base' e' z' v' n' xs') (hne : e ≠ e') : ∀ k, v.ownBlock = some k → v'.ownBlock ≠ some k := by
  intro k hk hk'
  rcases h'.2 with ⟨rfl, _⟩ | ⟨g, cap, cur, rfl, _, hg, _⟩
  · simp [Value.ownBlock] at hk'
  · simp [Value.ownBlock] at hk'
    subst hk'
    exact own_other h (B := g) (t := e') (cs := cur) hg (fun h => hne h.symm) g hk rfl
theorem own_mp {w : World} {base n : Nat} {e : TypeId} {z r : Nat} {v : Value} {xs : List Value} {f : Int → Option Int} (h : w.ownsRow base e z v n xs) (hM : Mp w r f) : ∀ k, v.ownBlock = some k → k ≠ r := by
  rintro k hk rfl
  rcases h.2 with ⟨rfl, _⟩ | ⟨g, cap, cur, rfl, _, hg, _⟩
  · simp [Value.ownBlock] at hk
  · simp [Value.ownBlock] at hk
    subst hk
    exact hM.ne (g := g) (t := e) (cs := cur) hg rfl
theorem write_asm {F : Nat → Prop} {w Wa Wb Wc We : World} {d : Nat} {k : Dk} {bl m : Nat} {vp vw vp' vw' : Value} {cbs : List Nat} {f : Int → Option Int} {s : Nat} {b : Bytes} {cb : Nat} (h : DiskC F w d k bl m vp vw cbs f)
    (hs : s < k.many) (hb : b.length = k.size) (e1 : Ext w Wa) (hcb : Blk Wa cb 9 #[.string (bs b)]) (hcb2 : w.heap.size ≤ cb) (M : Mp Wb m (updF f s k.pend.length)) (k1 : Keep (One m) Wa Wb)
    (O1 : Wc.ownsRow 0 137 1 vp' (k.pend.length + 1) (cbs.map fnv ++ [fnv cb])) (K1 : Keep (Of vp) Wb Wc) (B1 : vp'.ownBlock = vp.ownBlock ∨ ∃ g, vp'.ownBlock = some g ∧ Wb.heap.size ≤ g)
    (O2 : We.ownsRow 0 3 1 vw' (k.pend.length + 1) (k.pend.map (fun p => Value.int .i64 p.1) ++ [.int .i64 s])) (K2 : Keep (Of vw) (Wc.setCell ⟨d, 3, none⟩ vp') We) (B2 : vw'.ownBlock = vw.ownBlock ∨ ∃ g, vw'.ownBlock = some g ∧ Wc.heap.size ≤ g) :
    ∃ F', Disk F' (We.setCell ⟨d, 4, none⟩ vw') d (k.write s b) ∧ Moves F w F' (We.setCell ⟨d, 4, none⟩ vw') := by
  have ha := h.ext e1
  -- what is unlike the map
  have hdm : d ≠ m := fun e => ha.mp.ne ha.head e.symm
  have hlm : bl ≠ m := fun e => ha.mp.ne ha.last e.symm
  have hcm : ∀ g (v : Value), Blk Wa g 9 #[v] → g ≠ m := fun g v hB e => ha.mp.ne hB e.symm
  -- Wb
  have head_b := ha.head.keep k1 (fun h => hdm h)
  have last_b := ha.last.keep k1 (fun h => hlm h)
  have pend_b := own_keep ha.pend k1 (fun g hg hh => own_mp ha.pend ha.mp g hg hh)
  have wher_b := own_keep ha.wher k1 (fun g hg hh => own_mp ha.wher ha.mp g hg hh)
  have cbs_b : ∀ (i g : Nat) (p : Nat × Bytes), cbs[i]? = some g → k.pend[i]? = some p → Blk Wb g 9 #[.string (bs p.2)] := fun i g p hi hp => (ha.cb i g p hi hp).keep k1 (fun hh => hcm _ _ (ha.cb i g p hi hp) hh)
  have cb_b := hcb.keep k1 (fun hh => hcm _ _ hcb hh)
  -- Wc
  have head_c := head_b.keep K1 (fun hh => own_other pend_b head_b (by decide) d hh rfl)
  have last_c := last_b.keep K1 (fun hh => own_other pend_b last_b (by decide) bl hh rfl)
  have wher_c := own_keep wher_b K1 (fun g hg hh => own_own wher_b pend_b (by decide) g hg hh)
  have M_c := M.keep K1 (fun hh => own_mp pend_b M m hh rfl)
  have cbs_c : ∀ (i g : Nat) (p : Nat × Bytes), cbs[i]? = some g → k.pend[i]? = some p → Blk Wc g 9 #[.string (bs p.2)] := fun i g p hi hp => (cbs_b i g p hi hp).keep K1 (fun hh => own_other pend_b (cbs_b i g p hi hp) (by decide) g hh rfl)
  have cb_c := cb_b.keep K1 (fun hh => own_other pend_b cb_b (by decide) cb hh rfl)
  -- Wd
  have kd : Keep (One d) Wc (Wc.setCell ⟨d, 3, none⟩ vp') := (Keep.refl (One d) _).setIn rfl _ _
  have head_d := head_c.set 3 vp'
  have last_d := last_c.keep kd (fun hh => (last_c.ne head_c (by decide)) hh)
  have pend_d := own_keep O1 kd (fun g hg hh => own_other O1 head_c (by decide) g hg hh)
  have wher_d := own_keep wher_c kd (fun g hg hh => own_other wher_c head_c (by decide) g hg hh)
  have M_d := M_c.keep kd (fun hh => M_c.ne head_c hh)
  have cbs_d : ∀ (i g : Nat) (p : Nat × Bytes), cbs[i]? = some g → k.pend[i]? = some p → Blk (Wc.setCell ⟨d, 3, none⟩ vp') g 9 #[.string (bs p.2)] := fun i g p hi hp => (cbs_c i g p hi hp).keep kd (fun hh => ((cbs_c i g p hi hp).ne head_c (by decide)) hh)
  have cb_d := cb_c.keep kd (fun hh => (cb_c.ne head_c (by decide)) hh)
  -- We
  have head_e := head_d.keep K2 (fun hh => own_other wher_d head_d (by decide) d hh rfl)
  have last_e := last_d.keep K2 (fun hh => own_other wher_d last_d (by decide) bl hh rfl)
  have pend_e := own_keep pend_d K2 (fun g hg hh => own_own pend_d wher_d (by decide) g hg hh)
  have M_e := M_d.keep K2 (fun hh => own_mp wher_d M_d m hh rfl)
  have cbs_e : ∀ (i g : Nat) (p : Nat × Bytes), cbs[i]? = some g → k.pend[i]? = some p → Blk We g 9 #[.string (bs p.2)] := fun i g p hi hp => (cbs_d i g p hi hp).keep K2 (fun hh => own_other wher_d (cbs_d i g p hi hp) (by decide) g hh rfl)
  have cb_e := cb_d.keep K2 (fun hh => own_other wher_d cb_d (by decide) cb hh rfl)
  -- Wf
  have kf : Keep (One d) We (We.setCell ⟨d, 4, none⟩ vw') := (Keep.refl (One d) _).setIn rfl _ _
  have head_f := head_e.set 4 vw'
  have last_f := last_e.keep kf (fun hh => (last_e.ne head_e (by decide)) hh)
  have pend_f := own_keep pend_e kf (fun g hg hh => own_other pend_e head_e (by decide) g hg hh)
  have wher_f := own_keep O2 kf (fun g hg hh => own_other O2 head_e (by decide) g hg hh)
  have M_f := M_e.keep kf (fun hh => M_e.ne head_e hh)
  have cbs_f : ∀ (i g : Nat) (p : Nat × Bytes), cbs[i]? = some g → k.pend[i]? = some p → Blk (We.setCell ⟨d, 4, none⟩ vw') g 9 #[.string (bs p.2)] := fun i g p hi hp => (cbs_e i g p hi hp).keep kf (fun hh => ((cbs_e i g p hi hp).ne head_e (by decide)) hh)
  have cb_f := cb_e.keep kf (fun hh => (cb_e.ne head_e (by decide)) hh)
  have sz1 := e1.size
  have sz2 := k1.size
  have sz3 := K1.size
  have sz4 : Wc.heap.size ≤ We.heap.size := Nat.le_trans kd.size K2.size
  have sz5 := kf.size
  have hkeep : Keep F w (We.setCell ⟨d, 4, none⟩ vw') := by
    refine Keep.setIn ?_ h.fd _ _
    refine Keep.then ?_ K2 (fun i hi => Or.inl (h.fw i hi))
    refine Keep.setIn ?_ h.fd _ _
    refine Keep.then ?_ K1 (fun i hi => Or.inl (h.fp i hi))
    exact (Keep.of_ext e1).then k1 (fun i hi => Or.inl (by cases hi; exact h.fm))
  refine ⟨fun g => (F g ∨ w.heap.size ≤ g) ∧ g < (We.setCell ⟨d, 4, none⟩ vw').heap.size, ⟨bl, m, vp', vw', cbs ++ [cb], updF f s k.pend.length, ?_⟩, hkeep, fun g hg => hg.1⟩
  refine ⟨h.ok.write hs hb, ?_, last_f, ?_, ?_, M_f, ?_, by simp [Dk.write, h.cl], ?_, ⟨.inl h.fd, head_f.lt⟩, ⟨.inl h.fl, last_f.lt⟩, ⟨.inl h.fm, M_f.lt⟩, ?_, ?_, ?_, fun g hg => hg.2⟩
  · exact head_f
  · simpa [Dk.write] using pend_f
  · simpa [Dk.write] using wher_f
  · intro t
    simp only [Dk.write]
    rw [newIx_snoc]
    unfold updF
    by_cases ht : s = t
    · subst ht; simp
    · have : (t : Int) ≠ s := by omega
      rw [if_neg this, if_neg ht, h.hf t]
  · intro i g p hi hp
    simp only [Dk.write] at hp
    by_cases hil : i < cbs.length
    · rw [List.getElem?_append_left hil] at hi
      rw [List.getElem?_append_left (by rw [← h.cl]; exact hil)] at hp
      exact cbs_f i g p hi hp
    · have hl : i < cbs.length + 1 := by have := (List.getElem?_eq_some_iff.1 hi).1; simpa using this
      obtain rfl : i = cbs.length := by omega
      rw [List.getElem?_append_right (Nat.le_refl _)] at hi
      rw [h.cl, List.getElem?_append_right (Nat.le_refl _)] at hp
      simp at hi hp
      subst hi hp
      exact cb_f
  · intro g hg
    refine ⟨?_, own_lt pend_f g hg⟩
    rcases B1 with B1 | ⟨g', B1, hg'⟩
    · exact .inl (h.fp g (by rw [← B1]; exact hg))
    · rw [B1] at hg; cases hg; exact .inr (by omega)
  · intro g hg
    refine ⟨?_, own_lt wher_f g hg⟩
    rcases B2 with B2 | ⟨g', B2, hg'⟩
    · exact .inl (h.fw g (by rw [← B2]; exact hg))
    · rw [B2] at hg; cases hg; exact .inr (by omega)
  · intro g hg
    rcases List.mem_append.1 hg with hg | hg
    · exact ⟨.inl (h.fc g hg), Nat.lt_of_lt_of_le (h.sz g (h.fc g hg)) hkeep.size⟩
    · simp at hg; subst hg; exact ⟨.inr hcb2, cb_f.lt⟩

set_option maxRecDepth 8000 in
set_option maxHeartbeats 800000 in
theorem write_any {F : Nat → Prop} {d : Nat} {k : Dk} (s : Nat) (b : Bytes) (w : World) (hD : Disk F w d k) (hs : s < k.many) (hb : b.length = k.size) (hp : k.pend.length ≤ 1000000) :
    Calls Tryz.prog 76 #[.pointer (some ⟨d, 0, none⟩), .int .i64 s, .string (bs b)] w (Did F w d (.int .i64 0) (k.write s b)) := by
  have HR := Lib.hid (fun w' (e : Ext w w') => refuse_any s w' (hD.ext e) hs)
  obtain ⟨bl, m, vp, vw, cbs, f, h⟩ := hD
  have HD := Lib.hid h
  have HCS := Lib.hid (fun w' (e : Ext w w') => (h.ext e).cs)
  obtain ⟨Ap, cp, rfl⟩ := own_slice h.pend
  obtain ⟨Aw, cw, rfl⟩ := own_slice h.wher
  have hz : (bs b).size = k.size := by rw [← hb]; simp [bs, ByteArray.size]
  have hz2 : ((bs b).size : Int) = k.size := by rw [hz]
  have HB := Lib.hid (And.intro hs hb)
  have HP := Lib.hid hp
  have hpz : (0 : Int) ≤ (k.pend.length : Int) := by omega
  have HF1 : (Tryz.prog.info? 137).map (fun i => (i.zero, i.size, i.bytes)) = some (some .nilFunc, 1, 8) := by kernel_rfl
  have HF2 : (Tryz.prog.info? 3).map (fun i => (i.zero, i.size, i.bytes)) = some (some (.int .i64 0), 1, 8) := by kernel_rfl
  have HI := Lib.hid (And.intro HF1 HF2)
  have HC := Lib.hid (fun F' w' k' (h : Disk F' w' d k') => count_any w' h)
  clear h hs hb hz hp HF1 HF2
  generalize hzb : bs b = zb at *
  have HZB := Lib.hid hzb
  clear hzb
  go_enter Tryz.func76, Tryz.ntmps76
  go_wp2_with (first | (go_at_call 86; refine (HR.out _ ((Ext.refl _).alloc _)).mono ?_; rintro e w1 ⟨rfl, hE1⟩; obtain ⟨c1, c3, c4, c5⟩ := HCS.out _ (((Ext.refl w).alloc _).trans hE1); have HB1 := Lib.hid (Blk.ext (Blk.new _ _ _) hE1); have HE1 := Lib.hid (((Ext.refl w).alloc _).trans hE1); clear hE1; have cb0 := HB1.out.cell 0; simp at cb0))
  go_quiet (fail)
  obtain ⟨w2, hw2⟩ : ∃ w2, w2 = w1.drewN nq := ⟨_, rfl⟩
  have HE2 := Lib.hid (show Ext w w2 from by rw [hw2]; exact HE1.out.drewN _)
  have HB2 := Lib.hid (show Blk w2 w.heap.size 9 #[.string zb] from by rw [hw2]; exact HB1.out.drewN _)
  rw [← hw2]
  clear c1 c3 c4 c5 cb0 hw2 HE1 HB1
  obtain ⟨c1, c3, c4, c5⟩ := HCS.out _ HE2.out
  go_wp2_with fail
  go_still_tail 10, (by kernel_rfl)
  refine wpList_mapUpd rfl 63 3 3 (.tmp 24) (.tmp 25) (.tmp 30) rfl Tryz.underlying63 Tryz.underlying3 m f ((HD.out.ext HE2.out).ext ((Ext.refl _).drew)).mp s k.pend.length rfl rfl rfl ?_
  intro w3 hM3 hK3
  have HE2' := Lib.hid (HE2.out.trans ((Ext.refl w2).drew))
  have HB2' := Lib.hid (HB2.out.drew)
  have HM3 := Lib.hid hM3
  have HK3 := Lib.hid hK3
  have HD2 := Lib.hid (HD.out.ext HE2'.out)
  have HH3 := Lib.hid (HD2.out.head.keep hK3 (fun e => HD2.out.mp.ne HD2.out.head e.symm))
  have HO3 := Lib.hid (own_keep HD2.out.pend hK3 (fun g hg hh => own_mp HD2.out.pend HD2.out.mp g hg hh))
  clear hM3 hK3 c1 c3 c4 c5
  have c3 := HH3.out.cell 3
  have c4 := HH3.out.cell 4
  simp at c3 c4
  have HW3 := Lib.hid (own_keep HD2.out.wher HK3.out (fun g hg hh => own_mp HD2.out.wher HD2.out.mp g hg hh))
  go_wp2_with (first | (have hg := HW5; at_builtin; go_loud (refine wpList_append1g 0 w4.heap.size (World.size_setCell _ _ _) rfl (.tmp 45) (.tmp 47) 65 3 _ 1 8 rfl Tryz.underlying65 HI.out.2 rfl (by decide) (by decide) (.slice Aw k.pend.length cw) k.pend.length (k.pend.map fun p => Value.int .i64 p.1) [.int .i64 s] rfl rfl rfl (by intro u hu; simp at hu; subst hu; rfl) HW5.out (Nat.zero_le _) (by have := HP.out; omega) ?_; intro A2 cc2 w5 hO2 hK2 hb2; have HH6 := HH5.out.keep hK2 (fun hh => own_other HW5.out HH5.out (by decide) d hh rfl); have f4 := HH6.frozen 4; have c4 := HH6.cell 4; simp at c4; have HR2 := Lib.hid (And.intro hO2 (And.intro hK2 hb2)); clear hg hO2 hK2 hb2)) | (at_builtin; go_loud (refine wpList_append1 0 rfl (.tmp 35) (.tmp 37) 64 137 _ 1 8 rfl Tryz.underlying64 HI.out.1 rfl (by decide) (by decide) (.slice Ap k.pend.length cp) k.pend.length (cbs.map fnv) [fnv w.heap.size] rfl rfl rfl (by intro u hu; simp at hu; subst hu; rfl) HO3.out (Nat.zero_le _) (by have := HP.out; omega) ?_; intro A1 cc1 w4 hO1 hK1 hb1; have HH4 := HH3.out.keep hK1 (fun hh => own_other HO3.out HH3.out (by decide) d hh rfl); have HW4 := own_keep HW3.out hK1 (fun g hg hh => own_own HW3.out HO3.out (by decide) g hg hh); have HW5 := Lib.hid (own_keep HW4 ((Keep.refl (One d) w4).setIn rfl 3 (.slice A1 (k.pend.length + 1) cc1)) (fun g hg hh => own_other HW4 HH4 (by decide) g hg hh)); have HH5 := Lib.hid (HH4.set 3 (.slice A1 (k.pend.length + 1) cc1)); clear c3 c4; have f3 := HH4.frozen 3; have c3 := HH4.cell 3; have c4 := HH4.cell 4; simp at c3 c4; have HR1 := Lib.hid (And.intro hO1 (And.intro hK1 hb1)); clear hO1 hK1 hb1 HH4 HW4)))
  obtain ⟨F', hD', hM'⟩ := write_asm (Wa := w2.drew) (cb := w.heap.size) HD.out HB.out.1 HB.out.2 HE2'.out (by rw [HZB.out]; exact HB2'.out) (Nat.le_refl _) HM3.out HK3.out HR1.out.1 HR1.out.2.1 HR1.out.2.2 HR2.out.1 HR2.out.2.1 (by have := HR2.out.2.2; simpa using this)
  refine (HC.out F' _ _ hD').mono ?_
  rintro e w6 ⟨rfl, hE6⟩
  have HF := Lib.hid (And.intro hE6 (And.intro hD' hM'))
  clear hE6 hD' hM'
  go_wp2_with fail
  go_ret
  exact ⟨rfl, F', HF.out.2.1.ext HF.out.1, HF.out.2.2.trans (Moves.of_ext HF.out.1)⟩

end Go.Proofs.YtnkebhlkhpgghaaGreatDoor
/- sector.settle, Flush, New: the walks. -/
namespace Go.Proofs.YtnkebhlkhpgghaaGreatDoor
open Go Go.RowKit Go.Deep Go.Sort

theorem DiskC.relast {F : Nat → Prop} {w w' : World} {d : Nat} {k : Dk} {bl m : Nat} {vp vw : Value} {cbs : List Nat} {f : Int → Option Int} (h : DiskC F w d k bl m vp vw cbs f) {l : Bytes} (hB : Blk w' bl 5 (bcells l).toArray) (K : Keep (One bl) w w') (hl : l.length = k.last.length) :
    DiskC F w' d { k with last := l } bl m vp vw cbs f := by
  have hdl : d ≠ bl := fun e => (h.head.ne h.last (by decide)) e
  refine ⟨⟨h.ok.m1, h.ok.m2, h.ok.s1, h.ok.s2, hl.trans h.ok.len, h.ok.pend⟩, ?_, hB, own_keep h.pend K (fun g hg hh => own_other h.pend h.last (by decide) g hg hh), own_keep h.wher K (fun g hg hh => own_other h.wher h.last (by decide) g hg hh), h.mp.keep K (fun hh => h.mp.ne h.last hh), h.hf, h.cl, fun i g p hi hp => (h.cb i g p hi hp).keep K (fun hh => ((h.cb i g p hi hp).ne h.last (by decide)) hh), h.fd, h.fl, h.fm, h.fp, h.fw, h.fc, fun g hg => Nat.lt_of_lt_of_le (h.sz g hg) K.size⟩
  have := h.head.keep K (fun hh => hdl hh)
  rw [← hl] at this
  exact this
def Dk.upto (k : Dk) (i : Nat) : Dk := { k with last := (k.pend.take i).foldl (fun l p => lay l (p.1 * k.size) p.2) k.last }
theorem Dk.upto_len {k : Dk} (h : k.Ok) (i : Nat) : (k.upto i).last.length = k.last.length := by
  rw [h.len]; exact lays_length _ _ h.len (fun p hp => h.pend p (List.mem_of_mem_take hp))
theorem Dk.upto_step {k : Dk} {i s : Nat} {b : Bytes} (hp : k.pend[i]? = some (s, b)) : (k.upto (i + 1)).last = lay (k.upto i).last (s * k.size) b := by
  have hl := (List.getElem?_eq_some_iff.1 hp).1
  simp only [Dk.upto]
  rw [List.take_succ_eq_append_getElem hl, List.foldl_append, (List.getElem?_eq_some_iff.1 hp).2]
  rfl
theorem DiskC.places {F : Nat → Prop} {w : World} {d : Nat} {k : Dk} {bl m : Nat} {vp : Value} {A : Option Addr} {c : Nat} {cbs : List Nat} {f : Int → Option Int} (h : DiskC F w d k bl m vp (.slice A k.pend.length c) cbs f) {i : Nat} (hi : i < k.pend.length) {p : Nat × Bytes} (hp : k.pend[i]? = some p) :
    ∃ gw, A = some ⟨gw, 0, none⟩ ∧ w.cell? ⟨gw, i, none⟩ = some (.int .i64 p.1) := by
  have hO := h.wher
  rcases hO.2 with ⟨hv, hl⟩ | ⟨g, cap, cur, hv, hb, hg, hcap, hm, hcs, ht⟩
  · simp at hv; omega
  · simp at hv
    obtain ⟨rfl, rfl⟩ := hv
    refine ⟨g, rfl, ?_⟩
    have := hO.cells (g := g) rfl i (.int .i64 p.1) (by rw [List.getElem?_map, hp]; rfl)
    rw [Addr.add_lit, Nat.zero_add] at this
    exact this

set_option maxRecDepth 8000 in
set_option maxHeartbeats 800000 in
theorem settle_any {F : Nat → Prop} {d : Nat} {k : Dk} (w : World) (hD : Disk F w d k) : Calls Tryz.prog 79 #[.pointer (some ⟨d, 0, none⟩)] w fun e w' => e = .returned (.tuple #[]) ∧ Disk F w' d { k with pend := [] } ∧ Keep F w w' := by
  obtain ⟨bl, m, vp, vw, cbs, f, h⟩ := hD
  have HD := Lib.hid h
  obtain ⟨Ap, cp, rfl⟩ := own_slice h.pend
  obtain ⟨Aw, cw, rfl⟩ := own_slice h.wher
  obtain ⟨c1, c3, c4, c5⟩ := h.cs
  have f3 := h.head.frozen 3
  have f4 := h.head.frozen 4
  have h1 := h.head.set 3 (.slice none 0 0)
  have h2 := h1.set 4 (.slice none 0 0)
  have k1 : Keep (One d) w (w.setCell ⟨d, 3, none⟩ (.slice none 0 0)) := (Keep.refl (One d) _).setIn rfl _ _
  have k2 : Keep (One d) w ((w.setCell ⟨d, 3, none⟩ (.slice none 0 0)).setCell ⟨d, 4, none⟩ (.slice none 0 0)) := k1.setIn rfl _ _
  have HM := Lib.hid (h.mp.keep k2 (fun hh => h.mp.ne h.head hh))
  have HB := Lib.hid h2
  have HK := Lib.hid k2
  clear h h1 h2 k1 k2 c1
  go_enter Tryz.func79, Tryz.ntmps79
  go_wp2_with (refine wpList_clearM rfl 63 3 3 (.tmp 11) rfl Tryz.underlying63 m f HM.out rfl ?_; intro w1 hM1 hK1)
  exact bodyPost_end (results_none rfl _ _ _) rfl ⟨rfl, ⟨bl, m, .slice none 0 0, .slice none 0 0, [], fun _ => none, by
    have h := HD.out
    have kk := HK.out
    refine ⟨⟨h.ok.m1, h.ok.m2, h.ok.s1, h.ok.s2, h.ok.len, by simp⟩, HB.out.keep hK1 (fun hh => HM.out.ne HB.out hh.symm), (h.last.keep kk (fun hh => (h.last.ne h.head (by decide)) hh)).keep hK1 (fun hh => HM.out.ne (h.last.keep kk (fun hh => (h.last.ne h.head (by decide)) hh)) hh.symm),
      own_none _ _ _ _, own_none _ _ _ _, hM1, fun s => rfl, rfl, by simp, h.fd, h.fl, h.fm, by simp [Value.ownBlock], by simp [Value.ownBlock], by simp, fun g hg => Nat.lt_of_lt_of_le (h.sz g hg) (Nat.le_trans kk.size hK1.size)⟩⟩,
    (HK.out.mono (S' := F) (fun i _ hi => by cases hi; exact HD.out.fd)).then hK1 (fun i hi => Or.inl (by cases hi; exact HD.out.fm))⟩

set_option maxRecDepth 8000 in
set_option maxHeartbeats 800000 in
theorem flush_any {F : Nat → Prop} {d : Nat} {k : Dk} (w : World) (hD : Disk F w d k) (hpl : k.pend.length ≤ 1000000) : Calls Tryz.prog 53 #[.pointer (some ⟨d, 0, none⟩)] w (Did F w d (.int .i64 0) k.flush) := by
  obtain ⟨bl, m, vp, vw, cbs, f, h⟩ := hD
  have HD := Lib.hid h
  obtain ⟨Ap, cp, rfl⟩ := own_slice h.pend
  obtain ⟨Aw, cw, rfl⟩ := own_slice h.wher
  have c6 := h.head.cell 6
  obtain ⟨c1, c3, c4, c5⟩ := h.cs
  simp at c6
  clear h
  go_enter Tryz.func53, Tryz.ntmps53
  go_wp2_with fail
  obtain ⟨w0, rfl⟩ : ∃ w0 : World, w0 = w := ⟨_, rfl⟩
  clear c1 c3 c4 c5 c6
  go_loopw [16] (fun t wr => ∃ (i : Nat), t = .int .i64 i ∧ i ≤ k.pend.length ∧ DiskC F wr d (k.upto i) bl m (.slice Ap k.pend.length cp) (.slice Aw k.pend.length cw) cbs f ∧ Keep F w0 wr) (fun t _ => k.pend.length - (intOf t).toNat)
  case atStart => exact ⟨0, rfl, by omega, by simpa [Dk.upto] using HD.out, Keep.refl _ _⟩
  case round =>
    obtain ⟨i, rfl, hi, hC, hK⟩ := hrel
    have HC := Lib.hid hC
    have HK := Lib.hid hK
    by_cases hlt : i < k.pend.length
    · obtain ⟨⟨s, b⟩, hp⟩ : ∃ p, k.pend[i]? = some p := ⟨_, List.getElem?_eq_getElem hlt⟩
      have hi1 : (i : Int) < k.pend.length := by omega
      have hi0 : (0 : Int) ≤ i := by omega
      have hi2 : (i : Int) < 1000000 := by omega
      obtain ⟨gp, cb, rfl, hcf, hcb⟩ := DiskC.clos (k := k.upto i) hC hlt hp
      obtain ⟨gw, rfl, hcw⟩ := DiskC.places (k := k.upto i) hC hlt hp
      simp only at hcw
      obtain ⟨c1, c3, c4, c5⟩ := hC.cs
      have hpo := HD.out.ok.pend _ (List.mem_of_getElem? hp)
      simp only at hpo
      have HS := Lib.hid (fun w' (e : Ext wr w') => sector_any (hC.ext e) s hpo.1)
      have HPO := Lib.hid hpo
      have HP := Lib.hid hp
      have HCB := Lib.hid hcb
      have r1 := cell_regrown c1
      have r4 := cell_regrown c4
      have rw_ := cell_regrown hcw
      clear hC hK hcb hpo hp
      have hsz : (k.upto i).size = k.size := rfl
      rw [hsz] at c1 r1
      clear hsz
      go_wp2_with fail
      refine wp_region_tail (C := fun w' => ∃ p : Regrown, w' = grow (redrawn wr p.d) p.os) 14 (by kernel_rfl) (by kernel_rfl) (regrown_start wr) ?_
      simp only [List.take_succ_cons, List.take_zero, List.drop_succ_cons, List.drop_zero]
      clear c1 c3 c4 c5 hcf hcw
      repeat (quiet_step ((go_at_call 78; exact Calls.regrown_of (HS.out _ (below_regrown _ _ _)))))
      refine wpQuiet_nil ?_
      intro w1 hw1
      have HE1 := Lib.hid (regrown_ext hw1)
      have HL := Lib.hid (Dk.upto_len HD.out.ok i)
      have HFIT := Lib.hid (fit_mul (z := k.size) HPO.out.1)
      clear hw1 r1 r4 rw_
      go_wp2_with (go_at_call 100; go_loud (refine (wr1_any bl (s * k.size) k.size _ cb b (bcells (k.upto i).last).toArray _ (HC.out.last.ext HE1.out) (HCB.out.ext HE1.out) HPO.out.2 (by have h1 := HL.out; have h2 := HFIT.out; have h3 := HD.out.ok.len; simp [bcells]; omega) (by have h1 := HL.out; have h2 := HFIT.out; have h3 := HD.out.ok.len; show k.size ≤ (k.upto i).last.length - s * k.size; omega)).mono ?_; rintro e w2 ⟨rfl, hB2, hK2⟩; have HB2 := Lib.hid hB2; have HK2 := Lib.hid hK2; clear hB2 hK2))
      go_roundw
      case rel =>
        have hB := HB2.out
        rw [putC_bcells, ← Dk.upto_step HP.out] at hB
        refine ⟨i + 1, by go_num, by omega, DiskC.relast (HC.out.ext HE1.out) hB HK2.out ?_, ?_⟩
        · exact (Dk.upto_len HD.out.ok (i + 1)).trans (Dk.upto_len HD.out.ok i).symm
        · exact (HK.out.trans (Keep.of_ext HE1.out)).then HK2.out (fun g hg => Or.inl (by cases hg; exact HD.out.fl))
      case measure => simp [intOf]; omega
    · have hi1 : ¬ (i : Int) < k.pend.length := by omega
      obtain rfl : i = k.pend.length := by omega
      clear hC hK
      go_wp2_with (first | (go_at_call 79; refine (settle_any _ ⟨_, _, _, _, _, _, HC.out⟩).mono ?_; rintro e w1 ⟨rfl, hD1, hK1⟩; have HD1 := Lib.hid hD1; have HK1 := Lib.hid (HK.out.trans hK1); clear hD1 hK1) | (go_at_call 80; refine (count_any _ HD1.out).mono ?_; rintro e w2 ⟨rfl, hE2⟩; have HE2 := Lib.hid hE2; clear hE2))
      go_ret
      refine ⟨rfl, F, ?_, HK1.out.trans (Keep.of_ext HE2.out), fun g hg => .inl hg⟩
      have h1 := HD1.out.ext HE2.out
      have e : ({ k.upto k.pend.length with pend := [] } : Dk) = k.flush := by simp [Dk.upto, Dk.flush]
      rw [e] at h1
      exact h1
end Go.Proofs.YtnkebhlkhpgghaaGreatDoor
/- sector.New: the walk. -/
namespace Go.Proofs.YtnkebhlkhpgghaaGreatDoor
open Go Go.RowKit Go.Deep

/-- What New asks. -/
def newOk (many size : Int) : Bool := decide (1 ≤ many) && decide (many ≤ 4096) && decide (64 ≤ size) && decide (size ≤ 1024)
set_option maxRecDepth 8000 in
set_option maxHeartbeats 800000 in
theorem newNo_any (many size : Int) (w : World) (h : newOk many size = false) : Calls Tryz.prog 6 #[.int .i64 many, .int .i64 size] w (Ret (.tuple #[.pointer none, .int .i64 1]) w) := by
  by_cases h1 : many < 1
  · have d1 : decide (many < 1) = true := decide_eq_true h1
    clear h
    go_enter Tryz.func6, Tryz.ntmps6
    go_wp2_with fail
    go_ret2
    exact ⟨rfl, Ext.refl w⟩
  · have d1 : decide (many < 1) = false := decide_eq_false h1
    by_cases h2 : 4096 < many
    · have d2 : decide (4096 < many) = true := decide_eq_true h2
      clear h
      go_enter Tryz.func6, Tryz.ntmps6
      go_wp2_with fail
      go_ret2
      exact ⟨rfl, Ext.refl w⟩
    · have d2 : decide (4096 < many) = false := decide_eq_false h2
      by_cases h3 : size < 64
      · have d3 : decide (size < 64) = true := decide_eq_true h3
        clear h
        go_enter Tryz.func6, Tryz.ntmps6
        go_wp2_with fail
        go_ret2
        exact ⟨rfl, Ext.refl w⟩
      · have d3 : decide (size < 64) = false := decide_eq_false h3
        have h4 : 1024 < size := by simp [newOk] at h; omega
        have d4 : decide (1024 < size) = true := decide_eq_true h4
        clear h
        go_enter Tryz.func6, Tryz.ntmps6
        go_wp2_with fail
        go_ret2
        exact ⟨rfl, Ext.refl w⟩
theorem makeM (W : World) : (Instr.makeMap 63 none).run Tryz.prog W = .ok (.map (some W.heap.size)) (W.alloc (.map #[] 0)) := by kernel_rfl
set_option maxRecDepth 8000 in
set_option maxHeartbeats 800000 in
theorem newYes_any (many size : Nat) (w : World) (h : newOk many size = true) : Calls Tryz.prog 6 #[.int .i64 many, .int .i64 size] w fun e w' => ∃ F d, e = .returned (.tuple #[.pointer (some ⟨d, 0, none⟩), .int .i64 0]) ∧ Disk F w' d (Dk.new many size) ∧ Ext w w' ∧ ∀ g, F g → w.heap.size ≤ g := by
  simp only [newOk, Bool.and_eq_true, decide_eq_true_eq] at h
  obtain ⟨⟨⟨h1, h2⟩, h3⟩, h4⟩ := h
  have d1 : decide ((many : Int) < 1) = false := decide_eq_false (by omega)
  have d2 : decide (4096 < (many : Int)) = false := decide_eq_false (by omega)
  have d3 : decide ((size : Int) < 64) = false := decide_eq_false (by omega)
  have d4 : decide (1024 < (size : Int)) = false := decide_eq_false (by omega)
  have hmm : many * size ≤ 4096 * 1024 := Nat.mul_le_mul (by omega) (by omega)
  have hw : IntKind.i64.wrap ((many : Int) * size) = ((many * size : Nat) : Int) := by rw [← Int.natCast_mul]; exact IntWalk.i64_in _ (by omega)
  have hmk := fun W => makeBytes (many * size) W (by omega)
  have hmp := makeM
  have HOK := Lib.hid (Dk.new_ok (many := many) (size := size) (by omega) (by omega) (by omega) (by omega))
  clear h1 h2 h3 h4
  generalize hq : many * size = q at *
  have HQ := Lib.hid hq
  clear hq hmm
  go_enter Tryz.func6, Tryz.ntmps6
  go_wp2_with fail
  go_ret2
  obtain ⟨W, hW⟩ : ∃ W, W = w.alloc (.cells (bcells (List.replicate q 0)).toArray 5) := ⟨_, rfl⟩
  have b0 := Blk.new w 5 (bcells (List.replicate q 0)).toArray
  have hzq : (Dk.new many size).last = List.replicate q 0 := by simp [Dk.new, zeros, HQ.out]
  have hzl : (Dk.new many size).last.length = q := by rw [hzq, List.length_replicate]
  refine ⟨fun g => w.heap.size ≤ g ∧ g < w.heap.size + 3, w.heap.size + 1 + 1, rfl, ⟨w.heap.size, w.heap.size + 1, .slice none 0 0, .slice none 0 0, [], fun _ => none, ?_⟩, (((Ext.refl w).alloc _).alloc _).alloc _, fun g hg => hg.1⟩
  refine ⟨HOK.out, ?_, ?_, own_none _ _ _ _, own_none _ _ _ _, ⟨[], 0, ?_, fun k => rfl⟩, fun s => rfl, rfl, by simp, ?_, ?_, ?_, by simp [Value.ownBlock], by simp [Value.ownBlock], by simp, ?_⟩
  · rw [hzl]
    exact Blk.new' (by simp)
  · rw [hzq]
    exact (b0.alloc _).alloc _
  · rw [Below.heap_alloc _ _ _ (by simp)]
    have h1 := heap_alloc_new (w.alloc (.cells (bcells (List.replicate q 0)).toArray 5)) (.map #[] 0)
    simpa using h1
  · simp; omega
  · simp
  · simp
  · intro g hg; simp; omega
end Go.Proofs.YtnkebhlkhpgghaaGreatDoor
/- area: the walks (where nothing is refused). -/
namespace Go.Proofs.YtnkebhlkhpgghaaGreatDoor
open Go Go.RowKit Go.Deep Go.Sort

def Area (w : World) (a d frm n z : Nat) : Prop := Blk w a 140 #[.pointer (some ⟨d, 0, none⟩), .int .i64 frm, .int .i64 n, .int .i64 z]
theorem Moves.not {F F' : Nat → Prop} {w w' : World} (h : Moves F w F' w') {g : Nat} (hg : ¬ F g) (hl : g < w.heap.size) : ¬ F' g := fun hh => (h.2 g hh).elim hg (fun h' => by omega)
theorem Moves.ext {F F' : Nat → Prop} {w w' w'' : World} (h : Moves F w F' w') (e : Ext w' w'') : Moves F w F' w'' := h.trans (Moves.of_ext e)
theorem Moves.pre {F F' : Nat → Prop} {w w' w'' : World} (e : Ext w w') (h : Moves F w' F' w'') : Moves F w F' w'' := (Moves.of_ext e).trans h
/-- Something new has turned, too. -/
theorem Moves.new {F F' S : Nat → Prop} {w w' w'' : World} (h : Moves F w F' w') (k : Keep S w' w'') (hs : ∀ g, S g → w.heap.size ≤ g) : Moves F w F' w'' :=
  ⟨h.1.then k (fun i hi => .inr (hs i hi)), h.2⟩

set_option maxRecDepth 8000 in
set_option maxHeartbeats 800000 in
theorem areaNew_any {F : Nat → Prop} {d : Nat} {k : Dk} (frm n : Nat) (w : World) (hD : Disk F w d k) (hn : 1 ≤ n) (hm : frm + n ≤ k.many) : Calls Tryz.prog 54 #[.pointer (some ⟨d, 0, none⟩), .int .i64 frm, .int .i64 n] w fun e w' => ∃ a, e = .returned (.tuple #[.pointer (some ⟨a, 0, none⟩), .int .i64 0]) ∧ Area w' a d frm n k.size ∧ Ext w w' ∧ w.heap.size ≤ a ∧ a < w'.heap.size := by
  have HS := Lib.hid (size_any w hD)
  have hk := hD.ok.m2
  have d1 : decide ((n : Int) < 1) = false := decide_eq_false (by omega)
  have d2 : decide ((k.many : Int) < n) = false := decide_eq_false (by omega)
  have d3 : decide ((frm : Int) < 0) = false := decide_eq_false (by omega)
  have d4 : decide ((k.many : Int) - n < frm) = false := decide_eq_false (by omega)
  have b1 : (0 : Int) ≤ n := by omega
  have b2 : (n : Int) ≤ k.many := by omega
  have b3 : (k.many : Int) ≤ 4096 := by omega
  clear hD hn hm hk
  go_enter Tryz.func54, Tryz.ntmps54
  go_wp2_with (go_at_call 44; refine HS.out.mono ?_; rintro e w1 ⟨rfl, hE1⟩; have HE1 := Lib.hid hE1; clear hE1)
  go_ret2
  have b := Blk.new w1 140 #[.pointer (some ⟨d, 0, none⟩), .int .i64 frm, .int .i64 n, .int .i64 k.size]
  exact ⟨w1.heap.size, rfl, b, HE1.out.alloc _, HE1.out.size, b.lt⟩
theorem areaLen_any {a d frm n z : Nat} (w : World) (hA : Area w a d frm n z) (hz : n * z ≤ 4194304) : Calls Tryz.prog 81 #[.pointer (some ⟨a, 0, none⟩)] w (Ret (.int .i64 ((n * z : Nat) : Int)) w) := by
  have c2 := hA.cell 2
  have c3 := hA.cell 3
  simp at c2 c3
  have hw : IntKind.i64.wrap ((n : Int) * z) = ((n * z : Nat) : Int) := by rw [← Int.natCast_mul]; exact IntWalk.i64_in _ (by omega)
  clear hA
  generalize n * z = q at *
  go_enter Tryz.func81, Tryz.ntmps81
  go_wp2_with fail
  go_quiet (fail)
  go_wp2_with fail
  go_ret
  exact ⟨rfl, (Ext.refl w).drewN _⟩
set_option maxRecDepth 8000 in
set_option maxHeartbeats 800000 in
theorem span_any {a d frm n z : Nat} (at_ len : Nat) (w : World) (hA : Area w a d frm n z) (hz : n * z ≤ 4194304) (hl : at_ + len ≤ n * z) : Calls Tryz.prog 116 #[.pointer (some ⟨a, 0, none⟩), .int .i64 at_, .int .i64 len] w fun e w' => ∃ g, e = .returned (.tuple #[.pointer (some ⟨g, 0, none⟩), .int .i64 0]) ∧ Blk w' g 204 #[.int .i64 at_, .int .i64 ((at_ + len : Nat) : Int), .int .i64 z] ∧ Ext w w' ∧ w.heap.size ≤ g := by
  have HL := Lib.hid (fun w' (e : Ext w w') => areaLen_any w' (Blk.ext hA e) hz)
  have HC := Lib.hid (fun w' (e : Ext w w') => (Blk.ext hA e).cell 3)
  generalize n * z = q at *
  have d1 : decide ((at_ : Int) < 0) = false := decide_eq_false (by omega)
  have d2 : decide ((len : Int) < 0) = false := decide_eq_false (by omega)
  have d3 : decide ((q : Int) < at_) = false := decide_eq_false (by omega)
  have d4 : decide ((q : Int) - at_ < len) = false := decide_eq_false (by omega)
  have b1 : (0 : Int) ≤ at_ := by omega
  have b2 : (at_ : Int) + len ≤ q := by omega
  have b3 : (q : Int) ≤ 4194304 := by omega
  have b4 : (0 : Int) ≤ len := by omega
  clear hA hz hl
  go_enter Tryz.func116, Tryz.ntmps116
  go_wp2_with (first | (have hg := HE1; go_at_call 81; refine (HL.out _ HE1.out).mono ?_; rintro e w2 ⟨rfl, hE2⟩; have HE2 := Lib.hid (HE1.out.trans hE2); clear hE2 hg; have c3 := HC.out _ HE2.out; simp at c3) | (go_at_call 81; refine (HL.out _ (Ext.refl _)).mono ?_; rintro e w1 ⟨rfl, hE1⟩; have HE1 := Lib.hid hE1; clear hE1))
  go_ret2
  exact ⟨w2.heap.size, rfl, by simpa using Blk.new w2 204 #[.int .i64 at_, .int .i64 ((at_ : Int) + len), .int .i64 z], HE2.out.alloc _, HE2.out.size⟩
theorem sync_any {F : Nat → Prop} {a d frm n z : Nat} {k : Dk} (w : World) (hD : Disk F w d k) (hpl : k.pend.length ≤ 1000000) (hA : Area w a d frm n z) : Calls Tryz.prog 107 #[.pointer (some ⟨a, 0, none⟩)] w (Did F w d (.int .i64 0) k.flush) := by
  have HF := Lib.hid (flush_any w hD hpl)
  have c0 := hA.cell 0
  simp at c0
  clear hD hA hpl
  go_enter Tryz.func107, Tryz.ntmps107
  go_wp2_with (go_at_call 53; refine HF.out.mono ?_; rintro e w1 ⟨rfl, hE1⟩; have HE1 := Lib.hid hE1; clear hE1)
  go_ret
  exact ⟨rfl, HE1.out⟩

set_option maxRecDepth 8000 in
set_option maxHeartbeats 800000 in
theorem nextNo_any {g z : Nat} (at_ : Nat) (w : World) (hB : Blk w g 204 #[.int .i64 at_, .int .i64 at_, .int .i64 z]) : Calls Tryz.prog 118 #[.pointer (some ⟨g, 0, none⟩)] w (Ret (.tuple #[.agg #[.int .i64 0, .int .i64 0, .int .i64 0], .bool false]) w) := by
  have c0 := hB.cell 0
  have c1 := hB.cell 1
  simp at c0 c1
  have HB := Lib.hid hB
  clear hB
  go_enter Tryz.func118, Tryz.ntmps118
  go_wp2_with fail
  obtain ⟨w1, hw1⟩ : ∃ w1, w1 = w.alloc (.cells #[.int .i64 0, .int .i64 0, .int .i64 0] 189) := ⟨_, rfl⟩
  have HE1 := Lib.hid (show Ext w w1 from by rw [hw1]; exact (Ext.refl w).alloc _)
  have HB1 := Lib.hid (HB.out.ext HE1.out)
  have HP1 := Lib.hid (show Blk w1 w.heap.size 189 #[.int .i64 0, .int .i64 0, .int .i64 0] from by rw [hw1]; exact Blk.new _ _ _)
  rw [← hw1]
  clear hw1 c0 c1
  have c0 := HB1.out.cell 0
  have c1 := HB1.out.cell 1
  have c2 := HB1.out.cell 2
  simp at c0 c1 c2
  go_quiet (fail)
  have p0 := HP1.out.cell 0
  have p1 := HP1.out.cell 1
  have p2 := HP1.out.cell 2
  simp at p0 p1 p2
  go_wp2_with (refine wpList_store_blk rfl 189 (.tmp 2) (.tmp 14) rfl w.heap.size 189 [.int .i64 0, .int .i64 0, .int .i64 0] [.int .i64 0, .int .i64 0, .int .i64 0] rfl rfl (HP1.out.drewN _) rfl (by kernel_rfl) (by intro u hu; simp at hu; subst hu; rfl) ?_; intro w2 hB2 hK2; have HP2 := Lib.hid hB2; have HE2 := Lib.hid ((HE1.out.drewN _).keep hK2 (fun i hi => by cases hi; exact Nat.le_refl _)); clear hB2 hK2)
  exact bodyPost_ret (results_blk_tmp rfl _ w.heap.size rfl HP2.out Tryz.underlying189 rfl (by kernel_rfl)) rfl ⟨rfl, HE2.out⟩
set_option maxRecDepth 8000 in
set_option maxHeartbeats 800000 in
theorem nextYes_any {g z : Nat} (at_ m len : Nat) (w : World) (hB : Blk w g 204 #[.int .i64 at_, .int .i64 ((at_ + len : Nat) : Int), .int .i64 z]) (h0 : 0 < len) (hz : 0 < z) (hz2 : z ≤ 1024) (hl : at_ + len ≤ 4194304) (hm : m = min (z - at_ % z) len) :
    Calls Tryz.prog 118 #[.pointer (some ⟨g, 0, none⟩)] w fun e w' => e = .returned (.tuple #[.agg #[.int .i64 ((at_ / z : Nat) : Int), .int .i64 ((at_ % z : Nat) : Int), .int .i64 ((at_ % z + m : Nat) : Int)], .bool true]) ∧ Blk w' g 204 #[.int .i64 ((at_ + m : Nat) : Int), .int .i64 ((at_ + len : Nat) : Int), .int .i64 z] ∧ Keep (One g) w w' := by
  have HB := Lib.hid hB
  have c0 := hB.cell 0
  have c1 := hB.cell 1
  have c2 := hB.cell 2
  simp at c0 c1 c2
  have hq : IntKind.i64.wrap ((at_ : Int) / z) = ((at_ / z : Nat) : Int) := by
    rw [← Int.natCast_ediv]
    have := Nat.div_le_self at_ z
    generalize at_ / z = q at *
    exact IntWalk.i64_in _ (by omega)
  have hr : (at_ : Int).tmod z = ((at_ % z : Nat) : Int) := by
    rw [Int.tmod_eq_emod_of_nonneg (by omega), ← Int.natCast_emod]
  have hrz := Nat.mod_lt at_ hz
  have hz0 : ¬ (z : Int) = 0 := by omega
  have hz1 : ¬ z = 0 := by omega
  generalize at_ / z = q at *
  generalize at_ % z = r at *
  have b0 : ¬ ((at_ : Int) + len ≤ at_) := by omega
  have m1 : m ≤ len := by omega
  have m2 : r + m ≤ z := by omega
  have HMM := Lib.hid hm
  clear hB hm
  go_enter Tryz.func118, Tryz.ntmps118
  go_wp2_with fail
  obtain ⟨w1, hw1⟩ : ∃ w1, w1 = w.alloc (.cells #[.int .i64 0, .int .i64 0, .int .i64 0] 189) := ⟨_, rfl⟩
  have HE1 := Lib.hid (show Ext w w1 from by rw [hw1]; exact (Ext.refl w).alloc _)
  have HB1 := Lib.hid (HB.out.ext HE1.out)
  have HP1 := Lib.hid (show Blk w1 w.heap.size 189 #[.int .i64 0, .int .i64 0, .int .i64 0] from by rw [hw1]; exact Blk.new _ _ _)
  rw [← hw1]
  clear hw1 c0 c1 c2
  have c0 := HB1.out.cell 0
  have c1 := HB1.out.cell 1
  have c2 := HB1.out.cell 2
  simp at c0 c1 c2
  go_quiet (fail)
  go_wp2_with fail
  obtain ⟨w2, hw2⟩ : ∃ w2, w2 = w1.drewN nq := ⟨_, rfl⟩
  rw [← hw2]
  have HE2 := Lib.hid (show Ext w w2 from by rw [hw2]; exact HE1.out.drewN _)
  have HB2 := Lib.hid (show Blk w2 g 204 _ from by rw [hw2]; exact HB1.out.drewN _)
  have HP2 := Lib.hid (show Blk w2 w.heap.size 189 _ from by rw [hw2]; exact HP1.out.drewN _)
  have HP2s := Lib.hid HP2.out.lt
  clear hw2 c0 c1 c2 HB1 HP1 HE1
  have c0 := HB2.out.cell 0
  have c1 := HB2.out.cell 1
  have c2 := HB2.out.cell 2
  simp at c0 c1 c2
  go_region_held3 (fun w' => w'.cell? ⟨g, 0, none⟩ = some (.int .i64 at_) ∧ w'.cell? ⟨g, 2, none⟩ = some (.int .i64 z)) (go_keep) (fail)
  obtain ⟨w3, hw3⟩ : ∃ w3, w3 = (w2.alloc (.cells #[.int .i64 q, .int .i64 r, .int .i64 0] 189)).drew := ⟨_, rfl⟩
  rw [← hw3]
  have HE3 := Lib.hid (show Ext w2 w3 from by rw [hw3]; exact ((Ext.refl w2).alloc _).drew)
  have HB3 := Lib.hid (HB2.out.ext HE3.out)
  have HP3 := Lib.hid (HP2.out.ext HE3.out)
  have HQ3 := Lib.hid (show Blk w3 w2.heap.size 189 #[.int .i64 q, .int .i64 r, .int .i64 0] from by rw [hw3]; exact (Blk.new _ _ _).drew)
  clear hw3 c0 c1 c2 HB2 HP2
  have c0 := HB3.out.cell 0
  have c1 := HB3.out.cell 1
  have c2 := HB3.out.cell 2
  have e1 := HQ3.out.cell 1
  have e2 := HQ3.out.cell 2
  have f2 := HQ3.out.frozen 2
  simp at c0 c1 c2 e1 e2
  have hs1 : IntKind.i64.wrap ((r : Int) + ((at_ : Int) + len)) = (r : Int) + ((at_ : Int) + len) := IntWalk.i64_in _ (by omega)
  have hs2 : IntKind.i64.wrap ((r : Int) + ((at_ : Int) + len) - at_) = (r : Int) + len := by rw [show (r : Int) + ((at_ : Int) + len) - at_ = (r : Int) + len from by omega]; exact IntWalk.i64_in _ (by omega)
  go_wp2_with fail
  go_still_tail 17, (by kernel_rfl)
  go_wp2_with fail
  obtain ⟨w4, hw4⟩ : ∃ w4, w4 = (w3.setCell ⟨w2.heap.size, 2, none⟩ (.int .i64 (min (z : Int) ((r : Int) + len)))).drew := ⟨_, rfl⟩
  rw [← hw4]
  have hmin : min (z : Int) ((r : Int) + len) = (r : Int) + m := by have := HMM.out; omega
  rw [hmin] at hw4
  have HK4 := Lib.hid (show Keep (One w2.heap.size) w3 w4 from by rw [hw4]; exact ((Keep.refl (One w2.heap.size) w3).setIn rfl _ _).drew)
  have HQ4 := Lib.hid (show Blk w4 w2.heap.size 189 #[.int .i64 q, .int .i64 r, .int .i64 ((r : Int) + m)] from by rw [hw4]; exact (HQ3.out.set 2 _).drew)
  have HB4 := Lib.hid (HB3.out.keep HK4.out (fun hh => (HB3.out.ne HQ3.out (by decide)) hh))
  have HP4 := Lib.hid (HP3.out.keep HK4.out (fun hh => by have h1 := HP2s.out; have h2 : w.heap.size = w2.heap.size := hh; omega))
  clear hw4 hmin c0 c1 c2 e1 e2 f2 hs1 hs2 HB3 HP3
  have c0 := HB4.out.cell 0
  have f0 := HB4.out.frozen 0
  have e1 := HQ4.out.cell 1
  have e2 := HQ4.out.cell 2
  simp at c0 e1 e2
  have hs1 : IntKind.i64.wrap ((r : Int) + m - r) = (m : Int) := by rw [show (r : Int) + m - r = (m : Int) from by omega]; exact IntWalk.i64_in _ (by omega)
  have hs2 : IntKind.i64.wrap ((at_ : Int) + m) = (at_ : Int) + m := IntWalk.i64_in _ (by omega)
  go_still_tail 10, (by kernel_rfl)
  have HB5 := Lib.hid ((HB4.out.set 0 (.int .i64 ((at_ : Int) + m))).drew)
  have HK5 := Lib.hid (((Keep.refl (One g) w4).setIn rfl 0 (.int .i64 ((at_ : Int) + m))).drew)
  have HQ5 := Lib.hid (HQ4.out.keep HK5.out (fun hh => (HQ4.out.ne HB4.out (by decide)) hh))
  have HP5 := Lib.hid (HP4.out.keep HK5.out (fun hh => (HP4.out.ne HB4.out (by decide)) hh))
  go_wp2_with (first | (refine wpList_load_blk rfl 189 (.tmp 4) rfl w2.heap.size 189 [.int .i64 q, .int .i64 r, .int .i64 ((r : Int) + m)] rfl HQ5.out _ Tryz.underlying189 rfl (by kernel_rfl) ?_) | (refine wpList_store_blk rfl 189 (.tmp 2) (.tmp 64) rfl w.heap.size 189 [.int .i64 0, .int .i64 0, .int .i64 0] [.int .i64 q, .int .i64 r, .int .i64 ((r : Int) + m)] rfl rfl HP5.out rfl (by kernel_rfl) (by intro u hu; simp at hu; rcases hu with rfl | rfl | rfl <;> rfl) ?_; intro w6 hB6 hK6; have HP6 := Lib.hid hB6; have HK6 := Lib.hid hK6; clear hB6 hK6))
  refine bodyPost_ret (results_blk_tmp rfl _ w.heap.size rfl HP6.out Tryz.underlying189 rfl (by kernel_rfl)) rfl ⟨by simp, ?_, ?_⟩
  · have := (HB5.out.keep HK6.out (fun hh => (HB5.out.ne HP5.out (by decide)) hh))
    simpa using this
  · have hs2 := HE2.out.size
    refine Keep.then (Keep.then (Keep.then (Keep.of_ext (HE2.out.trans HE3.out)) HK4.out ?_) HK5.out ?_) HK6.out ?_
    · intro i hi; exact .inr (by have h2 : i = w2.heap.size := hi; omega)
    · intro i hi; exact .inl hi
    · intro i hi; exact .inr (by have h2 : i = w.heap.size := hi; omega)
end Go.Proofs.YtnkebhlkhpgghaaGreatDoor
/- area.Put: the walks of its closure and of itself. -/
namespace Go.Proofs.YtnkebhlkhpgghaaGreatDoor
open Go Go.RowKit Go.Deep Go.Sort

theorem ext_take (b : Bytes) (m : Nat) : (bs b).extract 0 m = bs (b.take m) := by
  rw [← bs_lb ((bs b).extract 0 m), lb_extract]; simp
theorem ext_drop (b : Bytes) (m : Nat) : (bs b).extract m (bs b).size = bs (b.drop m) := by
  rw [← bs_lb ((bs b).extract m (bs b).size), lb_extract, lb_bs, bs_size, List.take_of_length_le (by simp)]
/-- The text that goes to a sector. -/
def ptxt (k : Dk) (s r m : Nat) (b : Bytes) : Bytes := if m < k.size then (k.read s).take r ++ b.take m ++ (k.read s).drop (r + m) else b.take m
def Or2 (F G : Nat → Prop) : Nat → Prop := fun g => F g ∨ G g

set_option maxRecDepth 8000 in
set_option maxHeartbeats 800000 in
theorem aput1_any {F : Nat → Prop} {d a frm n cb ca : Nat} {k : Dk} (q r m : Nat) (b : Bytes) (w : World) (hD : Disk F w d k) (hA : Area w a d frm n k.size) (hcb : Blk w cb 9 #[.string (bs b)]) (hca : Blk w ca 109 #[.pointer (some ⟨a, 0, none⟩)])
    (hFc : ¬ F cb) (hs : frm + q < k.many) (hm0 : 0 < m) (hm : m ≤ b.length) (hr : r + m ≤ k.size) (hp : k.pend.length ≤ 1000000) (hbl : b.length ≤ 140737488355328) :
    Calls Tryz.prog 119 #[.agg #[.int .i64 q, .int .i64 r, .int .i64 ((r + m : Nat) : Int)], .pointer (some ⟨cb, 0, none⟩), .pointer (some ⟨ca, 0, none⟩)] w
      fun e w' => e = .returned (.int .i64 0) ∧ Blk w' cb 9 #[.string (bs (b.drop m))] ∧ ∃ F', Disk F' w' d (k.write (frm + q) (ptxt k (frm + q) r m b)) ∧ Keep (Or2 F (One cb)) w w' ∧ ∀ g, F' g → F g ∨ w.heap.size ≤ g := by
  have hsz := hD.ok.s2
  have hm2 := hD.ok.m2
  have hrl := hD.ok.read_length hs
  have HA := Lib.hid hA
  have HCA := Lib.hid hca
  have HCB := Lib.hid hcb
  have HD := Lib.hid hD
  have HBL := Lib.hid hbl
  have c0 := (hcb.alloc (.cells #[.int .i64 q, .int .i64 r, .int .i64 ((r : Int) + m)] 189)).cell 0
  have f0 := (hcb.alloc (.cells #[.int .i64 q, .int .i64 r, .int .i64 ((r : Int) + m)] 189)).frozen 0
  simp at c0
  have he1 := ext_take b m
  have he2 := ext_drop b m
  have hzb : (bs b).size = b.length := bs_size b
  generalize hx1 : bs (b.take m) = x1 at *
  generalize hx2 : bs (b.drop m) = x2 at *
  generalize hz : bs b = zb at *
  have hx1s : x1.size = m := by rw [← hx1, bs_size, List.length_take]; omega
  have HX := Lib.hid (And.intro hx1 (And.intro hx2 hz))
  have b1 : (0 : Int) ≤ m := by omega
  have b2 : (m : Int) ≤ zb.size := by omega
  have hs1 : IntKind.i64.wrap ((r : Int) + m - r) = (m : Int) := by rw [show (r : Int) + m - r = (m : Int) from by omega]; exact IntWalk.i64_in _ (by omega)
  have HH := Lib.hid (And.intro hs (And.intro hm0 (And.intro hm (And.intro hr (And.intro hp (And.intro hsz (And.intro hrl (And.intro hzb hx1s))))))))
  have b3 : (0 : Int) ≤ r := by omega
  have b4 : (r : Int) + m ≤ 1024 := by omega
  have HFC := Lib.hid hFc
  have HM2 := Lib.hid hm2
  clear hD hA hcb hca hFc hx1 hx2 hz hs hm0 hm hp hbl hsz hm2 hrl hzb hx1s
  have HW1 := Lib.hid ((HCB.out.alloc (.cells #[.int .i64 q, .int .i64 r, .int .i64 ((r : Int) + m)] 189)).set 0 (.string x2))
  have HK1 := Lib.hid (((Keep.refl (One cb) w).alloc (.cells #[.int .i64 q, .int .i64 r, .int .i64 ((r : Int) + m)] 189)).setIn rfl 0 (.string x2))
  have HP1 := Lib.hid ((Blk.new w 189 #[.int .i64 q, .int .i64 r, .int .i64 ((r : Int) + m)]).far (p := ⟨cb, 0, none⟩) (by have := HCB.out.lt; show w.heap.size ≠ cb; omega) (.string x2))
  have HCA1 := Lib.hid (HCA.out.keep HK1.out (fun hh => (HCA.out.ne HCB.out (by decide)) hh))
  have HA1 := Lib.hid (Blk.keep HA.out HK1.out (fun hh => (Blk.ne HA.out HCB.out (by decide)) hh))
  have HD1 := Lib.hid (HD.out.keep HK1.out (fun g hg hh => HFC.out (by cases hh; exact hg)))
  have c1 := HCA1.out.cell 0
  have c4 := HA1.out.cell 3
  simp at c1 c4
  obtain ⟨w1, hw1⟩ : ∃ w1, w1 = (w.alloc (.cells #[.int .i64 q, .int .i64 r, .int .i64 ((r : Int) + m)] 189)).setCell ⟨cb, 0, none⟩ (.string x2) := ⟨_, rfl⟩
  have HR := Lib.hid (fun w' (e : Ext w1 w') => (show Calls Tryz.prog 57 #[.pointer (some ⟨d, 0, none⟩), .int .i64 ((frm : Int) + q)] w' (Ret (.tuple #[.string (bs (k.read (frm + q))), .int .i64 0]) w') from by
    have h1 := HD1.out; rw [← hw1] at h1; rw [← Int.natCast_add]; exact read_any (frm + q) w' (h1.ext e) HH.out.1))
  have KW1 := Lib.hid (show Blk w1 cb 9 #[.string x2] from by rw [hw1]; exact HW1.out)
  have KK1 := Lib.hid (show Keep (One cb) w w1 from by rw [hw1]; exact HK1.out)
  have KP1 := Lib.hid (show Blk w1 w.heap.size 189 #[.int .i64 q, .int .i64 r, .int .i64 ((r : Int) + m)] from by rw [hw1]; exact HP1.out)
  have KCA1 := Lib.hid (show Blk w1 ca 109 #[.pointer (some ⟨a, 0, none⟩)] from by rw [hw1]; exact HCA1.out)
  have KA1 := Lib.hid (show Area w1 a d frm n k.size from by rw [hw1]; exact HA1.out)
  have KD1 := Lib.hid (show Disk F w1 d k from by rw [hw1]; exact HD1.out)
  have HWW := Lib.hid hw1
  have hs2 : IntKind.i64.wrap ((frm : Int) + q) = (frm : Int) + q := IntWalk.i64_in _ (by have := HH.out; have := HM2.out; omega)
  have HWR := Lib.hid (fun (F : Nat → Prop) w' (h : Disk F w' d k) (b : Bytes) (hb : b.length = k.size) => (show Calls Tryz.prog 76 #[.pointer (some ⟨d, 0, none⟩), .int .i64 ((frm : Int) + q), .string (bs b)] w' (Did F w' d (.int .i64 0) (k.write (frm + q) b)) from by
    rw [← Int.natCast_add]; exact write_any (frm + q) b w' h HH.out.1 hb HH.out.2.2.2.2.1))
  clear hw1 HW1 HK1 HP1 HCA1 HA1 HD1
  by_cases hlt : m < k.size
  · have hd : decide ((m : Int) < k.size) = true := decide_eq_true (by omega)
    generalize hzo : bs (k.read (frm + q)) = zo at *
    have HZO := Lib.hid hzo
    clear hzo
    go_enter Tryz.func119, Tryz.ntmps119
    go_wp2_with fail
    rw [← HWW.out]
    clear c0 f0 c1 c4
    have r1 := cell_regrown (show w1.cell? ⟨ca, 0, none⟩ = some (.pointer (some ⟨a, 0, none⟩)) from KCA1.out.cell 0)
    have r2 := cell_regrown (show w1.cell? ⟨a, 0, none⟩ = some (.pointer (some ⟨d, 0, none⟩)) from Blk.cell KA1.out 0)
    have r3 := cell_regrown (show w1.cell? ⟨a, 1, none⟩ = some (.int .i64 frm) from Blk.cell KA1.out 1)
    have r4 := cell_regrown (show w1.cell? ⟨w.heap.size, 0, none⟩ = some (.int .i64 q) from Blk.cell KP1.out 0)
    refine wp_region_quiet_below (by kernel_rfl) (by kernel_rfl) ?_
    repeat (quiet_step ((go_at_call 57; exact Calls.regrown_of (HR.out _ (below_regrown _ _ _)))))
    refine wpQuiet_nil ?_
    intro w2 hw2
    have HE2 := Lib.hid (regrown_ext hw2)
    clear hw2 r1 r2 r3 r4
    have p1 := (KP1.out.ext HE2.out).cell 1
    have p2 := (KP1.out.ext HE2.out).cell 2
    simp at p1 p2
    have hzs : zo.size = k.size := by rw [← HZO.out, bs_size]; exact HH.out.2.2.2.2.2.2.1
    have hy1 := ext_take (k.read (frm + q)) r
    have hy2 := ext_drop (k.read (frm + q)) (r + m)
    rw [HZO.out] at hy1 hy2
    have hl1 : (bs ((k.read (frm + q)).take r)).size = r := by rw [bs_size, List.length_take]; have := HH.out.2.2.2.2.2.2.1; have := HH.out.2.2.2.1; omega
    have hl2 : (bs ((k.read (frm + q)).drop (r + m))).size = k.size - (r + m) := by rw [bs_size, List.length_drop]; have := HH.out.2.2.2.2.2.2.1; omega
    generalize hY1 : bs ((k.read (frm + q)).take r) = y1 at *
    generalize hY2 : bs ((k.read (frm + q)).drop (r + m)) = y2 at *
    have HY := Lib.hid (And.intro hY1 (And.intro hY2 (And.intro hl1 hl2)))
    have g1 : (r : Int) ≤ zo.size := by have := HH.out.2.2.2.1; omega
    have g2 : (r : Int) + m ≤ zo.size := by have := HH.out.2.2.2.1; omega
    have g3 : (0 : Int) ≤ (r : Int) + m := by omega
    have g4 : ((r : Int) + m).toNat = r + m := by omega
    have g5 : ¬ 9223372036854775807 < y1.size + x1.size := by have := HH.out; omega
    have g6 : ¬ 9223372036854775807 < y1.size + x1.size + y2.size := by have := HH.out; omega
    clear hY1 hY2 hl1 hl2 hzs
    go_wp2_with fail
    go_quiet (fail)
    obtain ⟨w3, hw3⟩ : ∃ w3, w3 = w2.drewN nq := ⟨_, rfl⟩
    rw [← hw3]
    have HE3 := Lib.hid (show Ext w1 w3 from by rw [hw3]; exact HE2.out.drewN _)
    skip
    clear hw3 p1 p2 hy1 hy2 g1 g2 g3 g4 g5 g6 he1 he2 b2
    have c1 := (KCA1.out.ext HE3.out).cell 0
    have c2 := (Blk.ext KA1.out HE3.out).cell 0
    have c3 := (Blk.ext KA1.out HE3.out).cell 1
    have c4 := (KP1.out.ext HE3.out).cell 0
    simp at c1 c2 c3 c4
    go_wp2_with fail
    go_still_tail 12, (by kernel_rfl)
    clear c1 c2 c3 c4
    have HT := Lib.hid (show y1 ++ x1 ++ y2 = bs (ptxt k (frm + q) r m b) from by
      unfold ptxt; rw [if_pos hlt, ← bs_append, ← bs_append, HY.out.1, HY.out.2.1, HX.out.1])
    have HTL := Lib.hid (show (ptxt k (frm + q) r m b).length = k.size from by
      have h := HH.out
      unfold ptxt
      split <;> simp <;> omega)
    go_wp2_with (go_at_call 76; rw [HT.out]; refine (HWR.out F _ ((KD1.out.ext HE3.out).ext ((Ext.refl _).drew)) _ HTL.out).mono ?_; rintro e w4 ⟨rfl, F', hD4, hM4⟩; have HD4 := Lib.hid hD4; have HM4 := Lib.hid (hM4.pre ((HE3.out).drew)); clear hD4 hM4)
    go_ret
    have hlt1 := KW1.out.lt
    refine ⟨rfl, ?_, F', HD4.out, ?_, ?_⟩
    · exact KW1.out.keep HM4.out.1 HFC.out
    · exact (KK1.out.mono (fun i _ hi => Or.inr hi)).trans (HM4.out.1.mono (fun i _ hi => Or.inl hi))
    · intro g hg
      rcases HM4.out.2 g hg with h | h
      · exact .inl h
      · exact .inr (Nat.le_trans KK1.out.size h)
  · have hd : decide ((m : Int) < k.size) = false := decide_eq_false (by omega)
    go_enter Tryz.func119, Tryz.ntmps119
    go_wp2_with fail
    rw [← HWW.out]
    clear c0 f0 c1 c4
    obtain ⟨w3, hw3⟩ : ∃ w3, w3 = w1 := ⟨_, rfl⟩
    rw [← hw3]
    have HE3 := Lib.hid (show Ext w1 w3 from by rw [hw3]; exact Ext.refl _)
    skip
    clear hw3 he1 he2 b2
    have c1 := (KCA1.out.ext HE3.out).cell 0
    have c2 := (Blk.ext KA1.out HE3.out).cell 0
    have c3 := (Blk.ext KA1.out HE3.out).cell 1
    have c4 := (KP1.out.ext HE3.out).cell 0
    simp at c1 c2 c3 c4
    go_wp2_with fail
    go_still_tail 12, (by kernel_rfl)
    clear c1 c2 c3 c4
    have HT := Lib.hid (show x1 = bs (ptxt k (frm + q) r m b) from by
      unfold ptxt; rw [if_neg hlt, HX.out.1])
    have HTL := Lib.hid (show (ptxt k (frm + q) r m b).length = k.size from by
      have h := HH.out
      unfold ptxt
      split <;> simp <;> omega)
    go_wp2_with (go_at_call 76; rw [HT.out]; refine (HWR.out F _ ((KD1.out.ext HE3.out).ext ((Ext.refl _).drew)) _ HTL.out).mono ?_; rintro e w4 ⟨rfl, F', hD4, hM4⟩; have HD4 := Lib.hid hD4; have HM4 := Lib.hid (hM4.pre ((HE3.out).drew)); clear hD4 hM4)
    go_ret
    have hlt1 := KW1.out.lt
    refine ⟨rfl, ?_, F', HD4.out, ?_, ?_⟩
    · exact KW1.out.keep HM4.out.1 HFC.out
    · exact (KK1.out.mono (fun i _ hi => Or.inr hi)).trans (HM4.out.1.mono (fun i _ hi => Or.inl hi))
    · intro g hg
      rcases HM4.out.2 g hg with h | h
      · exact .inl h
      · exact .inr (Nat.le_trans KK1.out.size h)
end Go.Proofs.YtnkebhlkhpgghaaGreatDoor
/- area.through as Put calls it, and area.Put: the walks. -/
namespace Go.Proofs.YtnkebhlkhpgghaaGreatDoor
open Go Go.RowKit Go.Deep Go.Sort

/-- What stands while bytes are put: w0 the world in which Put began, the blocks F' and the disk k now, at_ and b what is left; adv how far the span is ahead. -/
structure PutSt (w0 : World) (F : Nat → Prop) (d a frm n cb ca g : Nat) (k0 : Dk) (at0 : Nat) (b0 : Bytes) (wr : World) (F' : Nat → Prop) (k : Dk) (at_ : Nat) (b : Bytes) (adv : Nat) : Prop where
  disk : Disk F' wr d k
  size : k.size = k0.size
  many : k.many = k0.many
  put : k.put frm at_ b = k0.put frm at0 b0
  pend : k.pend.length + b.length ≤ k0.pend.length + b0.length
  fits : at_ + b.length ≤ n * k0.size
  area : Area wr a d frm n k0.size
  bcb : Blk wr cb 9 #[.string (bs b)]
  bca : Blk wr ca 109 #[.pointer (some ⟨a, 0, none⟩)]
  bg : Blk wr g 204 #[.int .i64 ((at_ + adv : Nat) : Int), .int .i64 ((at_ + b.length : Nat) : Int), .int .i64 k0.size]
  fa : ¬ F' a
  fcb : ¬ F' cb
  fca : ¬ F' ca
  fg : ¬ F' g
  ncb : w0.heap.size ≤ cb
  nca : w0.heap.size ≤ ca
  ng : w0.heap.size ≤ g
  keep : Keep F w0 wr
  sub : ∀ x, F' x → F x ∨ w0.heap.size ≤ x
section
variable {w0 wr wr' : World} {F F' : Nat → Prop} {d a frm n cb ca g : Nat} {k0 k : Dk} {at0 at_ : Nat} {b0 b : Bytes} {adv : Nat}
theorem PutSt.ext (h : PutSt w0 F d a frm n cb ca g k0 at0 b0 wr F' k at_ b adv) (e : Ext wr wr') : PutSt w0 F d a frm n cb ca g k0 at0 b0 wr' F' k at_ b adv :=
  ⟨h.disk.ext e, h.size, h.many, h.put, h.pend, h.fits, Blk.ext h.area e, h.bcb.ext e, h.bca.ext e, h.bg.ext e, h.fa, h.fcb, h.fca, h.fg, h.ncb, h.nca, h.ng, h.keep.trans (Keep.of_ext e), h.sub⟩
/-- A store into a piece. -/
theorem PutSt.var (h : PutSt w0 F d a frm n cb ca g k0 at0 b0 wr F' k at_ b adv) {p : Nat} {cs : Array Value} (hp : Blk wr p 189 cs) (hF : ¬ F' p) (hn : w0.heap.size ≤ p) (e : Keep (One p) wr wr') : PutSt w0 F d a frm n cb ca g k0 at0 b0 wr' F' k at_ b adv :=
  ⟨h.disk.keep e (fun x hx hh => hF (by cases hh; exact hx)), h.size, h.many, h.put, h.pend, h.fits, Blk.keep h.area e (fun hh => (Blk.ne h.area hp (by decide)) hh), h.bcb.keep e (fun hh => (h.bcb.ne hp (by decide)) hh), h.bca.keep e (fun hh => (h.bca.ne hp (by decide)) hh), h.bg.keep e (fun hh => (h.bg.ne hp (by decide)) hh), h.fa, h.fcb, h.fca, h.fg, h.ncb, h.nca, h.ng, h.keep.then e (fun i hi => .inr (by cases hi; exact hn)), h.sub⟩
/-- The span goes on. -/
theorem PutSt.next (h : PutSt w0 F d a frm n cb ca g k0 at0 b0 wr F' k at_ b adv) {adv' : Nat} (e : Keep (One g) wr wr') (hg : Blk wr' g 204 #[.int .i64 ((at_ + adv' : Nat) : Int), .int .i64 ((at_ + b.length : Nat) : Int), .int .i64 k0.size]) : PutSt w0 F d a frm n cb ca g k0 at0 b0 wr' F' k at_ b adv' :=
  ⟨h.disk.keep e (fun x hx hh => h.fg (by cases hh; exact hx)), h.size, h.many, h.put, h.pend, h.fits, Blk.keep h.area e (fun hh => (Blk.ne h.area h.bg (by decide)) hh), h.bcb.keep e (fun hh => (h.bcb.ne h.bg (by decide)) hh), h.bca.keep e (fun hh => (h.bca.ne h.bg (by decide)) hh), hg, h.fa, h.fcb, h.fca, h.fg, h.ncb, h.nca, h.ng, h.keep.then e (fun i hi => .inr (by cases hi; exact h.ng)), h.sub⟩
/-- A piece is put. -/
theorem PutSt.put1 {m : Nat} (h : PutSt w0 F d a frm n cb ca g k0 at0 b0 wr F' k at_ b m) (hb : b ≠ []) (hm : m = min (k0.size - at_ % k0.size) b.length) {F'' : Nat → Prop} (hB : Blk wr' cb 9 #[.string (bs (b.drop m))])
    (hD : Disk F'' wr' d (k.write (frm + at_ / k0.size) (ptxt k (frm + at_ / k0.size) (at_ % k0.size) m b))) (e : Keep (Or2 F' (One cb)) wr wr') (hs : ∀ x, F'' x → F' x ∨ wr.heap.size ≤ x) :
    PutSt w0 F d a frm n cb ca g k0 at0 b0 wr' F'' (k.write (frm + at_ / k0.size) (ptxt k (frm + at_ / k0.size) (at_ % k0.size) m b)) (at_ + m) (b.drop m) 0 := by
  have hbl : 0 < b.length := List.length_pos_iff.2 hb
  have hz0 : 0 < k0.size := by have := h.disk.ok.s1; rw [h.size] at this; omega
  have hmod := Nat.mod_lt at_ hz0
  have hp : ptxt k (frm + at_ / k0.size) (at_ % k0.size) m b = piece k frm at_ b := by
    subst hm; unfold ptxt piece; rw [h.size]
  have no : ∀ {x : Nat} {t : TypeId} {cs : Array Value}, Blk wr x t cs → ¬ F' x → t ≠ 9 → ¬ Or2 F' (One cb) x := fun hx hF ht hh => hh.elim hF (fun hh => hx.ne h.bcb ht hh)
  have no2 : ∀ {x : Nat}, ¬ F' x → x < wr.heap.size → ¬ F'' x := fun hF hl hh => (hs _ hh).elim hF (fun h' => by omega)
  refine ⟨hD, h.size, h.many, ?_, ?_, ?_, Blk.keep h.area e (no h.area h.fa (by decide)), hB, h.bca.keep e (no h.bca h.fca (by decide)), ?_, no2 h.fa (Blk.lt h.area), no2 h.fcb h.bcb.lt, no2 h.fca h.bca.lt, no2 h.fg h.bg.lt, h.ncb, h.nca, h.ng, ?_, ?_⟩
  · rw [hp, ← h.put, put_step k frm at_ b (by rw [h.size]; exact hz0) hb, h.size, hm]
  · have := h.pend
    simp only [Dk.write, List.length_append, List.length_singleton, List.length_drop]
    omega
  · have := h.fits
    simp only [List.length_drop]
    omega
  · have := h.bg.keep e (no h.bg h.fg (by decide))
    have e1 : at_ + m + (b.drop m).length = at_ + b.length := by simp only [List.length_drop]; omega
    rw [e1, Nat.add_zero]
    exact this
  · exact h.keep.then e (fun i hi => hi.elim (fun h' => h.sub i h') (fun h' => .inr (by cases h'; exact h.ncb)))
  · intro x hx
    rcases hs x hx with h' | h'
    · exact h.sub x h'
    · exact .inr (Nat.le_trans h.keep.size h')
end
def advOf (z at_ : Nat) (b : Bytes) : Nat := if b = [] then 0 else min (z - at_ % z) b.length
def pieceOf (z at_ : Nat) (b : Bytes) : List Value := if b = [] then [.int .i64 0, .int .i64 0, .int .i64 0] else [.int .i64 ((at_ / z : Nat) : Int), .int .i64 ((at_ % z : Nat) : Int), .int .i64 ((at_ % z + advOf z at_ b : Nat) : Int)]
theorem pieceOf_one (z at_ : Nat) (b : Bytes) : ∀ v ∈ pieceOf z at_ b, v.oneCell' = true := by
  intro v hv; unfold pieceOf at hv; split at hv <;> (simp at hv; rcases hv with rfl | rfl | rfl <;> rfl)
theorem pieceOf_length (z at_ : Nat) (b : Bytes) : (pieceOf z at_ b).length = 3 := by unfold pieceOf; split <;> rfl
/-- next, whatever is left. -/
theorem next_put {w0 wr : World} {F F' : Nat → Prop} {d a frm n cb ca g : Nat} {k0 k : Dk} {at0 at_ : Nat} {b0 b : Bytes} (h : PutSt w0 F d a frm n cb ca g k0 at0 b0 wr F' k at_ b 0) (hn : n * k0.size ≤ 4194304) :
    Calls Tryz.prog 118 #[.pointer (some ⟨g, 0, none⟩)] wr fun e w' => e = .returned (.tuple #[.agg (pieceOf k0.size at_ b).toArray, .bool (!b.isEmpty)]) ∧ PutSt w0 F d a frm n cb ca g k0 at0 b0 w' F' k at_ b (advOf k0.size at_ b) ∧ Keep (One g) wr w' := by
  have hz0 : 0 < k0.size := by have := h.disk.ok.s1; rw [h.size] at this; omega
  have hz1 : k0.size ≤ 1024 := by have := h.disk.ok.s2; rw [h.size] at this; omega
  by_cases hb : b = []
  · subst hb
    have hB := h.bg
    simp only [Nat.add_zero, List.length_nil] at hB
    refine (nextNo_any (z := k0.size) at_ wr hB).mono ?_
    rintro e w' ⟨rfl, hE⟩
    exact ⟨by simp [pieceOf], by have := h.ext hE; simpa [advOf] using this, Keep.of_ext hE⟩
  · have hbl : 0 < b.length := List.length_pos_iff.2 hb
    have hB := h.bg
    simp only [Nat.add_zero] at hB
    have hf := h.fits
    refine (nextYes_any (z := k0.size) at_ (advOf k0.size at_ b) b.length wr hB hbl hz0 hz1 (by omega) (by simp [advOf, hb])).mono ?_
    rintro e w' ⟨rfl, hB', hK⟩
    refine ⟨?_, h.next hK hB', hK⟩
    have hbe : b.isEmpty = false := by cases b; exact absurd rfl hb; rfl
    simp [pieceOf, hb, hbe]

def leftOf (cb : Nat) (wr : World) : Nat := match wr.cell? ⟨cb, 0, none⟩ with | some (.string z) => z.size | _ => 0
theorem leftOf_eq {wr : World} {cb : Nat} {b : Bytes} (h : Blk wr cb 9 #[.string (bs b)]) : leftOf cb wr = b.length := by
  unfold leftOf; rw [show wr.cell? ⟨cb, 0, none⟩ = some (.string (bs b)) from h.cell 0]; simp
set_option maxRecDepth 8000 in
set_option maxHeartbeats 1600000 in
theorem through_put {w0 w : World} {F F' : Nat → Prop} {d a frm n cb ca g : Nat} {k0 k : Dk} {at0 : Nat} {b0 : Bytes} (h : PutSt w0 F d a frm n cb ca g k0 at0 b0 w F' k at0 b0 0) (hn : n * k0.size ≤ 4194304) (hm : frm + n ≤ k0.many) (hp : k0.pend.length + b0.length ≤ 1000000) :
    Calls Tryz.prog 117 #[.func (.func 118) #[.pointer (some ⟨g, 0, none⟩)] #[], .func (.func 119) #[] #[.pointer (some ⟨cb, 0, none⟩), .pointer (some ⟨ca, 0, none⟩)]] w
      fun e w' => e = .returned (.int .i64 0) ∧ ∃ F', Disk F' w' d (k0.put frm at0 b0) ∧ Keep F w0 w' ∧ ∀ x, F' x → F x ∨ w0.heap.size ≤ x := by
  have HH := Lib.hid h
  have HN := Lib.hid (And.intro hn (And.intro hm hp))
  have HI : (Tryz.prog.info? 189).map (·.size) = some 3 := by kernel_rfl
  have HHI := Lib.hid HI
  clear h hn hm hp HI
  go_enter Tryz.func117, Tryz.ntmps117
  go_wp2_with (first | (go_at_call 118; refine (next_put HH.out HN.out.1).mono ?_; rintro e w1 ⟨rfl, hS1, hK1⟩; have HS1 := Lib.hid hS1; clear hS1 hK1) | (refine wpList_store_blk rfl 189 (.tmp 5) (.tmp 11) rfl w1.heap.size 189 [.int .i64 0, .int .i64 0, .int .i64 0] (pieceOf k0.size at0 b0) rfl rfl (Blk.new _ _ _) (pieceOf_length _ _ _).symm (by rw [pieceOf_length]; exact HHI.out) (pieceOf_one _ _ _) ?_; intro w2 hB2 hK2; have HB2 := Lib.hid hB2; have HK2 := Lib.hid hK2; clear hB2 hK2))
  have hs1 := HS1.out.disk.sz
  have hE1 : w0.heap.size ≤ w1.heap.size := HS1.out.keep.size
  have HS2 := Lib.hid ((HS1.out.ext ((Ext.refl w1).alloc (.cells #[.int .i64 0, .int .i64 0, .int .i64 0] 189))).var (Blk.new _ _ _) (fun hh => by have := hs1 _ hh; omega) hE1 HK2.out)
  have HQ := Lib.hid (show (¬ F' w1.heap.size) ∧ w0.heap.size ≤ w1.heap.size from ⟨fun hh => by have := hs1 _ hh; omega, hE1⟩)
  clear hs1 hE1
  generalize w1.heap.size = p1 at *
  obtain ⟨c1, hc1⟩ : ∃ c1, c1 = !b0.isEmpty := ⟨_, rfl⟩
  rw [← hc1]
  have HC1 := Lib.hid hc1
  clear hc1
  go_loopw [5, 6] (fun t5 t6 wr => ∃ (p at_ : Nat) (b : Bytes) (F' : Nat → Prop) (k : Dk) (c : Bool), t5 = .pointer (some ⟨p, 0, none⟩) ∧ t6 = .bool c ∧ Hid (c = !b.isEmpty) ∧ PutSt w0 F d a frm n cb ca g k0 at0 b0 wr F' k at_ b (advOf k0.size at_ b) ∧ Blk wr p 189 (pieceOf k0.size at_ b).toArray ∧ ¬ F' p ∧ w0.heap.size ≤ p) (fun _ _ wr => leftOf cb wr)
  case atStart => exact ⟨p1, at0, b0, F', k, c1, rfl, rfl, HC1, HS2.out, HB2.out, HQ.out.1, HQ.out.2⟩
  case round =>
    clear HS1 HK2 HB2 HS2 HQ HC1
    obtain ⟨p, at_, b, F2, k2, c, rfl, rfl, HC, hS, hB, hF, hp0⟩ := hrel
    have HS := Lib.hid hS
    have HF := Lib.hid (And.intro hF hp0)
    cases c with
    | false =>
      have hb : b = [] := by have := HC.out; cases b with | nil => rfl | cons x l => simp at this
      clear hS hB hF hp0
      go_wp2_with fail
      go_ret
      subst hb
      have h1 := HS.out.put
      rw [put_nil] at h1
      refine ⟨rfl, F2, ?_, HS.out.keep, HS.out.sub⟩
      rw [← h1]
      exact HS.out.disk
    | true =>
      have hb : b ≠ [] := by rintro rfl; have := HC.out; simp at this
      have hbl : 0 < b.length := List.length_pos_iff.2 hb
      have hpc : pieceOf k0.size at_ b = [.int .i64 ((at_ / k0.size : Nat) : Int), .int .i64 ((at_ % k0.size : Nat) : Int), .int .i64 ((at_ % k0.size + advOf k0.size at_ b : Nat) : Int)] := by unfold pieceOf; rw [if_neg hb]
      rw [hpc] at hB
      have hadv : advOf k0.size at_ b = min (k0.size - at_ % k0.size) b.length := by unfold advOf; rw [if_neg hb]
      have hz0 : 0 < k0.size := by have := hS.disk.ok.s1; rw [hS.size] at this; omega
      have hmod := Nat.mod_lt at_ hz0
      have hfit := hS.fits
      have hq : at_ / k0.size < n := by rw [Nat.div_lt_iff_lt_mul hz0]; omega
      have HX := Lib.hid (And.intro hadv (And.intro hmod (And.intro hq (And.intro hb hbl))))
      have HB := Lib.hid hB
      clear hS hB hF hp0 hb hbl hpc hadv hz0 hmod hfit hq
      generalize hqe : at_ / k0.size = q at *
      generalize hre : at_ % k0.size = r at *
      generalize hme : advOf k0.size at_ b = m at *
      have HE := Lib.hid (And.intro hqe (And.intro hre hme))
      clear hqe hre hme
      have HPUT : Hid (Calls Tryz.prog 119 #[.agg #[.int .i64 q, .int .i64 r, .int .i64 ((r + m : Nat) : Int)], .pointer (some ⟨cb, 0, none⟩), .pointer (some ⟨ca, 0, none⟩)] wr
          fun e w' => e = .returned (.int .i64 0) ∧ ∃ F'' k', PutSt w0 F d a frm n cb ca g k0 at0 b0 w' F'' k' (at_ + m) (b.drop m) 0 ∧ ¬ F'' p ∧ Keep (Or2 F2 (One cb)) wr w') := by
        refine Lib.hid ?_
        have hS := HS.out
        have hx := HX.out
        have hp1 := hS.pend
        have hp2 := HN.out.2.2
        have hA := hS.area
        rw [← hS.size] at hA
        refine (aput1_any q r m b wr hS.disk hA hS.bcb hS.bca hS.fcb (by rw [hS.many]; have := HN.out.2.1; omega) (by omega) (by omega) (by rw [hS.size]; omega) (by omega) (by omega)).mono ?_
        rintro e w' ⟨rfl, hB', F'', hD', hK', hs'⟩
        have he := HE.out
        refine ⟨rfl, F'', k2.write (frm + q) (ptxt k2 (frm + q) r m b), ?_, fun hh => ?_, hK'⟩
        · obtain ⟨rfl, rfl, rfl⟩ := he
          exact hS.put1 hx.2.2.2.1 (by have := hx.1; exact this) hB' hD' hK' hs'
        · rcases hs' _ hh with h' | h'
          · exact HF.out.1 h'
          · have := HB.out.lt; omega
      go_wp2_with (first | (refine wpList_load_blk rfl 189 (.tmp 5) rfl p 189 [.int .i64 q, .int .i64 r, .int .i64 ((r + m : Nat) : Int)] rfl HB.out _ Tryz.underlying189 rfl HHI.out ?_) | (have hg := HB2; refine wpList_load_blk rfl 189 (.tmp 5) rfl p 189 [.int .i64 q, .int .i64 r, .int .i64 ((r + m : Nat) : Int)] rfl HB2.out _ Tryz.underlying189 rfl HHI.out ?_) | (go_at_call 119; refine HPUT.out.mono ?_; rintro e w2 ⟨rfl, F3, k3, hS2, hF2, hK2⟩; have HS2 := Lib.hid hS2; have HF2 := Lib.hid (And.intro hF2 hK2); have HB2 := Lib.hid (HB.out.keep hK2 (fun hh => hh.elim HF.out.1 (fun h' => (HB.out.ne HS.out.bcb (by decide)) h'))); clear hS2 hF2 hK2) | (have hg := HB2; refine wpList_store_blk rfl 189 (.tmp 5) (.tmp 25) rfl w2.heap.size 189 [.int .i64 0, .int .i64 0, .int .i64 0] [.int .i64 q, .int .i64 r, .int .i64 ((r + m : Nat) : Int)] rfl rfl (Blk.new _ _ _) rfl HHI.out (by intro u hu; simp at hu; rcases hu with rfl | rfl | rfl <;> rfl) ?_; intro w3 hB3 hK3; have HP3 := Lib.hid hB3; have HK3 := Lib.hid hK3; clear hB3 hK3))
      have hs2 := HS2.out.disk.sz
      have hE2 : w0.heap.size ≤ w2.heap.size := HS2.out.keep.size
      have HQ2 := Lib.hid (show (¬ F3 w2.heap.size) ∧ w0.heap.size ≤ w2.heap.size from ⟨fun hh => by have := hs2 _ hh; omega, hE2⟩)
      have HS3 := Lib.hid ((HS2.out.ext ((Ext.refl w2).alloc (.cells #[.int .i64 0, .int .i64 0, .int .i64 0] 189))).var (Blk.new _ _ _) HQ2.out.1 HQ2.out.2 HK3.out)
      clear hs2 hE2
      refine (next_put HS3.out HN.out.1).mono ?_
      rintro e w4 ⟨rfl, hS4, hK4⟩
      have HS4 := Lib.hid hS4
      have HP4 := Lib.hid (HP3.out.keep hK4 (fun hh => (HP3.out.ne HS3.out.bg (by decide)) hh))
      clear hS4 hK4
      obtain ⟨c1, hc1⟩ : ∃ c1, c1 = !(b.drop m).isEmpty := ⟨_, rfl⟩
      rw [← hc1]
      have HC1 := Lib.hid hc1
      clear hc1
      go_wp2_with (refine wpList_store_blk rfl 189 (.tmp 5) (.tmp 17) rfl w2.heap.size 189 [.int .i64 q, .int .i64 r, .int .i64 ((r + m : Nat) : Int)] (pieceOf k0.size (at_ + m) (b.drop m)) rfl rfl HP4.out (pieceOf_length _ _ _).symm (by rw [pieceOf_length]; exact HHI.out) (pieceOf_one _ _ _) ?_; intro w5 hB5 hK5; have HB5 := Lib.hid hB5; have HK5 := Lib.hid hK5; clear hB5 hK5)
      have HS5 := Lib.hid (HS4.out.var HP4.out HQ2.out.1 HQ2.out.2 HK5.out)
      go_roundw
      case rel => exact ⟨w2.heap.size, at_ + m, b.drop m, F3, k3, c1, rfl, rfl, HC1, HS5.out, HB5.out, HQ2.out.1, HQ2.out.2⟩
      case measure =>
        rw [leftOf_eq HS5.out.bcb, leftOf_eq HS.out.bcb, List.length_drop]
        have := HX.out
        omega

set_option maxRecDepth 8000 in
set_option maxHeartbeats 800000 in
theorem areaPut_any {F : Nat → Prop} {d a frm n : Nat} {k : Dk} (at_ : Nat) (b : Bytes) (w : World) (hD : Disk F w d k) (hA : Area w a d frm n k.size) (hFa : ¬ F a) (hm : frm + n ≤ k.many) (hfit : at_ + b.length ≤ n * k.size) (hp : k.pend.length + b.length ≤ 1000000) :
    Calls Tryz.prog 97 #[.pointer (some ⟨a, 0, none⟩), .int .i64 at_, .string (bs b)] w (Did F w d (.int .i64 0) (k.put frm at_ b)) := by
  have hn : n * k.size ≤ 4096 * 1024 := Nat.mul_le_mul (by have := hD.ok.m2; omega) hD.ok.s2
  obtain ⟨w1, hw1⟩ : ∃ w1, w1 = (w.alloc (.cells #[.pointer (some ⟨a, 0, none⟩)] 109)).alloc (.cells #[.string (bs b)] 9) := ⟨_, rfl⟩
  have HE1 := Lib.hid (show Ext w w1 from by rw [hw1]; exact ((Ext.refl w).alloc _).alloc _)
  have HA1 := Lib.hid (show Blk w1 w.heap.size 109 #[.pointer (some ⟨a, 0, none⟩)] from by rw [hw1]; exact (Blk.new _ _ _).alloc _)
  have HB1 := Lib.hid (show Blk w1 (w.heap.size + 1) 9 #[.string (bs b)] from by rw [hw1]; exact Blk.new' (by simp))
  have HSP := Lib.hid (span_any at_ b.length w1 (Blk.ext hA HE1.out) (by omega) hfit)
  have HH := Lib.hid (And.intro hD (And.intro hA (And.intro hFa (And.intro hm (And.intro hfit (And.intro hp hn))))))
  have HW := Lib.hid hw1
  have c0 := HA1.out.cell 0
  have c1 := HB1.out.cell 0
  rw [hw1] at c0 c1
  simp at c0 c1
  clear hD hA hFa hm hfit hp hn hw1
  have hsz : (bs b).size = b.length := bs_size b
  generalize hzb : bs b = zb at *
  have HZ := Lib.hid hzb
  clear hzb
  go_enter Tryz.func97, Tryz.ntmps97
  go_wp2_with fail
  rw [← HW.out]
  refine HSP.out.mono ?_
  rintro e w2 ⟨g, rfl, hBg, hE2, hg⟩
  have HS : Hid (PutSt w F d a frm n (w.heap.size + 1) w.heap.size g k at_ b w2 F k at_ b 0) := by
    have hh := HH.out
    have hsz := hh.1.sz
    have e2 := HE1.out.trans hE2
    have hsize := HE1.out.size
    refine Lib.hid ⟨hh.1.ext e2, rfl, rfl, rfl, Nat.le_refl _, hh.2.2.2.2.1, Blk.ext hh.2.1 e2, ?_, HA1.out.ext hE2, ?_, hh.2.2.1, fun h => by have := hsz _ h; omega, fun h => by have := hsz _ h; omega, fun h => by have := hsz _ h; omega, by omega, by omega, by omega, Keep.of_ext e2, fun x hx => .inl hx⟩
    · have h1 := HB1.out.ext hE2; rw [HZ.out]; exact h1
    · exact hBg
  clear hBg hE2 hg c0 c1
  go_wp2_with (go_at_call 117; refine (through_put HS.out (by have := HH.out.2.2.2.2.2.2; omega) HH.out.2.2.2.1 HH.out.2.2.2.2.2.1).mono ?_; rintro e w3 ⟨rfl, F', hD3, hK3, hs3⟩; have HD3 := Lib.hid (show Disk F' w3 d (k.put frm at_ b) ∧ Moves F w F' w3 from ⟨hD3, hK3, hs3⟩); clear hD3 hK3 hs3)
  go_ret
  exact ⟨rfl, F', HD3.out⟩
end Go.Proofs.YtnkebhlkhpgghaaGreatDoor
/- strings.Builder: WriteString and String, of a builder of the call's own: the walks. -/
namespace Go.Proofs.YtnkebhlkhpgghaaGreatDoor
open Go Go.RowKit Go.Deep

/-- Block b is a builder that holds l; it and its row lie from G on. -/
def Bu (w : World) (G b : Nat) (l : Bytes) : Prop := ∃ (p : Option Addr) (A : Option Addr) (c : Nat), (p = none ∨ p = some ⟨b, 0, none⟩) ∧ Blk w b 166 #[.pointer p, .slice A l.length c] ∧ w.ownsRow G 5 1 (.slice A l.length c) l.length (bcells l) ∧ G ≤ b
theorem Bu.ext {w w' : World} {G b : Nat} {l : Bytes} (h : Bu w G b l) (e : Ext w w') : Bu w' G b l := by
  obtain ⟨p, A, c, hp, hB, hO, hG⟩ := h; exact ⟨p, A, c, hp, hB.ext e, own_ext hO e, hG⟩
theorem Bu.new (w : World) (G : Nat) (hG : G ≤ w.heap.size) : Bu (w.alloc (.cells #[.pointer none, .slice none 0 0] 166)) G w.heap.size [] :=
  ⟨none, none, 0, .inl rfl, Blk.new _ _ _, own_none _ _ _ _, hG⟩

set_option maxRecDepth 8000 in
set_option maxHeartbeats 800000 in
theorem copyCheck_any {p : Option Addr} {v : Value} (b : Nat) (w : World) (hp : p = none ∨ p = some ⟨b, 0, none⟩) (hB : Blk w b 166 #[.pointer p, v]) : Calls Tryz.prog 126 #[.pointer (some ⟨b, 0, none⟩)] w fun e w' => e = .returned (.tuple #[]) ∧ Blk w' b 166 #[.pointer (some ⟨b, 0, none⟩), v] ∧ Keep (One b) w w' := by
  have c0 := hB.cell 0
  have f0 := hB.frozen 0
  simp at c0
  have HB := Lib.hid hB
  have HB1 := Lib.hid (hB.set 0 (.pointer (some ⟨b, 0, none⟩)))
  have hsh : w.shape? b = some (166, 2) := by unfold Blk at hB; simp [World.shape?, hB]
  obtain ⟨j, hj, hj2⟩ := Option.map_eq_some_iff.1 (show (Tryz.prog.info? 166).map (·.size) = some 2 from by kernel_rfl)
  have hto := Lib.run_to_unsafe (P := Tryz.prog) (src := 164) (dst := 207) w ⟨b, 0, none⟩ Tryz.underlying164 Tryz.underlying207 hj (by rw [hj2]; decide) hsh (Nat.succ_pos 1)
  have hfrom := Lib.run_from_unsafe (P := Tryz.prog) (src := 207) (dst := 164) w ⟨b, 0, none⟩ Tryz.underlying207 Tryz.underlying164 hj hsh (by kernel_rfl)
  have hneq := Lib.run_neq_ptr_same (P := Tryz.prog) (tp := 164) w ⟨b, 0, none⟩ Tryz.underlying164 hj
  have hesc : (callFunc 133 #[.pointer (some ⟨b, 0, none⟩)]).run Tryz.prog w = .ok (.value (.pointer (some ⟨b, 0, none⟩))) w := by
    rw [run_callFunc_extern (P := Tryz.prog) (e := Extern.AbiNoEscape.same) Tryz.func133 (by kernel_rfl) (by kernel_rfl) (by kernel_rfl) (by kernel_rfl)]
    rfl
  clear hB hsh hj hj2
  rcases hp with rfl | rfl
  · go_enter Tryz.func126, Tryz.ntmps126
    go_wp2_with fail
    exact bodyPost_end (results_none rfl _ _ _) rfl ⟨rfl, HB1.out, (Keep.refl (One b) w).setIn rfl _ _⟩
  · go_enter Tryz.func126, Tryz.ntmps126
    go_wp2_with fail
    exact bodyPost_end (results_none rfl _ _ _) rfl ⟨rfl, HB.out, Keep.refl _ _⟩

set_option maxRecDepth 8000 in
set_option maxHeartbeats 800000 in
theorem writeStr_any {G b : Nat} {l : Bytes} (s : Bytes) (w : World) (h : Bu w G b l) (hl : l.length + s.length ≤ 1000000000) : Calls Tryz.prog 104 #[.pointer (some ⟨b, 0, none⟩), .string (bs s)] w
    fun e w' => e = .returned (.tuple #[.int .i64 s.length, .nilIface]) ∧ Bu w' G b (l ++ s) ∧ Keep (From G) w w' := by
  obtain ⟨p, A, c, hp, hB, hO, hG⟩ := h
  have HC := Lib.hid (copyCheck_any b w hp hB)
  have HB := Lib.hid hB
  have HO := Lib.hid hO
  have HL := Lib.hid hl
  have hsz : (bs s).size = s.length := bs_size s
  have HNE := Lib.hid (own_other hO hB (by decide))
  clear hp hB hO hl
  generalize hz : bs s = z at *
  have HZ := Lib.hid hz
  clear hz
  generalize hn : l.length = n at *
  have HN := Lib.hid hn
  clear hn
  go_enter Tryz.func104, Tryz.ntmps104
  go_wp2_with (first | (go_at_call 126; refine HC.out.mono ?_; rintro e w1 ⟨rfl, hB1, hK1⟩; have HO1 := Lib.hid (own_keep HO.out hK1 (fun g hg hh => HNE.out g hg hh)); have c1 := hB1.cell 1; simp at c1; have HB1 := Lib.hid hB1; have HK1 := Lib.hid hK1; clear hB1 hK1) | (at_builtin; go_loud (refine wpList_appendL G rfl (.tmp 12) (.tmp 13) 62 9 5 rfl Tryz.underlying62 Tryz.underlying9 info_u8 (.slice A n c) n l s rfl z rfl HZ.out.symm HO1.out HN.out.symm (by have := HB1.out.lt; omega) (by have := HL.out; omega) ?_; intro A2 c2 n2 w2 hn2 hO2 hK2; have hne2 := own_other HO1.out HB1.out (by decide); have HB2 := Lib.hid (HB1.out.keep hK2 (fun hh => hne2 b hh rfl)); have f1 := HB2.out.frozen 1; clear c1; have c1 := HB2.out.cell 1; simp at c1; have HR := Lib.hid (And.intro hn2 (And.intro hO2 hK2)); clear hn2 hO2 hK2 hne2)))
  go_ret2
  obtain ⟨hn2, hO2, hK2⟩ := HR.out
  subst hn2
  refine ⟨rfl, ⟨some ⟨b, 0, none⟩, A2, c2, .inr rfl, HB2.out.set 1 _, own_keep hO2 ((Keep.refl (One b) w2).setIn rfl 1 _) (fun g hg hh => own_other hO2 HB2.out (by decide) g hg hh), hG⟩, ?_⟩
  refine (Keep.then ?_ hK2 (fun i hi => .inl (own_base HO1.out i hi))).setIn hG 1 _
  exact HK1.out.mono (fun i _ hi => by cases hi; exact hG)
theorem byteCells_eq (l : Bytes) : Lib.byteCells l = bcells l := rfl
theorem string_any {G b : Nat} {l : Bytes} (w : World) (h : Bu w G b l) (hG : G ≤ w.heap.size) : Calls Tryz.prog 106 #[.pointer (some ⟨b, 0, none⟩)] w fun e w' => e = .returned (.string (bs l)) ∧ Keep (From G) w w' := by
  obtain ⟨p, A, c, hp, hB, hO, hGb⟩ := h
  have hl : (Lib.byteCells l).length = l.length := by rw [byteCells_eq, bcells_length]
  have h1 : Lib.IsBuilder 166 5 G b (Lib.byteCells l) w := by
    rcases hp with rfl | rfl
    · exact .inl ⟨hGb, _, hB, by rw [hl, byteCells_eq]; exact hO, fun h => own_other hO hB (by decide) b h rfl⟩
    · exact .inr ⟨hGb, _, hB, by rw [hl, byteCells_eq]; exact hO, fun h => own_other hO hB (by decide) b h rfl⟩
  refine (Tryz.Builder_String_any G b l w h1 hG).mono ?_
  rintro e w' ⟨rfl, h2⟩
  refine ⟨rfl, ?_⟩
  exact ⟨h2.os, h2.tape, h2.output, h2.size, fun k hk hs => h2.block k (by simp only [From] at hs; omega)⟩
end Go.Proofs.YtnkebhlkhpgghaaGreatDoor
