/- Part of a proof: the walks of the functions, and their plain laws: Own, Bput, Mapi, Disk, Disk2. -/
import Derived.Test.YtnkebhlkhpgghaaGreatDoorPart2
import Derived.Maps.AppendAt
import Derived.Lib.BufferWrite
set_option linter.unusedVariables false
set_option linter.unusedSimpArgs false

/- A region that draws its order, each operation of which makes new memory at most: what each one leaves is said by itself, of what it waits for: so every order serves. Over any program. -/
namespace Go.Proofs.YtnkebhlkhpgghaaGreatDoor
open Go Go.RowKit

/-- Beside the slots that the region writes all is as it was. -/
structure Beside (ops : Array Oper) (a0 a : Act) : Prop where
  size : a.tmps.size = a0.tmps.size
  defers : a.defers = a0.defers
  slot : ∀ t, (∀ (i : Nat) (o : Oper), ops[i]? = some o → o.dst ≠ some t) → a.tmps.getD t undef = a0.tmps.getD t undef
/-- Each operation has a slot of its own, waits for earlier ones alone, and is not guarded. -/
def plainB (ops : Array Oper) (n : Nat) : Bool :=
  (List.range ops.size).all fun i => match ops[i]? with
    | none => true
    | some o => o.guard.isNone && (match o.dst with | none => false | some d => decide (d < n)) && o.after.all (fun e => decide (e.on < i)) &&
      (List.range ops.size).all fun j => decide (i = j) || (match ops[j]? with | none => true | some o' => o'.dst != o.dst)
section
variable {P : Program} {ops : Array Oper} {Q : Exit → Act → World → Prop} {a0 : Act} {w0 : World}

theorem Beside.put {a : Act} (h : Beside ops a0 a) {i : Nat} {o : Oper} (hi : ops[i]? = some o) (v : Value) : Beside ops a0 (a.put o.dst v) := by
  cases hd : o.dst with
  | none => exact h
  | some d =>
    refine ⟨by simp [Act.put, h.size], h.defers, fun t ht => ?_⟩
    have hne : d ≠ t := fun e => ht i o hi (by rw [hd, e])
    rw [← h.slot t ht]
    simp [Act.put, Array.getElem?_setIfInBounds_ne hne]

def unlisted (listed : Array Bool) : Nat := (listed.toList.filter (fun b => !b)).length
theorem unlisted_set {listed : Array Bool} {i : Nat} (h : listed.getD i true = false) : unlisted (listed.setIfInBounds i true) + 1 = unlisted listed := by
  have hi : i < listed.size := by
    rcases Nat.lt_or_ge i listed.size with h' | h'
    · exact h'
    · simp [Array.getElem?_eq_none h'] at h
  have hv : listed[i] = false := by simpa [hi] using h
  unfold unlisted
  rw [Array.toList_setIfInBounds]
  have hl : listed.toList[i]'(by simpa using hi) = false := by simpa using hv
  have key : ∀ (l : List Bool) (i : Nat) (h : i < l.length), l[i] = false → ((l.set i true).filter (fun b => !b)).length + 1 = (l.filter (fun b => !b)).length := by
    intro l
    induction l with
    | nil => intro i h; simp at h
    | cons b l ih =>
      intro i h hb
      cases i with
      | zero => simp at hb; subst hb; simp
      | succ i =>
        simp at hb h
        have := ih i h hb
        cases b <;> simp [List.filter_cons] <;> omega
  exact key listed.toList i (by simpa using hi) hl
theorem unlisted_zero {listed : Array Bool} (h : unlisted listed = 0) (i : Nat) : listed.getD i true = true := by
  rcases Nat.lt_or_ge i listed.size with h' | h'
  · have hm : listed[i] ∈ listed.toList := by simp
    have h0 := List.eq_nil_of_length_eq_zero h
    have h1 := List.filter_eq_nil_iff.1 h0 _ hm
    simpa [h'] using h1
  · simp [Array.getElem?_eq_none h']

theorem wpAny_own {md : Region.Mode} (hpl : plainB ops a0.tmps.size = true) (A : Nat → Act → World → Prop)
    (stab : ∀ (i : Nat) (a : Act) (w w' : World), A i a w → Ext w w' → A i a w')
    (loc : ∀ (i j : Nat) (o : Oper) (a : Act) (w : World) (v : Value), ops[j]? = some o → i ≠ j → A i a w → A i (a.put o.dst v) w)
    (step : ∀ (i : Nat) (o : Oper) (a : Act) (w : World), ops[i]? = some o → Beside ops a0 a → Ext w0 w → (∀ e ∈ o.after, Region.binds md e = true → A e.on a w) → o.wp P a w (fun a' w' => ∃ v, a' = a.put o.dst v ∧ Ext w w' ∧ A i a' w') Q)
    (fin : ∀ (a : Act) (w : World), Beside ops a0 a → Ext w0 w → (∀ i, i < ops.size → A i a w) → Q .normal a w) :
    ∀ (f : Nat) (listed : Array Bool) (a : Act) (w : World), listed.size = ops.size → unlisted listed = f → Beside ops a0 a → Ext w0 w → (∀ i, i < ops.size → listed.getD i true = true → A i a w) → wpAny P md ops Q f listed a w := by
  have hall := List.all_eq_true.1 hpl
  have opOk : ∀ (i : Nat) (o : Oper), ops[i]? = some o → o.guard = none ∧ (∃ d, o.dst = some d ∧ d < a0.tmps.size) ∧ (∀ e ∈ o.after, e.on < i) := by
    intro i o hi
    have hlt := (Array.getElem?_eq_some_iff.1 hi).1
    have h := hall i (List.mem_range.2 hlt)
    simp only [hi, Bool.and_eq_true] at h
    obtain ⟨⟨⟨h1, h2⟩, h3⟩, h4⟩ := h
    refine ⟨by simpa using h1, ?_, ?_⟩
    · cases hd : o.dst with
      | none => rw [hd] at h2; simp at h2
      | some d => rw [hd] at h2; exact ⟨d, rfl, by simpa using h2⟩
    · intro e he
      have h3' := Array.all_eq_true'.1 h3
      simpa using h3' e he
  -- some operation may come up, as long as one is left
  have some_ready : ∀ (listed : Array Bool), listed.size = ops.size → 0 < unlisted listed → Region.ready md ops listed ≠ [] := by
    intro listed hs hu
    have hex : ∃ i, listed.getD i true = false := by
      refine Classical.byContradiction fun hno => ?_
      have h1 : ∀ i, listed.getD i true = true := fun i => by
        cases h : listed.getD i true with
        | true => rfl
        | false => exact absurd ⟨i, h⟩ hno
      have h2 : unlisted listed = 0 := by
        unfold unlisted
        rw [List.length_eq_zero_iff, List.filter_eq_nil_iff]
        intro b hb
        obtain ⟨i, hi, rfl⟩ := List.mem_iff_getElem.1 hb
        have := h1 i
        simp at hi
        simpa [hi] using this
      omega
    have key : ∀ n i, i = n → listed.getD i true = false → ∃ j, j ∈ Region.ready md ops listed := by
      intro n
      induction n using Nat.strongRecOn with
      | _ n ih =>
        intro i hin hi
        subst hin
        have hlt : i < ops.size := by
          rcases Nat.lt_or_ge i ops.size with h | h
          · exact h
          · simp [Array.getElem?_eq_none (by omega : listed.size ≤ i)] at hi
        obtain ⟨o, ho⟩ : ∃ o, ops[i]? = some o := ⟨_, Array.getElem?_eq_getElem hlt⟩
        by_cases hd : ∀ e ∈ o.after, Region.binds md e = true → listed.getD e.on false = true
        · exact ⟨i, mem_ready.2 ⟨hi, o, ho, hd⟩⟩
        · have hd' : ∃ e ∈ o.after, Region.binds md e = true ∧ ¬ listed.getD e.on false = true := by
            refine Classical.byContradiction fun hno => hd fun e he hb => Classical.byContradiction fun hn => hno ⟨e, he, hb, hn⟩
          obtain ⟨e, he, hb, hl⟩ := hd'
          have hlt2 := (opOk i o ho).2.2 e he
          have : listed.getD e.on true = false := by
            have h5 : e.on < listed.size := by omega
            simp [h5] at hl ⊢
            exact hl
          exact ih e.on hlt2 e.on rfl this
    obtain ⟨i, hi⟩ := hex
    obtain ⟨j, hj⟩ := key i i rfl hi
    intro h0
    rw [h0] at hj
    cases hj
  intro f
  induction f with
  | zero =>
    intro listed a w hs hu hb he hA
    refine ⟨?_, fin a w hb he (fun i hi => hA i hi (unlisted_zero hu i))⟩
    refine List.eq_nil_iff_forall_not_mem.2 fun j hj => ?_
    have h1 := (mem_ready.1 hj).1
    have h2 := unlisted_zero hu j
    rw [h1] at h2
    cases h2
  | succ f ih =>
    intro listed a w hs hu hb he hA
    refine ⟨fun h0 => absurd h0 (some_ready listed hs (by omega)), fun i hi => ?_⟩
    obtain ⟨hun, o, ho, hdep⟩ := mem_ready.1 hi
    have hlt := (Array.getElem?_eq_some_iff.1 ho).1
    have hg := (opOk i o ho).1
    unfold wpOp
    simp only [ho, Region.wanted, hg, if_true]
    left
    refine Oper.wp_mono ?_ (step i o a w ho hb he (fun e he' hbd => hA e.on ?_ ?_))
    · rintro a' w' ⟨v, rfl, hE, hAi⟩
      refine ih _ _ _ (by simp [hs]) (by have := unlisted_set hun; omega) (hb.put ho v) (he.trans hE) (fun j hj hl => ?_)
      by_cases hji : j = i
      · subst hji; exact hAi
      · refine loc j i o a w' v ho hji (stab j a w w' (hA j hj ?_) hE)
        rw [getD_set_ne true (fun e => hji e.symm)] at hl
        exact hl
    · have := (opOk i o ho).2.2 e he'; omega
    · have h1 := hdep e he' hbd
      have h2 : e.on < listed.size := by have := (opOk i o ho).2.2 e he'; omega
      simp [h2] at h1 ⊢
      exact h1
/-- **The rule.** -/
theorem wp_region_own {id : Nat} {w : World} {l : List Oper} (hm : P.follows .mixedOrders = true) (hpl : plainB l.toArray a0.tmps.size = true) (A : Nat → Act → World → Prop)
    (stab : ∀ (i : Nat) (a : Act) (w w' : World), A i a w → Ext w w' → A i a w')
    (loc : ∀ (i j : Nat) (o : Oper) (a : Act) (w : World) (v : Value), l.toArray[j]? = some o → i ≠ j → A i a w → A i (a.put o.dst v) w)
    (step : ∀ (i : Nat) (o : Oper) (a : Act) (w' : World), l.toArray[i]? = some o → Beside l.toArray a0 a → Ext w w' → (∀ e ∈ o.after, Region.binds .any e = true → A e.on a w') → o.wp P a w' (fun a' w'' => ∃ v, a' = a.put o.dst v ∧ Ext w' w'' ∧ A i a' w'') Q)
    (fin : ∀ (a : Act) (w' : World), Beside l.toArray a0 a → Ext w w' → (∀ i, i < l.length → A i a w') → Q .normal a w') : (Code.region id l.toArray true).wp P Q a0 w := by
  refine wp_region_any hm (wpAny_own (w0 := w) hpl A stab loc step (fun a w' hb he hA => fin a w' hb he (by simpa using hA)) _ _ _ _ (by simp) ?_ ⟨rfl, rfl, fun _ _ => rfl⟩ ((Ext.refl w).drew) ?_)
  · simp [unlisted]
  · intro i hi hl
    simp at hi
    simp [hi] at hl

theorem act_lit {a : Act} {n : Nat} (h : a.tmps.size = n) : a = ⟨((List.range n).map fun i => a.eval (.tmp i)).toArray, a.defers⟩ := by
  obtain ⟨t, d⟩ := a
  simp only [Act.mk.injEq, and_true]
  apply Array.ext_getElem?
  intro i
  simp only at h
  by_cases hi : i < n
  · simp [Act.eval, hi, h, Array.getElem?_eq_getElem (show i < t.size by omega)]
  · rw [Array.getElem?_eq_none (by omega), Array.getElem?_eq_none (by simp; omega)]
def slotOf (ops : Array Oper) (i : Nat) : Tmp := ((ops[i]?).bind (·.dst)).getD 0
theorem put_at {a : Act} {d : Tmp} (v : Value) (h : d < a.tmps.size) : (a.put (some d) v).eval (.tmp d) = v := by
  simp [Act.put, Act.eval, h]
theorem put_off {a : Act} {d t : Tmp} (v : Value) (h : d ≠ t) : (a.put (some d) v).eval (.tmp t) = a.eval (.tmp t) := by
  simp [Act.put, Act.eval, Array.getElem?_setIfInBounds_ne h]
theorem Beside.outer {a : Act} (h : Beside ops a0 a) (t : Tmp) (hc : (ops.all fun o => o.dst != some t) = true) : a.eval (.tmp t) = a0.eval (.tmp t) := by
  have h1 := h.slot t (fun i o hi => by
    have h2 := Array.all_eq_true.1 hc i (Array.getElem?_eq_some_iff.1 hi).1
    rw [(Array.getElem?_eq_some_iff.1 hi).2] at h2
    simpa using h2)
  exact h1
/-- **The rule**, what each operation leaves told of its value. -/
theorem wp_region_tell {id : Nat} {w : World} {l : List Oper} (hm : P.follows .mixedOrders = true) (hpl : plainB l.toArray a0.tmps.size = true) (B : Nat → Value → World → Prop)
    (stab : ∀ (i : Nat) (v : Value) (w w' : World), B i v w → Ext w w' → B i v w')
    (step : ∀ (i : Nat) (o : Oper) (a : Act) (w' : World), l[i]? = some o → Beside l.toArray a0 a → Ext w w' → (∀ e ∈ o.after, Region.binds .any e = true → B e.on (a.eval (.tmp (slotOf l.toArray e.on))) w') → o.wp P a w' (fun a' w'' => ∃ v, a' = a.put o.dst v ∧ Ext w' w'' ∧ B i v w'') Q)
    (fin : ∀ (a : Act) (w' : World), Beside l.toArray a0 a → Ext w w' → (∀ i, i < l.length → B i (a.eval (.tmp (slotOf l.toArray i))) w') → Q .normal a w') : (Code.region id l.toArray true).wp P Q a0 w := by
  have hall := List.all_eq_true.1 hpl
  refine wp_region_own hm hpl (fun i a w => i < l.length → B i (a.eval (.tmp (slotOf l.toArray i))) w) (fun i a w w' h e hi => stab i _ w w' (h hi) e) ?_ ?_ (fun a w' hb he h => fin a w' hb he (fun i hi => h i hi hi))
  · intro i j o a w v hj hij h hi
    obtain ⟨oi, hoi⟩ : ∃ oi, l.toArray[i]? = some oi := ⟨l[i], by simp [hi]⟩
    have h1 := hall i (List.mem_range.2 (by simpa using hi))
    simp only [hoi, Bool.and_eq_true] at h1
    have h2 := h1.2
    have hjl := (Array.getElem?_eq_some_iff.1 hj).1
    have h3 := List.all_eq_true.1 h2 j (List.mem_range.2 hjl)
    simp only [hj, Bool.or_eq_true, decide_eq_true_eq] at h3
    have hne : o.dst ≠ oi.dst := by
      rcases h3 with h3 | h3
      · exact absurd h3 hij
      · simpa using h3
    have hsl : slotOf l.toArray i = oi.dst.getD 0 := by simp only [slotOf, hoi, Option.bind_some]
    have hg : ∃ d, oi.dst = some d := by
      have := h1.1.1.2
      cases hd : oi.dst with
      | none => rw [hd] at this; simp at this
      | some d => exact ⟨d, rfl⟩
    obtain ⟨d, hd⟩ := hg
    have h4 := h hi
    rw [hsl, hd] at h4 ⊢
    simp only [Option.getD_some] at h4 ⊢
    cases ho : o.dst with
    | none => exact h4
    | some d' =>
      rw [put_off v (fun e => hne (by rw [ho, hd, e]))]
      exact h4
  · intro i o a w' hi hb he hdep
    have hi' : l[i]? = some o := by simpa using hi
    have hlt := (List.getElem?_eq_some_iff.1 hi').1
    have h1 := hall i (List.mem_range.2 (by simpa using hlt))
    simp only [hi, Bool.and_eq_true] at h1
    have haf := Array.all_eq_true'.1 h1.1.2
    refine Oper.wp_mono ?_ (step i o a w' hi' hb he (fun e h2 h3 => hdep e h2 h3 (by have := haf e h2; simp at this; omega)))
    rintro a' w'' ⟨v, rfl, hE, hB⟩
    refine ⟨v, rfl, hE, fun _ => ?_⟩
    have hsl : slotOf l.toArray i = o.dst.getD 0 := by simp only [slotOf, hi, Option.bind_some]
    rw [hsl]
    cases hd : o.dst with
    | none => have := h1.1.1.2; rw [hd] at this; simp at this
    | some d =>
      have h5 := h1.1.1.2
      rw [hd] at h5
      simp only [Option.getD_some]
      rw [put_at v (by rw [hb.size]; simpa using h5)]
      exact hB
/-- A step that yields a value. -/
theorem tell_val {o : Oper} {a : Act} {w : World} {B : Value → World → Prop} (v : Value) (w' : World) (hr : (execOp a.eval o).run P w = .ok (.value v) w') (hE : Ext w w') (hB : B v w') : o.wp P a w (fun a' w'' => ∃ v, a' = a.put o.dst v ∧ Ext w w'' ∧ B v w'') Q := by
  unfold Oper.wp
  rw [hr]
  exact ⟨v, rfl, hE, hB⟩
theorem tell_call {o : Oper} {a : Act} {w : World} {B : Value → World → Prop} (f : FuncId) (args : Array Value) (v : Value) (hr : (execOp a.eval o).run P w = .ok (.enter f args) w) (hc : Calls P f args w (Ret v w)) (hB : ∀ w', Ext w w' → B v w') : o.wp P a w (fun a' w'' => ∃ v, a' = a.put o.dst v ∧ Ext w w'' ∧ B v w'') Q := by
  unfold Oper.wp
  rw [hr]
  refine hc.mono ?_
  rintro e w' ⟨rfl, hE⟩
  exact ⟨v, rfl, hE, hB w' hE⟩
end
end Go.Proofs.YtnkebhlkhpgghaaGreatDoor
/- batch.Put: the walk. -/
namespace Go.Proofs.YtnkebhlkhpgghaaGreatDoor
open Go Go.RowKit Go.Deep

/-- 'append(v, x...)' of bytes that lie in a block. -/
theorem wpList_appendB {P : Program} {ops : Array Oper} {rest : List Oper} {o : Oper} {a : Act} {Q : Exit → Act → World → Prop} {W : World} (base : Nat) (hgd : o.guard = none) (s x : Operand) (t e : TypeId)
    (ho : o.op = .call { callee := .builtin .append, args := #[s, x], argTypes := #[t, t] })
    (ht : P.underlying t = some (.slice e)) (hinfo : (P.info? e).map (fun i => (i.zero, i.size, i.bytes)) = some (some (.int .u8 0), 1, 1))
    (v : Value) (n : Nat) (L X : Bytes) (hs : a.eval s = v) (HO : W.ownsRow base e 1 v n (bcells L)) (hn : n = L.length) (hbase : base ≤ W.heap.size)
    (ad : Addr) (k c : Nat) (hx : a.eval x = .slice (some ad) k c) (hk : k = X.length) (hnews : ∀ j u, (bcells X)[j]? = some u → W.cell? (ad.add j) = some u) (hl : n + X.length ≤ 140737488355328)
    (h : ∀ A c' n' w1, n' = (L ++ X).length → w1.ownsRow base e 1 (.slice A n' c') n' (bcells (L ++ X)) → Keep (Of v) W w1 → wpList P ops Q rest (a.put o.dst (.slice A n' c')) w1) :
    wpList P ops Q (o :: rest) a W := by
  obtain ⟨i0, hi, hzz⟩ := Option.map_eq_some_iff.1 hinfo
  simp only [Prod.mk.injEq] at hzz
  obtain ⟨hz0, hz1, hz2⟩ := hzz
  subst hk
  refine wpList_append_own_at W hgd s x t ho base e i0 (.int .u8 0) 1 1 ht hi hz0 hz1 hz2 rfl (by omega) v n (bcells L) hs HO ad X.length c (bcells X) hx (by simp [bcells]) hnews (bcells_one X) (by simp only [maxLen]; omega) (by omega) hbase ?_
  intro v1 w1 hown hg _ _
  obtain ⟨A, c', rfl⟩ := own_slice hown
  refine h A c' _ w1 (by rw [hn, List.length_append]) ?_ ((Keep.refl _ _).grown hg (fun k hk => Or.inl hk))
  rw [bcells_append]
  exact hown

def ptext (x : Ev) : Bytes := vput x.put.length ++ x.put
def btBody (f : Int) (l : List Ev) (p : Bytes) : Bytes := p ++ vput f.toNat ++ vput l.length ++ (l.map ptext).flatten
def btHead (f : Int) (l : List Ev) (p : Bytes) : Bytes := [66] ++ fixedB (btBody f l p).length 4 ++ btBody f l p
def btText (f : Int) (l : List Ev) (p : Bytes) : Bytes := btHead f l p ++ fixedB (crcOf (btHead f l p)) 4
theorem put_le {x : Ev} (hx : x.is = true) (s0 : 0 ≤ x.seq) (s1 : x.seq < 18446744073709551616) : x.put.length ≤ 51 := by
  have hb := hx
  simp only [Ev.is, Bool.and_eq_true, wi_iff] at hb
  have h1 := vput_ten (n := x.seq.toNat) (by omega)
  have h2 := vput_ten (n := x.tick.toNat) (by omega)
  have h3 := vput_ten (n := (x.part + 1).toNat) (by omega)
  have h4 := vput_ten (n := x.a.toNat) (by omega)
  have h5 := vput_ten (n := x.b.toNat) (by omega)
  simp only [Ev.put, List.length_cons, List.length_append]
  omega
theorem ptext_le {x : Ev} (hx : x.is = true) (s0 : 0 ≤ x.seq) (s1 : x.seq < 18446744073709551616) : (ptext x).length ≤ 61 := by
  have h1 := put_le hx s0 s1
  have h2 := vput_ten (n := x.put.length) (by omega)
  simp only [ptext, List.length_append]
  omega
theorem runFrom_is : ∀ {l : List Ev} {p : Option Ev}, runFrom p l = true → ∀ x ∈ l, x.is = true
  | [], _, _ => by simp
  | y :: l, none, h => by
    simp only [runFrom, Bool.and_eq_true] at h
    intro x hx
    rcases List.mem_cons.1 hx with rfl | hx
    · exact h.1
    · exact runFrom_is h.2 x hx
  | y :: l, some z, h => by
    simp only [runFrom, Bool.and_eq_true] at h
    intro x hx
    rcases List.mem_cons.1 hx with rfl | hx
    · exact h.1.1
    · exact runFrom_is h.2 x hx
theorem ptexts_le : ∀ (l : List Ev), (∀ x ∈ l, x.is = true) → (∀ x ∈ l, x.In) → ((l.map ptext).flatten).length ≤ 61 * l.length
  | [], _, _ => by simp
  | x :: l, h, k => by
    have h1 := ptexts_le l (fun y hy => h y (List.mem_cons_of_mem _ hy)) (fun y hy => k y (List.mem_cons_of_mem _ hy))
    have h2 := ptext_le (h x (by simp)) (k x (by simp)).1.1 (k x (by simp)).1.2
    simp only [List.map_cons, List.flatten_cons, List.length_append, List.length_cons]
    omega

theorem one_string (w : World) (g : Nat) (h : w.cell? ⟨g, 0, none⟩ = some (.int .u8 66)) : (Go.convert 62 9 (.slice (some ⟨g, 0, none⟩) 1 1)).run Tryz.prog w = .ok (.string (bs [66])) w := by
  rw [run_convert_bytes_arg w 62 5 Tryz.underlying62 Tryz.underlying5 g 0 1 1 [66] rfl (fun i hi => ?_) 9 Tryz.underlying9]
  · exact congrArg (fun z => Result.ok (Value.string z) w) (nums_bytes [66])
  · obtain rfl : i = 0 := by simp at hi; omega
    exact h

/-- event.Put and wire.Text of an event that stands: the two contracts at once. -/
theorem putOf (x : Ev) (hx : x.is = true) (hi : x.In) (w : World) : Calls Tryz.prog 92 #[.agg x.cells.toArray] w (Ret (.tuple #[.string (bs x.put), .int .i64 0]) w) := by
  have h := eventPut_any x w hi.1.1 hi.1.2
  rw [if_pos hx] at h
  exact h
theorem textOf (x : Ev) (hx : x.is = true) (hi : x.In) (w : World) : Calls Tryz.prog 93 #[.string (bs x.put)] w (Ret (.tuple #[.string (bs (ptext x)), .int .i64 0]) w) := by
  have hs : (bs x.put).size = x.put.length := by simp [bs, ByteArray.size]
  have hl := put_le hx hi.1.1 hi.1.2
  have h := wireText_any (bs x.put) w (by omega)
  rw [if_pos (by omega), hs, lb_bs] at h
  exact h

theorem wpList_appendL {P : Program} {ops : Array Oper} {rest : List Oper} {o : Oper} {a : Act} {Q : Exit → Act → World → Prop} {W : World} (base : Nat) (hgd : o.guard = none) (sl x : Operand) (t u e : TypeId)
    (ho : o.op = .call { callee := .builtin .append, args := #[sl, x], argTypes := #[t, u] })
    (ht : P.underlying t = some (.slice e)) (hu : P.underlying u = some .string) (hinfo : (P.info? e).map (fun i => (i.zero, i.size, i.bytes)) = some (some (.int .u8 0), 1, 1))
    (v : Value) (n : Nat) (L X : Bytes) (hs : a.eval sl = v) (z : ByteArray) (hx : a.eval x = .string z) (hz : z = bs X) (HO : W.ownsRow base e 1 v n (bcells L)) (hn : n = L.length) (hbase : base ≤ W.heap.size) (hl : n + X.length ≤ 140737488355328)
    (h : ∀ A c n' w1, n' = (L ++ X).length → w1.ownsRow base e 1 (.slice A n' c) n' (bcells (L ++ X)) → Keep (Of v) W w1 → wpList P ops Q rest (a.put o.dst (.slice A n' c)) w1) :
    wpList P ops Q (o :: rest) a W := by
  subst hz
  have hsz : (bs X).size = X.length := by simp [bs, ByteArray.size]
  refine wpList_appendS base hgd sl x t u e ho ht hu hinfo v n (bcells L) hs (bs X) hx HO hbase (by omega) ?_
  intro A c w1 hO hK
  refine h A c _ w1 (by rw [hsz, hn, List.length_append]) ?_ hK
  rw [bcells_append]
  rw [lb_bs] at hO
  exact hO

/-- What stands while a batch is put. -/
structure BSt (w : World) (base : Nat) (f : Int) (v : Value) (p : Bytes) (l : List Ev) (w' : World) (A : Option Addr) (c n : Nat) (L : Bytes) : Prop where
  own : w'.ownsRow base 5 1 (.slice A n c) n (bcells L)
  hn : n = L.length
  blk : Blk w' w.heap.size 83 (btCells f v p).toArray
  rd : Rd w' 6 Ev.cells v l
  ext : Ext w w'
  hG : w.heap.size < base
  hb : base ≤ w'.heap.size
  vb : ∀ g, v.ownBlock = some g → g < w.heap.size
theorem BSt.go {w : World} {base : Nat} {f : Int} {v : Value} {p : Bytes} {l : List Ev} {w' w'' : World} {A : Option Addr} {c n : Nat} {L : Bytes} (h : BSt w base f v p l w' A c n L) (k : Ext w' w'') : BSt w base f v p l w'' A c n L :=
  ⟨own_ext h.own k, h.hn, h.blk.ext k, h.rd.ext k, h.ext.trans k, h.hG, Nat.le_trans h.hb k.size, h.vb⟩
theorem BSt.app {w : World} {base : Nat} {f : Int} {v : Value} {p : Bytes} {l : List Ev} {w' w'' : World} {A A' : Option Addr} {c c' n n' : Nat} {L X : Bytes} (h : BSt w base f v p l w' A c n L)
    (hn : n' = (L ++ X).length) (hO : w''.ownsRow base 5 1 (.slice A' n' c') n' (bcells (L ++ X))) (k : Keep (Of (.slice A n c)) w' w'') : BSt w base f v p l w'' A' c' n' (L ++ X) :=
  ⟨hO, hn, h.blk.keep k (fun hh => by have := own_base h.own _ hh; have := h.hG; omega), h.rd.keep k (fun g hg hh => by have := own_base h.own _ hh; have := h.hG; have := h.vb g hg; omega),
    h.ext.keep k (fun i hi => by have := own_base h.own _ hi; have := h.hG; omega), h.hG, Nat.le_trans h.hb k.size, h.vb⟩

theorem bt_prev {w : World} {g : Nat} {t : TypeId} {f : Int} {v : Value} {p : Bytes} (h : Blk w g t (btCells f v p).toArray) (hp : p.length = 32) : ∀ j u, (bcells p)[j]? = some u → w.cell? ((⟨g, 2, none⟩ : Addr).add j) = some u := by
  intro j u hu
  have := h.cell (2 + j)
  rw [Addr.add_lit, this]
  simp only [btCells, List.getElem?_toArray]
  rw [show 2 + j = j + 1 + 1 from by omega, List.getElem?_cons_succ, List.getElem?_cons_succ]
  exact hu
theorem BSt.start {w w1 : World} {f : Int} {v : Value} {p : Bytes} {l : List Ev} {w2 : World} {A : Option Addr} {c n : Nat} (hE : Ext (w.alloc (.cells (btCells f v p).toArray 83)) w1)
    (hR : Rd w 6 Ev.cells v l) (hv : ∀ g, v.ownBlock = some g → g < w.heap.size) (hn : n = ([] ++ p).length) (hO : w2.ownsRow w1.heap.size 5 1 (.slice A n c) n (bcells ([] ++ p))) (k : Keep (Of (.slice none 0 0)) w1 w2) : BSt w w1.heap.size f v p l w2 A c n p := by
  have hk : Ext w1 w2 := k.ext (fun i hi => by simp [Of, Value.ownBlock] at hi)
  have hB := ((Blk.new w 83 (btCells f v p).toArray).ext hE)
  refine ⟨hO, hn, hB.ext hk, (hR.ext ((Ext.refl w).alloc _)).ext (hE.trans hk), ((Ext.refl w).alloc _).trans (hE.trans hk), hB.lt, hk.size, hv⟩
theorem BSt.c {w : World} {base : Nat} {f : Int} {v : Value} {p : Bytes} {l : List Ev} {w' : World} {A : Option Addr} {c n : Nat} {L : Bytes} (h : BSt w base f v p l w' A c n L) :
    w'.cell? ⟨w.heap.size, 0, none⟩ = some (.int .u64 f) ∧ w'.cell? ⟨w.heap.size, 1, none⟩ = some v := ⟨h.blk.cell 0, h.blk.cell 1⟩

theorem one_stringG (x : UInt8) (w : World) (g : Nat) (h : w.cell? ⟨g, 0, none⟩ = some (.int .u8 x.toNat)) : (Go.convert 62 9 (.slice (some ⟨g, 0, none⟩) 1 1)).run Tryz.prog w = .ok (.string (bs [x])) w := by
  rw [run_convert_bytes_arg w 62 5 Tryz.underlying62 Tryz.underlying5 g 0 1 1 [(x.toNat : Int)] rfl (fun i hi => ?_) 9 Tryz.underlying9]
  · exact congrArg (fun z => Result.ok (Value.string z) w) (nums_bytes [x])
  · obtain rfl : i = 0 := by simp at hi; omega
    exact h
/-- What the operations of batch.Put's last region but one leave. -/
def bpB (A : Option Addr) (n c : Nat) (z1 z2 z3 : ByteArray) : Nat → Value → World → Prop
  | 0, v, w => ∃ g, v = .slice (some ⟨g, 0, none⟩) 1 1 ∧ Blk w g 5 #[.int .u8 66]
  | 1, v, _ => v = .string z1
  | 2, v, _ => v = .slice A n c
  | 3, v, _ => v = .int .i64 n
  | 4, v, _ => v = .int .u64 n
  | 5, v, _ => v = .string z2
  | 6, v, _ => v = .string (z1 ++ z2)
  | 7, v, _ => v = .slice A n c
  | 8, v, _ => v = .string z3
  | _, v, _ => v = .string (z1 ++ z2 ++ z3)
theorem bpB_stab (A : Option Addr) (n c : Nat) (z1 z2 z3 : ByteArray) (i : Nat) (v : Value) (w w' : World) (hB : bpB A n c z1 z2 z3 i v w) (e : Ext w w') : bpB A n c z1 z2 z3 i v w' := by
  rcases i with _ | _ | _ | _ | _ | _ | _ | _ | _ | i <;> simp only [bpB] at hB ⊢ <;> first | exact hB | (obtain ⟨g, h1, h2⟩ := hB; exact ⟨g, h1, h2.ext e⟩)

set_option maxRecDepth 8000 in
set_option maxHeartbeats 1600000 in
theorem batchPut_any (f : Int) (v : Value) (p : Bytes) (l : List Ev) (w : World) (h : Rd w 6 Ev.cells v l) (hl : l.length ≤ 1000000) (hin : ∀ x ∈ l, x.In) (hp : p.length = 32) (f0 : 0 ≤ f) (f1 : f < 18446744073709551616) :
    Calls Tryz.prog 64 #[.agg (btCells f v p).toArray] w (Ret (.tuple (if btIs f l then #[.string (bs (btText f l p)), .int .i64 0] else #[.string (bs []), .int .i64 1])) w) := by
  have HI := Lib.hid (fun w' (h' : Rd w' 6 Ev.cells v l) => batchIs_any f v p l w' h' hl hin hp)
  have hsz : (Tryz.prog.info? 83).map (·.size) = some (btCells f v p).length := by rw [btCells_length _ _ hp]; kernel_rfl
  have HSZ := Lib.hid hsz
  have H0 := Lib.hid ((h.ext ((Ext.refl w).alloc (.cells (btCells f v p).toArray 83))))
  have HR := Lib.hid h
  have HB := Lib.hid (Blk.new w 83 (btCells f v p).toArray)
  have HIN := Lib.hid hin
  clear hsz hin
  by_cases hb : btIs f l = true
  · rw [if_pos hb]
    rw [hb] at HI
    have hb2 := hb
    simp only [btIs, Bool.and_eq_true, decide_eq_true_eq] at hb2
    obtain ⟨⟨hl256, hrun⟩, hhead⟩ := hb2
    have HIS := Lib.hid (runFrom_is hrun)
    have hpos : 0 < l.length := by rcases l with _ | ⟨x, l⟩; simp [headIs] at hhead; simp
    clear hhead hrun hb
    obtain ⟨A0, c0, rfl, hc, hc2, hA⟩ := h
    obtain ⟨b, off, rfl, hbw, hcell⟩ := hA hpos
    have HCELL := Lib.hid hcell
    clear hcell hA
    have HP := Lib.hid (fun w => wirePut_any f w f0 f1)
    have HM := Lib.hid (fun w => wirePut_any (l.length : Int) w (by omega) (by omega))
    simp only [Int.toNat_natCast] at HM
    have h10 := vput_ten (n := f.toNat) (by omega)
    have h11 := vput_ten (n := l.length) (by omega)
    have HLEN := Lib.hid (And.intro h10 h11)
    clear h10 h11
    generalize hbytes : btText f l p = bytes
    have HBY := Lib.hid hbytes
    clear hbytes
    generalize hm : l.length = m at *
    have HML := Lib.hid hm
    clear hm
    have hb2 : b < (w.alloc (.cells (btCells f (.slice (some ⟨b, off, none⟩) m c0) p).toArray 83)).heap.size := by simp; omega
    have HV := Lib.hid (show ∀ g, (Value.slice (some ⟨b, off, none⟩) m c0).ownBlock = some g → g < w.heap.size from by intro g hg; simp [Value.ownBlock] at hg; omega)
    go_enter Tryz.func64, Tryz.ntmps64
    go_wp2_with (first | (have hg := HS2; at_builtin; go_loud (refine wpList_appendL w1.heap.size rfl (.tmp 22) (.tmp 27) 62 9 5 rfl Tryz.underlying62 Tryz.underlying9 info_u8 (.slice A2 n2 c2) n2 (p ++ vput f.toNat) (vput m) rfl (bs (vput m)) rfl rfl HS2.out.own HS2.out.hn HS2.out.hb (by have h1 := HS2.out.hn; have h2 := HLEN.out; rw [List.length_append] at h1; omega) ?_; intro A3 c3 n3 w2 hn2 hO2 hK2; have HS3 := Lib.hid (HS2.out.app hn2 hO2 hK2); clear hg HS2 d0 d1; clear hn2 hO2 hK2; obtain ⟨d0, d1⟩ := HS3.out.c)) | (have hg := HS1; at_builtin; refine wpList_appendL w1.heap.size rfl (.tmp 17) (.tmp 20) 62 9 5 rfl Tryz.underlying62 Tryz.underlying9 info_u8 (.slice A1 n1 c1) n1 p (vput f.toNat) rfl (bs (vput f.toNat)) rfl rfl HS1.out.own HS1.out.hn HS1.out.hb (by have := HS1.out.hn; have := HLEN.out; omega) ?_; intro A2 c2 n2 w2 hn2 hO2 hK2; have HS2 := Lib.hid (HS1.out.app hn2 hO2 hK2); clear hg HS1 d0 d1; clear hn2 hO2 hK2; obtain ⟨d0, d1⟩ := HS2.out.c) | (refine wpList_load_blk rfl 83 (.tmp 1) rfl w.heap.size 83 (btCells f (.slice (some ⟨b, off, none⟩) m c0) p) rfl HB.out _ Tryz.underlying83 rfl HSZ.out ?_) | (go_at_call 90; refine (HI.out _ H0.out).mono ?_; rintro e w1 ⟨rfl, hE1⟩; have HB1 := Lib.hid (HB.out.ext hE1); have HPC := Lib.hid (bt_prev HB1.out hp); have HE1 := Lib.hid hE1; clear hE1) | (go_at_call_of 91 f; refine (HP.out _).mono ?_; rintro e w3 ⟨rfl, hE3⟩; have HSx := Lib.hid (HS1.out.go hE3); clear HS1 d0 d1; have HS1 := HSx; clear HSx hE3; obtain ⟨d0, d1⟩ := HS1.out.c) | (go_at_call 91; refine (HM.out _).mono ?_; rintro e w3 ⟨rfl, hE3⟩; have HSx := Lib.hid (HS2.out.go hE3); clear HS2 d0 d1; have HS2 := HSx; clear HSx hE3; obtain ⟨d0, d1⟩ := HS2.out.c) | (at_builtin; refine wpList_appendB w1.heap.size rfl (.const (.slice none 0 0)) (.tmp 15) 62 5 rfl Tryz.underlying62 info_u8 (.slice none 0 0) 0 [] p rfl (own_none _ _ _ _) rfl (Nat.le_refl _) ⟨w.heap.size, 2, none⟩ 32 32 rfl hp.symm HPC.out (by omega) ?_; intro A1 c1 n1 w2 hn1 hO1 hK1; have HS1 := Lib.hid (BSt.start HE1.out HR.out HV.out hn1 hO1 hK1); obtain ⟨d0, d1⟩ := HS1.out.c; clear hn1 hO1 hK1))
    have hb0 := HS3.out.hb
    generalize w1.heap.size = base at *
    have HS3' : Hid (BSt w base f (.slice (some ⟨b, off, none⟩) m c0) p l w2 A3 c3 n3 (p ++ vput f.toNat ++ vput m ++ ((l.take 0).map ptext).flatten)) := by
      have h3 := HS3.out
      refine Lib.hid ?_
      simpa using h3
    clear HS3 hb0 d0 d1
    clear HE1 HPC HB1
    clear HV HB H0 HI HR hb2 HSZ
    go_loopw [4, 32] (fun t4 t32 wr => ∃ (i : Nat) (A : Option Addr) (c n : Nat), t32 = .int .i64 i ∧ t4 = .slice A n c ∧ i ≤ m ∧ BSt w base f (.slice (some ⟨b, off, none⟩) m c0) p l wr A c n (p ++ vput f.toNat ++ vput m ++ ((l.take i).map ptext).flatten)) (fun _ t32 _ => m - (intOf t32).toNat)
    case atStart => exact ⟨0, A3, c3, n3, rfl, rfl, by omega, HS3'.out⟩
    case round =>
      obtain ⟨i, A, c, n, rfl, rfl, hi, hS⟩ := hrel
      have HS := Lib.hid hS
      clear hS HS3'
      by_cases hlt : i < m
      · obtain ⟨x, hx⟩ : ∃ x, l[i]? = some x := ⟨_, List.getElem?_eq_getElem (by rw [HML.out]; exact hlt)⟩
        have htk : (l.take (i + 1)).map ptext = (l.take i).map ptext ++ [ptext x] := by
          rw [List.take_succ_eq_append_getElem (by rw [HML.out]; exact hlt), List.map_append, (List.getElem?_eq_some_iff.1 hx).2]; rfl
        have hmem := List.mem_of_getElem? hx
        have HPU := Lib.hid (putOf x (HIS.out x hmem) (HIN.out x hmem))
        have HTX := Lib.hid (textOf x (HIS.out x hmem) (HIN.out x hmem))
        have hcx : ∀ (j : Nat) (u : Value), x.cells[j]? = some u → wr.cell? ⟨b, off + i * 6 + j, none⟩ = some u := fun j u hu => HS.out.ext.cell_some (HCELL.out i x hx j u hu)
        have c0' := hcx 0 _ rfl
        have c1' := hcx 1 _ rfl
        have c2' := hcx 2 _ rfl
        have c3' := hcx 3 _ rfl
        have c4' := hcx 4 _ rfl
        have c5' := hcx 5 _ rfl
        simp only [Nat.add_zero] at c0'
        have hle := ptexts_le (l.take i) (fun y hy => HIS.out y (List.mem_of_mem_take hy)) (fun y hy => HIN.out y (List.mem_of_mem_take hy))
        have hlx := ptext_le (HIS.out x hmem) (HIN.out x hmem).1.1 (HIN.out x hmem).1.2
        rw [List.length_take, HML.out] at hle
        have hbound : n + (ptext x).length ≤ 140737488355328 := by
          have h1 := HS.out.hn
          have h2 := HLEN.out
          simp only [List.length_append] at h1
          omega
        have HBD := Lib.hid hbound
        have HTK := Lib.hid htk
        have hn1 : (i : Int) < m := by omega
        have hbs : b < wr.heap.size := Nat.lt_of_lt_of_le hbw HS.out.ext.size
        clear hcx htk hx hmem hle hlx hbound HIS HIN HCELL HBY
        generalize hL : p ++ vput f.toNat ++ vput m ++ ((l.take i).map ptext).flatten = L at HS
        have HL := Lib.hid hL
        clear hL
        generalize hpt : ptext x = pt at *
        have HPT := Lib.hid hpt
        clear hpt
        generalize hpb : bs x.put = pb at *
        clear hpb
        obtain ⟨s, t, pa, kd, aa, bb⟩ := x
        simp only [Ev.cells] at HPU
        simp only at c0' c1' c2' c3' c4' c5'
        go_wp2_with (first | (have hg := HS2; at_builtin; go_loud (refine wpList_appendL base rfl (.tmp 52) (.tmp 53) 62 9 5 rfl Tryz.underlying62 Tryz.underlying9 info_u8 (.slice A n c) n L pt rfl (bs pt) rfl rfl HS2.out.own HS2.out.hn HS2.out.hb HBD.out ?_; intro A' c' n' w5 hn5 hO5 hK5; have HS3 := Lib.hid (HS2.out.app hn5 hO5 hK5); clear hn5 hO5 hK5)) | (go_at_call 92; refine (HPU.out _).mono ?_; rintro e w3 ⟨rfl, hE3⟩; have HS1 := Lib.hid (HS.out.go (((Ext.refl _).alloc _).trans hE3)); clear hE3) | (go_at_call 93; refine (HTX.out _).mono ?_; rintro e w4 ⟨rfl, hE4⟩; have HS2 := Lib.hid (HS1.out.go hE4); clear hE4))
        case roundEnd =>
          refine ⟨⟨i + 1, A', c', n', by go_num, rfl, by omega, ?_⟩, by simp only [intOf]; omega⟩
          have h3 := HS3.out
          rw [← HL.out] at h3
          rw [HTK.out, List.flatten_append]
          simpa using h3
      · have hi2 : i = m := by omega
        subst hi2
        have hbody : p ++ vput f.toNat ++ vput i ++ ((l.take i).map ptext).flatten = btBody f l p := by
          rw [List.take_of_length_le (by rw [HML.out]; exact Nat.le_refl _), btBody, HML.out]
        have hlen := ptexts_le l HIS.out HIN.out
        rw [hbody] at HS
        have hbl : (btBody f l p).length ≤ 60000 := by
          rw [btBody]
          have h2 := HLEN.out
          simp only [List.length_append, HML.out] at hlen ⊢
          omega
        have hhd : btHead f l p = [66] ++ fixedB (btBody f l p).length 4 ++ btBody f l p := rfl
        have htx : bytes = btHead f l p ++ fixedB (crcOf (btHead f l p)) 4 := HBY.out.symm
        generalize btBody f l p = body at *
        generalize btHead f l p = head at *
        have HHD := Lib.hid hhd
        have HTXT := Lib.hid htx
        have hcr := crcOf_range head
        have HF1 := Lib.hid (fun w => fixed_any (n : Int) 4 w (by omega) (by have := HS.out.hn; omega) (by decide) (by decide))
        have HCR := Lib.hid (fun w => crcOf_any (bs head) w (by rw [hhd]; simp [bs, ByteArray.size, fixedB_length, maxLen]; omega))
        have HF2 := Lib.hid (fun w => fixed_any (crcOf head) 4 w (by omega) (by omega) (by decide) (by decide))
        have HKB : Hid (∀ w', Ext wr w' → (Go.convert 62 9 (.slice A n c)).run Tryz.prog w' = .ok (.string (bs body)) w') := fun w' hE => own_string (e' := 5) Tryz.underlying62 Tryz.underlying5 Tryz.underlying9 (HS.out.go hE).own
        have hn0 : (0 : Int) ≤ (n : Int) := by omega
        have hn2 : (n : Int) < 140737488355328 := by have := HS.out.hn; omega
        clear hbody hlen hhd htx hcr HIS HIN HCELL HBY hbl
        have hk1 := one_string
        have hwn : IntKind.u64.wrap (n : Int) = (n : Int) := IntWalk.u64_in _ (by omega)
        have hz0 : (wr.alloc (.cells #[.int .u8 66] 5)).drew.cell? ⟨wr.heap.size, 0, none⟩ = some (.int .u8 66) := (Blk.new wr 5 #[.int .u8 66]).drew.cell 0
        have HZ0 := Lib.hid hz0
        clear hz0
        generalize hz1 : bs [66] = z1 at hk1
        generalize hz2 : bs (fixedB (n : Int) (4 : Int).toNat) = z2 at HF1
        generalize hz3 : bs body = z3 at HKB
        have hs1 : z1.size = 1 := by rw [← hz1]; rfl
        have hs2 : z2.size = 4 := by rw [← hz2]; simp [bs, ByteArray.size, fixedB_length]
        have hs3 : z3.size = n := by rw [← hz3, HS.out.hn]; simp [bs, ByteArray.size]
        have hq1 : ¬ 9223372036854775807 < z1.size + z2.size := by omega
        have hq2 : ¬ 9223372036854775807 < z1.size + z2.size + z3.size := by omega
        have HSZ := Lib.hid (And.intro hs1 (And.intro hs2 hs3))
        have HZZ := Lib.hid (And.intro hz1 (And.intro hz2 hz3))
        clear hs1 hs2 hs3 hz1 hz2 hz3
        go_wp2_with fail
        clear hi hlt hl hl256 hpos hc hc2 hbw
        refine wp_region_tell (by kernel_rfl) (by kernel_rfl) (bpB A n c z1 z2 z3) (bpB_stab A n c z1 z2 z3) ?_ ?_
        · intro i o a w' hi hb he hd
          have e4 : a.eval (.tmp 4) = .slice A n c := hb.outer 4 (by kernel_rfl)
          rcases i with _ | _ | _ | _ | _ | _ | _ | _ | _ | _ | _ | i
          · obtain rfl := Option.some.inj hi
            refine tell_val (.slice (some ⟨w'.heap.size, 0, none⟩) 1 1) (w'.alloc (.cells #[.int .u8 66] 5)) ?_ ((Ext.refl _).alloc _) ⟨_, rfl, Blk.new _ _ _⟩
            simp [go_sem]
          · obtain rfl := Option.some.inj hi
            obtain ⟨g, h56, b56⟩ := hd ⟨0, .data⟩ (by simp) rfl
            have h56 : a.eval (.tmp 56) = _ := h56
            refine tell_val (.string z1) w' ?_ (Ext.refl _) rfl
            simp only [execOp, h56, Sem.run_bind, one_stringG 66 w' g (b56.cell 0), HZZ.out.1, Result.andThen_ok, Sem.run_pure]
          · obtain rfl := Option.some.inj hi
            refine tell_val (.slice A n c) w' ?_ (Ext.refl _) rfl
            generalize a.eval = ρ at *
            simp [go_sem, e4]
          · obtain rfl := Option.some.inj hi
            have h58 : a.eval (.tmp 58) = _ := hd ⟨2, .data⟩ (by simp) rfl
            refine tell_val (.int .i64 n) w' ?_ (Ext.refl _) rfl
            generalize a.eval = ρ at *
            simp [go_sem, h58]
          · obtain rfl := Option.some.inj hi
            have h59 : a.eval (.tmp 59) = _ := hd ⟨3, .data⟩ (by simp) rfl
            refine tell_val (.int .u64 n) w' ?_ (Ext.refl _) rfl
            generalize a.eval = ρ at *
            simp [go_sem, h59, hwn]
          · obtain rfl := Option.some.inj hi
            have h60 : a.eval (.tmp 60) = _ := hd ⟨4, .data⟩ (by simp) rfl
            refine tell_call 94 #[.int .u64 n, .int .i64 4] (.string z2) ?_ (HF1.out _) (fun _ _ => rfl)
            have ec : ∀ v, a.eval (.const v) = v := fun _ => rfl
            have ef : ∀ f, a.eval (.func f) = .func (.func f) #[] #[] := fun _ => rfl
            generalize a.eval = ρ at *
            simp [go_sem, h60, ec, ef]
          · obtain rfl := Option.some.inj hi
            have h57 : a.eval (.tmp 57) = _ := hd ⟨1, .data⟩ (by simp) rfl
            have h61 : a.eval (.tmp 61) = _ := hd ⟨5, .data⟩ (by simp) rfl
            refine tell_val (.string (z1 ++ z2)) w' ?_ (Ext.refl _) rfl
            generalize a.eval = ρ at *
            simp [go_sem, h57, h61, hq1]
          · obtain rfl := Option.some.inj hi
            refine tell_val (.slice A n c) w' ?_ (Ext.refl _) rfl
            generalize a.eval = ρ at *
            simp [go_sem, e4]
          · obtain rfl := Option.some.inj hi
            have h63 : a.eval (.tmp 63) = _ := hd ⟨7, .data⟩ (by simp) rfl
            refine tell_val (.string z3) w' ?_ (Ext.refl _) rfl
            simp only [execOp, h63, Sem.run_bind, HKB.out w' he, Result.andThen_ok, Sem.run_pure]
          · obtain rfl := Option.some.inj hi
            have h62 : a.eval (.tmp 62) = _ := hd ⟨6, .data⟩ (by simp) rfl
            have h64 : a.eval (.tmp 64) = _ := hd ⟨8, .data⟩ (by simp) rfl
            refine tell_val (.string (z1 ++ z2 ++ z3)) w' ?_ (Ext.refl _) rfl
            have hq2' : ¬ 9223372036854775807 < (z1 ++ z2).size + z3.size := by rw [ByteArray.size_append]; omega
            generalize z1 ++ z2 = z12 at *
            generalize a.eval = ρ at *
            simp [go_sem, h62, h64, hq2']
          · obtain rfl := Option.some.inj hi
            have h65 : a.eval (.tmp 65) = _ := hd ⟨9, .data⟩ (by simp) rfl
            refine tell_val (.string (z1 ++ z2 ++ z3)) w' ?_ (Ext.refl _) rfl
            generalize a.eval = ρ at *
            simp [go_sem, h65]
          · cases hi
        · intro a w2 hb hE2 hA
          have h10 : a.eval (.tmp 10) = .string (z1 ++ z2 ++ z3) := hA 10 (by simp)
          rw [act_lit (n := 72) hb.size, hb.defers]
          simp only [show List.range 72 = [0, 1, 2, 3, 4, 5, 6, 7, 8, 9, 10, 11, 12, 13, 14, 15, 16, 17, 18, 19, 20, 21, 22, 23, 24, 25, 26, 27, 28, 29, 30, 31, 32, 33, 34, 35, 36, 37, 38, 39, 40, 41, 42, 43, 44, 45, 46, 47, 48, 49, 50, 51, 52, 53, 54, 55, 56, 57, 58, 59, 60, 61, 62, 63, 64, 65, 66, 67, 68, 69, 70, 71] from rfl, List.map_cons, List.map_nil, h10]
          have HEF := Lib.hid hE2
          clear hA h10 hb hE2 hk1
          generalize a.eval = ρ
          have hzz : z1 ++ z2 ++ z3 = bs head := by rw [← HZZ.out.1, ← HZZ.out.2.1, ← HZZ.out.2.2, HHD.out, HS.out.hn, bs_append, bs_append]; rfl
          have hwc : IntKind.u64.wrap (crcOf head) = crcOf head := IntWalk.u64_in _ (by have := crcOf_range head; omega)
          rw [lb_bs, ← hzz] at HCR
          generalize hzf : bs (fixedB (crcOf head) (Int.toNat 4)) = zf at HF2
          have hq3 : ¬ 9223372036854775807 < z1.size + z2.size + z3.size + zf.size := by
            have h1 := HSZ.out
            have h2 : zf.size = 4 := by rw [← hzf]; simp [bs, ByteArray.size, fixedB_length]
            omega
          have HZF := Lib.hid (And.intro hzz hzf)
          clear hzz hzf
          generalize crcOf head = cr at *
          go_wp2_with (first | (go_at_call 95; refine (HCR.out _).mono ?_; rintro e w10 ⟨rfl, hE10⟩; have HE10 := Lib.hid hE10; clear hE10) | (go_at_call 94; refine (HF2.out _).mono ?_; rintro e w11 ⟨rfl, hE11⟩; have HE11 := Lib.hid hE11; clear hE11))
          go_ret2
          exact ⟨by rw [HTXT.out, ← bs_append, ← HZF.out.1]; exact congrArg (fun z => Ending.returned (.tuple #[.string (z1 ++ z2 ++ z3 ++ z), .int .i64 0])) HZF.out.2.symm, ((HS.out.ext.trans HEF.out).trans HE10.out).trans HE11.out⟩
  · rw [if_neg hb]
    have hb2 : btIs f l = false := by simpa using hb
    rw [hb2] at HI
    go_enter Tryz.func64, Tryz.ntmps64
    go_wp2_with (first | (refine wpList_load_blk rfl 83 (.tmp 1) rfl w.heap.size 83 (btCells f v p) rfl HB.out _ Tryz.underlying83 rfl HSZ.out ?_) | (go_at_call 90; refine (HI.out _ H0.out).mono ?_; rintro e w1 ⟨rfl, hE1⟩; have HE1 := Lib.hid hE1; clear hE1))
    go_ret2
    exact ⟨rfl, ((Ext.refl w).alloc _).trans HE1.out⟩
end Go.Proofs.YtnkebhlkhpgghaaGreatDoor
/- A map of ints to ints that lies in a block: what it tells of each key; looked up, written, cleared. Over any program. -/
namespace Go.Proofs.YtnkebhlkhpgghaaGreatDoor
open Go Go.RowKit

def ent (x : Int × Int × Nat) : MapEntry := { key := .int .i64 x.1, val := .int .i64 x.2.1, born := x.2.2 }
def seekL (l : List (Int × Int × Nat)) (k : Int) : Option Int := (l.find? (fun x => x.1 == k)).map (·.2.1)
/-- Block r is a map that tells f. -/
def Mp (w : World) (r : Nat) (f : Int → Option Int) : Prop := ∃ (l : List (Int × Int × Nat)) (c : Nat), w.heap[r]? = some (.map (l.map ent).toArray c) ∧ ∀ k, seekL l k = f k
theorem Mp.lt {w : World} {r : Nat} {f : Int → Option Int} (h : Mp w r f) : r < w.heap.size := by obtain ⟨l, c, h, _⟩ := h; exact lt_of_get h
theorem Mp.ext {w w' : World} {r : Nat} {f : Int → Option Int} (h : Mp w r f) (k : Ext w w') : Mp w' r f := by
  obtain ⟨l, c, h, hf⟩ := h
  exact ⟨l, c, (k.block r (lt_of_get h)).trans h, hf⟩
theorem Mp.keep {S : Nat → Prop} {w w' : World} {r : Nat} {f : Int → Option Int} (h : Mp w r f) (k : Keep S w w') (hs : ¬ S r) : Mp w' r f := by
  obtain ⟨l, c, h, hf⟩ := h
  exact ⟨l, c, (k.block r (lt_of_get h) hs).trans h, hf⟩
theorem Mp.ne {w : World} {r g : Nat} {t : TypeId} {cs : Array Value} {f : Int → Option Int} (h : Mp w r f) (hB : Blk w g t cs) : r ≠ g := by
  rintro rfl
  obtain ⟨l, c, h, _⟩ := h
  rw [Blk, h] at hB
  simp at hB
theorem findNow_ent (k : Int) : ∀ (l : List (Int × Int × Nat)) (i : Nat), Instr.findNow (.int .i64) (.int .i64 k) (l.map ent) i = some (match l.findIdx? (fun x => x.1 == k) with | none => none | some j => some (i + j, .int .i64 ((l.getD j (0, 0, 0)).2.1)))
  | [], i => rfl
  | x :: l, i => by
    have ih := findNow_ent k l (i + 1)
    by_cases hx : x.1 = k
    · simp [Instr.findNow, ent, Instr.sameNow, hx, List.findIdx?_cons]
    · have hx' : (k == x.1) = false := by simpa using fun h => hx h.symm
      have hx2 : (x.1 == k) = false := by simpa using hx
      simp only [List.map_cons, Instr.findNow, ent, Instr.sameNow, if_true, hx', List.findIdx?_cons, hx2]
      rw [ih]
      cases l.findIdx? (fun x => x.1 == k) with
      | none => simp
      | some j => simp; omega
theorem seek_idx (l : List (Int × Int × Nat)) (k : Int) : seekL l k = (l.findIdx? (fun x => x.1 == k)).map (fun j => (l.getD j (0, 0, 0)).2.1) := by
  induction l with
  | nil => rfl
  | cons x l ih =>
    unfold seekL at ih ⊢
    rw [List.find?_cons, List.findIdx?_cons]
    by_cases hx : (x.1 == k) = true
    · simp [hx]
    · simp only [hx, Bool.false_eq_true, if_false]
      rw [ih]
      cases l.findIdx? (fun x => x.1 == k) <;> simp
section
variable {P : Program} {w : World} {t kt et : TypeId}
theorem mp_get {r c : Nat} {es : Array MapEntry} (hb : w.heap[r]? = some (.map es c)) : (getObj r).run P w = .ok (.map es c) w := by simp [getObj, Sem.run, hb]
theorem mp_put {r c : Nat} {es : Array MapEntry} (o : Obj) (hb : w.heap[r]? = some (.map es c)) : (setObj r o).run P w = .ok () { w with heap := w.heap.setIfInBounds r o } := by simp [setObj, Sem.run, hb]
theorem run_find (hk : P.underlying kt = some (.int .i64)) (l : List (Int × Int × Nat)) (k : Int) : (Instr.findKey kt (.int .i64 k) (l.map ent)).run P w = .ok (match l.findIdx? (fun x => x.1 == k) with | none => none | some j => some (j, .int .i64 ((l.getD j (0, 0, 0)).2.1))) w := by
  have h := findNow_ent k l 0
  simp only [Nat.zero_add] at h
  simp only [Instr.findKey, Sem.run_bind, run_underlying hk, Result.andThen_ok, h]
  rfl
theorem run_chk (hk : P.underlying kt = some (.int .i64)) (e : Bool) (k : Int) : (Instr.checkKey e 10000 kt (.int .i64 k)).run P w = .ok () w := by
  show (Instr.checkKey e (9999 + 1) kt (.int .i64 k)).run P w = .ok () w
  unfold Instr.checkKey
  simp only [Sem.run_bind, run_underlying hk, Result.andThen_ok]
  rfl
/-- 'v, ok := m[k]'. -/
theorem Mp.look {r : Nat} {f : Int → Option Int} (h : Mp w r f) (ht : P.underlying t = some (.map kt et)) (hk : P.underlying kt = some (.int .i64)) (hz : (zeroValue et).run P w = .ok (.int .i64 0) w) (k : Int) :
    (Instr.lookup t (.map (some r)) (.int .i64 k) true).run P w = .ok (.tuple #[.int .i64 ((f k).getD 0), .bool (f k).isSome]) w := by
  obtain ⟨l, c, hb, hf⟩ := h
  have hl := run_find (P := P) (w := w) hk l k
  have hs := seek_idx l k
  rw [hf k] at hs
  simp only [Instr.lookup, Sem.run_bind, run_underlying ht, Result.andThen_ok, mp_get hb, Sem.run_pure, run_chk hk, List.toList_toArray, hl]
  rw [hs]
  cases l.findIdx? (fun x => x.1 == k) with
  | none => simp [hz]
  | some j => simp
def updF (f : Int → Option Int) (k v : Int) : Int → Option Int := fun x => if x = k then some v else f x
theorem find_set (k v : Int) : ∀ (l : List (Int × Int × Nat)) (j : Nat), l.findIdx? (fun x => x.1 == k) = some j → ∀ q, seekL (l.set j (k, v, (l.getD j (0, 0, 0)).2.2)) q = updF (seekL l) k v q
  | [], j, h, q => by simp at h
  | x :: l, j, h, q => by
    rw [List.findIdx?_cons] at h
    by_cases hx : x.1 = k
    · simp [hx] at h
      subst h
      by_cases hq : q = k
      · subst hq; simp [seekL, updF]
      · have hkq : (k == q) = false := by simpa using fun h => hq h.symm
        have hxq : (x.1 == q) = false := by rw [hx]; exact hkq
        simp [seekL, updF, hq, hkq, hxq]
    · have hx2 : (x.1 == k) = false := by simpa using hx
      simp only [hx2, Bool.false_eq_true, if_false, Option.map_eq_some_iff] at h
      obtain ⟨i, hi, rfl⟩ := h
      have ih := find_set k v l i hi q
      by_cases hq : x.1 = q
      · have hqk : q ≠ k := by rw [← hq]; exact hx
        simp [seekL, updF, hq, hqk]
      · have hxq : (x.1 == q) = false := by simpa using hq
        unfold seekL updF at ih ⊢
        simp only [List.set_cons_succ, List.find?_cons, hxq, List.getD_cons_succ]
        exact ih
theorem seek_none {l : List (Int × Int × Nat)} {k : Int} (h : l.findIdx? (fun x => x.1 == k) = none) (v : Int) (b : Nat) (q : Int) : seekL (l ++ [(k, v, b)]) q = updF (seekL l) k v q := by
  have hn := List.findIdx?_eq_none_iff.1 h
  unfold seekL updF
  rw [List.find?_append]
  by_cases hq : q = k
  · subst hq
    have : l.find? (fun x => x.1 == q) = none := by rw [List.find?_eq_none]; intro x hx; have := hn x hx; simpa using this
    simp [this]
  · have hkq : (k == q) = false := by simpa using fun h => hq h.symm
    simp [hq, hkq]
theorem modify_ent (l : List (Int × Int × Nat)) (j : Nat) (k v : Int) (hj : ((l.getD j (0, 0, 0)).1 = k)) (hlt : j < l.length) :
    (l.map ent).toArray.modify j (fun e => { e with key := .int .i64 k, val := .int .i64 v }) = ((l.set j (k, v, (l.getD j (0, 0, 0)).2.2)).map ent).toArray := by
  apply Array.ext_getElem?
  intro i
  rw [Array.getElem?_modify]
  simp only [List.getElem?_toArray, List.getElem?_map, List.getElem?_set]
  by_cases hi : j = i
  · subst hi
    simp [hlt, ent, List.getD, List.getElem?_eq_getElem hlt]
  · simp [hi]
/-- 'm[k] = v'. -/
theorem Mp.upd {r : Nat} {f : Int → Option Int} (h : Mp w r f) (ht : P.underlying t = some (.map kt et)) (hk : P.underlying kt = some (.int .i64)) (k v : Int) :
    ∃ w', (Instr.mapUpdate t (.map (some r)) (.int .i64 k) (.int .i64 v)).run P w = .ok () w' ∧ Mp w' r (updF f k v) ∧ Keep (One r) w w' := by
  obtain ⟨l, c, hb, hf⟩ := h
  have hl := run_find (P := P) (w := w) hk l k
  have hf' : seekL l = f := funext hf
  have hlt := lt_of_get hb
  have hkeep : ∀ o, Keep (One r) w { w with heap := w.heap.setIfInBounds r o } := fun o => ⟨rfl, rfl, rfl, by simp, fun i hi hs => by
    have hne : r ≠ i := fun e => hs e.symm
    simp [hne]⟩
  cases hi : l.findIdx? (fun x => x.1 == k) with
  | none =>
    rw [hi] at hl
    refine ⟨{ w with heap := w.heap.setIfInBounds r (.map ((l ++ [(k, v, c)]).map ent).toArray (c + 1)) }, ?_, ⟨l ++ [(k, v, c)], c + 1, by simp [hlt], fun q => by rw [seek_none hi, hf']⟩, hkeep _⟩
    simp only [Instr.mapUpdate, Sem.run_bind, run_underlying ht, Result.andThen_ok, mp_get hb, run_chk hk, List.toList_toArray, hl]
    rw [mp_put _ hb]
    simp [ent]
  | some j =>
    rw [hi] at hl
    have hj := List.findIdx?_eq_some_iff_getElem.1 hi
    obtain ⟨hjl, hjk, _⟩ := hj
    have hjk' : (l.getD j (0, 0, 0)).1 = k := by simpa [List.getD, List.getElem?_eq_getElem hjl] using hjk
    refine ⟨{ w with heap := w.heap.setIfInBounds r (.map ((l.set j (k, v, (l.getD j (0, 0, 0)).2.2)).map ent).toArray c) }, ?_, ⟨l.set j (k, v, (l.getD j (0, 0, 0)).2.2), c, by simp [hlt], fun q => by rw [find_set k v l j hi q, hf']⟩, hkeep _⟩
    have hke : (((l.map ent).toArray[j]?).map (·.key)).getD (.int .i64 k) = .int .i64 k := by
      simp only [List.getElem?_toArray, List.getElem?_map, List.getElem?_eq_getElem hjl, Option.map_some, Option.getD_some, ent]
      rw [show l[j].1 = k from by simpa using hjk]
    simp only [Instr.mapUpdate, Sem.run_bind, run_underlying ht, Result.andThen_ok, mp_get hb, run_chk hk, List.toList_toArray, hl, hke]
    have hks : (Instr.keyThatStays (.int .i64 k) (.int .i64 k)).run P w = .ok (.int .i64 k) w := by
      simp [Instr.keyThatStays, Instr.sameBits]
    rw [hks]
    simp only [Result.andThen_ok]
    rw [mp_put _ hb]
    rw [modify_ent l j k v hjk' hjl]
/-- 'clear(m)'. -/
theorem Mp.clear {r : Nat} {f : Int → Option Int} {ty : TypeId} (h : Mp w r f) (ht : P.underlying t = some (.map kt et)) : ∃ w', (Builtin.clear_ #[t] ty #[.map (some r)]).run P w = .ok (.tuple #[]) w' ∧ Mp w' r (fun _ => none) ∧ Keep (One r) w w' := by
  obtain ⟨l, c, hb, hf⟩ := h
  have hlt := lt_of_get hb
  refine ⟨{ w with heap := w.heap.setIfInBounds r (.map #[] c) }, ?_, ⟨[], c, by simp [hlt], fun q => rfl⟩, ⟨rfl, rfl, rfl, by simp, fun i hi hs => by
    have hne : r ≠ i := fun e => hs e.symm
    simp [hne]⟩⟩
  simp [Builtin.clear_, run_underlying ht, mp_get hb, mp_put _ hb]
end
end Go.Proofs.YtnkebhlkhpgghaaGreatDoor
/- The disk in memory, and sector's functions: the walks (of a disk that is not down and about which no Break is in force). -/
namespace Go.Proofs.YtnkebhlkhpgghaaGreatDoor
open Go Go.RowKit Go.Deep

def fnv (cb : Nat) : Value := .func (.func 100) #[] #[.pointer (some ⟨cb, 0, none⟩)]
/-- The place of a sector's last write. -/
def newIx (l : List (Nat × Bytes)) (s : Nat) : Option Nat := (l.reverse.findIdx? (fun p => p.1 == s)).map (fun j => l.length - 1 - j)
theorem newIx_snoc (l : List (Nat × Bytes)) (s t : Nat) (b : Bytes) : newIx (l ++ [(s, b)]) t = if s = t then some l.length else newIx l t := by
  unfold newIx
  rw [List.reverse_append]
  by_cases h : s = t
  · subst h; simp [List.findIdx?_cons]
  · simp only [List.reverse_cons, List.reverse_nil, List.nil_append, List.cons_append, List.findIdx?_cons, h, if_false]
    have hb : (s == t) = false := by simpa using h
    rw [hb]
    simp only [Bool.false_eq_true, if_false, Option.map_map]
    congr 1
    funext j
    simp
    omega
theorem newIx_some {l : List (Nat × Bytes)} {s i : Nat} (h : newIx l s = some i) : i < l.length ∧ ∃ b, l[i]? = some (s, b) ∧ lastW l s = some b := by
  revert h
  rw [← List.reverse_reverse l]
  generalize l.reverse = r
  induction r generalizing i with
  | nil => intro h; simp [newIx] at h
  | cons p r ih =>
    obtain ⟨t, b⟩ := p
    rw [List.reverse_cons, newIx_snoc, lastW_snoc]
    by_cases ht : t = s
    · rw [if_pos ht, if_pos ht]
      intro h
      obtain rfl : r.reverse.length = i := by simpa using h
      subst ht
      exact ⟨by simp, b, by simp, rfl⟩
    · rw [if_neg ht, if_neg ht]
      intro h
      obtain ⟨h1, c, h2, h3⟩ := ih h
      exact ⟨by simp at h1 ⊢; omega, c, by rw [List.getElem?_append_left h1]; exact h2, h3⟩
theorem newIx_none {l : List (Nat × Bytes)} {s : Nat} (h : newIx l s = none) : lastW l s = none := by
  unfold newIx at h
  unfold lastW
  simp only [Option.map_eq_none_iff, List.findIdx?_eq_none_iff] at h ⊢
  rw [List.find?_eq_none]
  intro x hx
  simpa using h x hx

/-- What the disk's blocks hold. -/
structure DiskC (F : Nat → Prop) (w : World) (d : Nat) (k : Dk) (bl m : Nat) (vp vw : Value) (cbs : List Nat) (f : Int → Option Int) : Prop where
  ok : k.Ok
  head : Blk w d 67 #[.int .i64 k.many, .int .i64 k.size, .slice (some ⟨bl, 0, none⟩) k.last.length k.last.length, vp, vw, .map (some m), .bool false, .bool false, .int .i64 0]
  last : Blk w bl 5 (bcells k.last).toArray
  pend : w.ownsRow 0 137 1 vp k.pend.length (cbs.map fnv)
  wher : w.ownsRow 0 3 1 vw k.pend.length (k.pend.map fun p => Value.int .i64 p.1)
  mp : Mp w m f
  hf : ∀ s : Nat, f s = (newIx k.pend s).map (fun i : Nat => (i : Int))
  cl : cbs.length = k.pend.length
  cb : ∀ (i g : Nat) (p : Nat × Bytes), cbs[i]? = some g → k.pend[i]? = some p → Blk w g 9 #[.string (bs p.2)]
  fd : F d
  fl : F bl
  fm : F m
  fp : ∀ g, vp.ownBlock = some g → F g
  fw : ∀ g, vw.ownBlock = some g → F g
  fc : ∀ g ∈ cbs, F g
  sz : ∀ g, F g → g < w.heap.size
/-- Block d is a disk that holds k, in the blocks F. -/
def Disk (F : Nat → Prop) (w : World) (d : Nat) (k : Dk) : Prop := ∃ bl m vp vw cbs f, DiskC F w d k bl m vp vw cbs f
theorem DiskC.ext {F : Nat → Prop} {w w' : World} {d : Nat} {k : Dk} {bl m : Nat} {vp vw : Value} {cbs : List Nat} {f : Int → Option Int} (h : DiskC F w d k bl m vp vw cbs f) (e : Ext w w') : DiskC F w' d k bl m vp vw cbs f :=
  ⟨h.ok, h.head.ext e, h.last.ext e, own_ext h.pend e, own_ext h.wher e, h.mp.ext e, h.hf, h.cl, fun i g p hi hp => (h.cb i g p hi hp).ext e, h.fd, h.fl, h.fm, h.fp, h.fw, h.fc, fun g hg => Nat.lt_of_lt_of_le (h.sz g hg) e.size⟩
theorem DiskC.keep {F S : Nat → Prop} {w w' : World} {d : Nat} {k : Dk} {bl m : Nat} {vp vw : Value} {cbs : List Nat} {f : Int → Option Int} (h : DiskC F w d k bl m vp vw cbs f) (e : Keep S w w') (hs : ∀ g, F g → ¬ S g) : DiskC F w' d k bl m vp vw cbs f :=
  ⟨h.ok, h.head.keep e (hs _ h.fd), h.last.keep e (hs _ h.fl), own_keep h.pend e (fun g hg => hs _ (h.fp g hg)), own_keep h.wher e (fun g hg => hs _ (h.fw g hg)), h.mp.keep e (hs _ h.fm), h.hf, h.cl, fun i g p hi hp => (h.cb i g p hi hp).keep e (hs _ (h.fc g (List.mem_of_getElem? hi))), h.fd, h.fl, h.fm, h.fp, h.fw, h.fc, fun g hg => Nat.lt_of_lt_of_le (h.sz g hg) e.size⟩
theorem Disk.ext {F : Nat → Prop} {w w' : World} {d : Nat} {k : Dk} (h : Disk F w d k) (e : Ext w w') : Disk F w' d k := by
  obtain ⟨bl, m, vp, vw, cbs, f, h⟩ := h; exact ⟨bl, m, vp, vw, cbs, f, h.ext e⟩
theorem Disk.keep {F S : Nat → Prop} {w w' : World} {d : Nat} {k : Dk} (h : Disk F w d k) (e : Keep S w w') (hs : ∀ g, F g → ¬ S g) : Disk F w' d k := by
  obtain ⟨bl, m, vp, vw, cbs, f, h⟩ := h; exact ⟨bl, m, vp, vw, cbs, f, h.keep e hs⟩
theorem Disk.ok {F : Nat → Prop} {w : World} {d : Nat} {k : Dk} (h : Disk F w d k) : k.Ok := by obtain ⟨_, _, _, _, _, _, h⟩ := h; exact h.ok
theorem Disk.sz {F : Nat → Prop} {w : World} {d : Nat} {k : Dk} (h : Disk F w d k) : ∀ g, F g → g < w.heap.size := by obtain ⟨_, _, _, _, _, _, h⟩ := h; exact h.sz
theorem Disk.fd {F : Nat → Prop} {w : World} {d : Nat} {k : Dk} (h : Disk F w d k) : F d := by obtain ⟨_, _, _, _, _, _, h⟩ := h; exact h.fd
theorem Disk.cells {F : Nat → Prop} {w : World} {d : Nat} {k : Dk} (h : Disk F w d k) : w.cell? ⟨d, 0, none⟩ = some (.int .i64 k.many) ∧ w.cell? ⟨d, 1, none⟩ = some (.int .i64 k.size) := by
  obtain ⟨_, _, _, _, _, _, h⟩ := h; exact ⟨h.head.cell 0, h.head.cell 1⟩

/-- From w with the disk's blocks F to w' with F': nothing else has turned, and the new blocks are new. -/
def Moves (F : Nat → Prop) (w : World) (F' : Nat → Prop) (w' : World) : Prop := Keep F w w' ∧ ∀ g, F' g → F g ∨ w.heap.size ≤ g
theorem Moves.trans {F F' F'' : Nat → Prop} {w w' w'' : World} (h : Moves F w F' w') (k : Moves F' w' F'' w'') : Moves F w F'' w'' :=
  ⟨h.1.then k.1 h.2, fun g hg => by
    rcases k.2 g hg with h1 | h1
    · exact h.2 g h1
    · exact .inr (Nat.le_trans h.1.size h1)⟩
theorem Moves.refl (F : Nat → Prop) (w : World) : Moves F w F w := ⟨Keep.refl _ _, fun g hg => .inl hg⟩
theorem Moves.of_ext {F : Nat → Prop} {w w' : World} (h : Ext w w') : Moves F w F w' := ⟨Keep.of_ext h, fun g hg => .inl hg⟩
theorem Moves.size {F F' : Nat → Prop} {w w' : World} (h : Moves F w F' w') : w.heap.size ≤ w'.heap.size := h.1.size
/-- It hands back v, and the disk holds k. -/
def Did (F : Nat → Prop) (w : World) (d : Nat) (v : Value) (k : Dk) : Ending → World → Prop := fun e w' => e = .returned v ∧ ∃ F', Disk F' w' d k ∧ Moves F w F' w'

/-! ### The walks -/
theorem size_any {F : Nat → Prop} {d : Nat} {k : Dk} (w : World) (h : Disk F w d k) : Calls Tryz.prog 44 #[.pointer (some ⟨d, 0, none⟩)] w (Ret (.tuple #[.int .i64 k.many, .int .i64 k.size]) w) := by
  obtain ⟨c0, c1⟩ := h.cells
  clear h
  generalize (k.many : Int) = a at *
  generalize (k.size : Int) = b at *
  go_enter Tryz.func44, Tryz.ntmps44
  go_wp2_with fail
  go_quiet (fail)
  go_wp2_with fail
  go_ret2
  exact ⟨rfl, (Ext.refl w).drewN _⟩
theorem pending_any {F : Nat → Prop} {d : Nat} {k : Dk} (w : World) (h : Disk F w d k) : Calls Tryz.prog 12 #[.pointer (some ⟨d, 0, none⟩)] w (Ret (.int .i64 k.pend.length) w) := by
  obtain ⟨bl, m, vp, vw, cbs, f, h⟩ := h
  obtain ⟨A, c, rfl⟩ := own_slice h.pend
  have c3 := h.head.cell 3
  simp at c3
  clear h
  generalize k.pend.length = n at *
  go_enter Tryz.func12, Tryz.ntmps12
  go_wp2_with fail
  go_ret
  exact ⟨rfl, Ext.refl w⟩
theorem image_any {F : Nat → Prop} {d : Nat} {k : Dk} (w : World) (h : Disk F w d k) : Calls Tryz.prog 11 #[.pointer (some ⟨d, 0, none⟩)] w (Ret (.string (bs k.last)) w) := by
  obtain ⟨bl, m, vp, vw, cbs, f, h⟩ := h
  have c2 := h.head.cell 2
  simp at c2
  have hcv := blk_string (P := Tryz.prog) (src := 62) (dst := 9) (c := k.last.length) Tryz.underlying62 Tryz.underlying5 Tryz.underlying9 h.last
  clear h
  generalize k.last.length = n at *
  go_enter Tryz.func11, Tryz.ntmps11
  go_wp2_with fail
  go_ret
  exact ⟨rfl, Ext.refl w⟩
theorem count_any {F : Nat → Prop} {d : Nat} {k : Dk} (w : World) (h : Disk F w d k) : Calls Tryz.prog 80 #[.pointer (some ⟨d, 0, none⟩)] w (Ret (.tuple #[]) w) := by
  obtain ⟨bl, m, vp, vw, cbs, f, h⟩ := h
  have c7 := h.head.cell 7
  simp at c7
  clear h
  go_enter Tryz.func80, Tryz.ntmps80
  go_wp2_with fail
  exact bodyPost_ret (results_none rfl _ _ _) rfl ⟨rfl, Ext.refl w⟩
theorem refuse_any {F : Nat → Prop} {d : Nat} {k : Dk} (s : Nat) (w : World) (h : Disk F w d k) (hs : s < k.many) : Calls Tryz.prog 86 #[.pointer (some ⟨d, 0, none⟩), .int .i64 s] w (Ret (.int .i64 0) w) := by
  obtain ⟨c0, _⟩ := h.cells
  obtain ⟨bl, m, vp, vw, cbs, f, h⟩ := h
  have c6 := h.head.cell 6
  simp at c6
  clear h
  have hs1 : ¬ ((s : Int) < 0) := by omega
  have hd1 : decide ((s : Int) < 0) = false := decide_eq_false hs1
  have hd2 : decide ((k.many : Int) ≤ s) = false := decide_eq_false (by omega)
  generalize (k.many : Int) = a at *
  go_enter Tryz.func86, Tryz.ntmps86
  go_wp2_with fail
  go_ret
  exact ⟨rfl, Ext.refl w⟩


/-! ### Bytes copied into a block -/
def putC (cur : Array Value) (off : Nat) (b : Bytes) : Array Value := (cur.toList.take off ++ bcells b ++ cur.toList.drop (off + b.length)).toArray
theorem putC_size {cur : Array Value} {off : Nat} {b : Bytes} (h : off + b.length ≤ cur.size) : (putC cur off b).size = cur.size := by
  simp [putC, bcells]; omega
theorem putC_bcells (l : Bytes) (off : Nat) (b : Bytes) : putC (bcells l).toArray off b = (bcells (lay l off b)).toArray := by
  simp [putC, lay, bcells]
theorem keep_setRow (w : World) (g : Nat) (cs : Array Value) : Keep (One g) w (w.setRow g cs) :=
  ⟨rfl, rfl, rfl, by simp [World.setRow], fun k hk hs => setRow_other w g k cs (fun e => hs (by first | exact e | exact e.symm))⟩
theorem wpList_copyS {P : Program} {ops : Array Oper} {rest : List Oper} {o : Oper} {a : Act} {Q : Exit → Act → World → Prop} {w : World} (hgd : o.guard = none) (d s : Operand) (dT sT : TypeId)
    (ho : o.op = .call { callee := .builtin .copy, args := #[d, s], argTypes := #[dT, sT] }) (elem : TypeId) (hu : P.underlying dT = some (.slice elem)) (hsz : (P.info? elem).map (·.size) = some 1)
    (g off dLen dCap : Nat) (hd : a.eval d = .slice (some ⟨g, off, none⟩) dLen dCap) (b : Bytes) (hs : a.eval s = .string (bs b)) (t : TypeId) (cur : Array Value) (hB : Blk w g t cur) (hle : b.length ≤ dLen) (hfit : off + b.length ≤ cur.size)
    (h : ∀ w1, Blk w1 g t (putC cur off b) → Keep (One g) w w1 → wpList P ops Q rest (a.put o.dst (goInt b.length)) w1) : wpList P ops Q (o :: rest) a w := by
  refine wpList_plain hgd fun K hK => ?_
  have hb : (bs b).size = b.length := by simp [bs, ByteArray.size]
  have hrun := Lib.run_copy_row_string (P := P) w dT sT o.type elem g off dLen dCap (bs b) cur t hu hsz hB (by rw [hb]; exact hle) (by rw [hb]; exact hfit)
  have hcells : (cur.toList.take off ++ Lib.byteCells (bs b).data.toList ++ cur.toList.drop (off + (bs b).size)).toArray = putC cur off b := by
    rw [hb]; simp [putC, bcells, Lib.byteCells, bs]
  rw [hcells, hb] at hrun
  unfold Oper.wp
  simp only [execOp, ho, resolve, invoke, builtin, Sem.run_bind, Sem.run_pure, Result.andThen_ok, List.map_toArray, List.map_cons, List.map_nil, hd, hs, hrun]
  exact hK _ _ (h _ (setRow_heap w g _ _ t _ hB) (keep_setRow w g _))

set_option maxRecDepth 4000 in
set_option maxHeartbeats 400000 in
theorem wr1_any (g off n c cb : Nat) (b : Bytes) (cur : Array Value) (w : World) (hB : Blk w g 5 cur) (hC : Blk w cb 9 #[.string (bs b)]) (hn : b.length = n) (hf : off + n ≤ cur.size) (hc : n ≤ c) :
    Calls Tryz.prog 100 #[.slice (some ⟨g, off, none⟩) n c, .int .i64 n, .pointer (some ⟨cb, 0, none⟩)] w fun e w' => e = .returned (.tuple #[]) ∧ Blk w' g 5 (putC cur off b) ∧ Keep (One g) w w' := by
  have cc := hC.cell 0
  simp at cc
  have hc1 : (0 : Int) ≤ (n : Int) := by omega
  have hc2 : (n : Int) ≤ c := by omega
  have HF := Lib.hid hf
  clear hf hc
  have HB := Lib.hid hB
  have HN := Lib.hid hn
  clear hB hC hn
  generalize hz : bs b = z at *
  have HZ := Lib.hid hz
  clear hz
  go_enter Tryz.func100, Tryz.ntmps100
  go_wp2_with fail
  refine wp_region_still_tail 4 (by kernel_rfl) (by kernel_rfl) ?_
  simp only [List.take_succ_cons, List.take_zero, List.drop_succ_cons, List.drop_zero]
  still_step
  still_step
  still_step
  still_step
  refine wpStill_nil ?_
  refine wpList_copyS rfl (.tmp 7) (.tmp 8) 62 9 rfl 5 Tryz.underlying62 (by kernel_rfl) g off n c rfl b (congrArg Value.string HZ.out.symm) 5 cur HB.out.drew (Nat.le_of_eq HN.out) (by rw [HN.out]; exact HF.out) ?_
  intro w1 hB1 hK1
  have HB1 := Lib.hid (And.intro hB1 hK1)
  clear hB1 hK1
  go_wp2_with fail
  go_end0
  exact ⟨rfl, HB1.out.1, ((Keep.refl _ w).drew).trans HB1.out.2⟩
end Go.Proofs.YtnkebhlkhpgghaaGreatDoor
/- sector's functions, on: the walks. -/
namespace Go.Proofs.YtnkebhlkhpgghaaGreatDoor
open Go Go.RowKit Go.Deep

set_option maxRecDepth 8000 in
set_option maxHeartbeats 400000 in
theorem sector_any {F : Nat → Prop} {w : World} {d : Nat} {k : Dk} {bl m : Nat} {vp vw : Value} {cbs : List Nat} {f : Int → Option Int} (h : DiskC F w d k bl m vp vw cbs f) (s : Nat) (hs : s < k.many) :
    Calls Tryz.prog 78 #[.pointer (some ⟨d, 0, none⟩), .int .i64 s] w (Ret (.slice (some ⟨bl, s * k.size, none⟩) k.size (k.last.length - s * k.size)) w) := by
  have c1 := h.head.cell 1
  have c2 := h.head.cell 2
  simp at c1 c2
  have hfit := fit_mul (z := k.size) hs
  have hlen := h.ok.len
  have hz := h.ok.s1
  have hz2 := h.ok.s2
  have hm2 := h.ok.m2
  have hmm : k.many * k.size ≤ 4096 * 1024 := Nat.mul_le_mul hm2 hz2
  have hq : ((s : Int) * (k.size : Int)) = ((s * k.size : Nat) : Int) := by simp
  have hq2 : (((s : Int) + 1) * (k.size : Int)) = ((s * k.size + k.size : Nat) : Int) := by rw [Int.add_mul, hq]; simp
  generalize k.last.length = n at *
  rw [← hlen] at hfit hmm
  have hw1 : IntKind.i64.wrap ((s : Int) * (k.size : Int)) = ((s * k.size : Nat) : Int) := by rw [hq]; exact IntWalk.i64_in _ (by omega)
  have hw2 : IntKind.i64.wrap (((s : Int) + 1) * (k.size : Int)) = ((s * k.size + k.size : Nat) : Int) := by rw [hq2]; exact IntWalk.i64_in _ (by omega)
  have hs2 : (s : Int) < 4096 := by omega
  clear h hq hq2 hlen hm2 hs
  generalize s * k.size = q at *
  generalize k.size = z at *
  have hw3 : IntKind.i64.wrap ((s : Int) + 1) = (s : Int) + 1 := IntWalk.i64_in _ (by omega)
  have hw4 : ((q + z : Nat) : Int).toNat = q + z := by omega
  have hb1 : (0 : Int) ≤ ((q + z : Nat) : Int) := by omega
  have hb2 : ((q + z : Nat) : Int) ≤ n := by omega
  have hb3 : (q : Int) ≤ ((q + z : Nat) : Int) := by omega
  have hb4 : (0 : Int) ≤ (q : Int) := by omega
  have hne : ¬ n = q := by omega
  have hsub : q + z - q = z := by omega
  simp only [Int.natCast_add] at hw2 hw4 hb1 hb2 hb3
  clear hfit hz hz2 hmm
  go_enter Tryz.func78, Tryz.ntmps78
  go_wp2_with fail
  go_quiet (fail)
  go_wp2_with fail
  go_ret
  exact ⟨by simp [hsub], (Ext.refl w).drewN _⟩

theorem DiskC.cs {F : Nat → Prop} {w : World} {d : Nat} {k : Dk} {bl m : Nat} {vp vw : Value} {cbs : List Nat} {f : Int → Option Int} (h : DiskC F w d k bl m vp vw cbs f) :
    w.cell? ⟨d, 1, none⟩ = some (.int .i64 k.size) ∧ w.cell? ⟨d, 3, none⟩ = some vp ∧ w.cell? ⟨d, 4, none⟩ = some vw ∧ w.cell? ⟨d, 5, none⟩ = some (.map (some m)) :=
  ⟨h.head.cell 1, h.head.cell 3, h.head.cell 4, h.head.cell 5⟩
theorem zero_int (w : World) : (zeroValue 3).run Tryz.prog w = .ok (.int .i64 0) w := by kernel_rfl
theorem DiskC.look {F : Nat → Prop} {w : World} {d : Nat} {k : Dk} {bl m : Nat} {vp vw : Value} {cbs : List Nat} {f : Int → Option Int} (h : DiskC F w d k bl m vp vw cbs f) (s : Nat) :
    (Instr.lookup 63 (.map (some m)) (.int .i64 s) true).run Tryz.prog w = .ok (.tuple #[.int .i64 (((newIx k.pend s).map (fun i : Nat => (i : Int))).getD 0), .bool (newIx k.pend s).isSome]) w := by
  have h1 := h.mp.look (P := Tryz.prog) Tryz.underlying63 Tryz.underlying3 (zero_int w) (s : Int)
  rw [h.hf s] at h1
  rw [h1]
  simp
theorem DiskC.sec_cells {F : Nat → Prop} {w : World} {d : Nat} {k : Dk} {bl m : Nat} {vp vw : Value} {cbs : List Nat} {f : Int → Option Int} (h : DiskC F w d k bl m vp vw cbs f) (s : Nat) :
    ∀ j u, (bcells (k.sec s))[j]? = some u → w.cell? ((⟨bl, s * k.size, none⟩ : Addr).add j) = some u := by
  intro j u hu
  rw [Addr.add_lit, h.last.cell]
  simp only [bcells, List.getElem?_map, Option.map_eq_some_iff, List.getElem?_toArray, Dk.sec] at hu ⊢
  obtain ⟨c, hc, rfl⟩ := hu
  refine ⟨c, ?_, rfl⟩
  by_cases hj : j < k.size
  · rw [List.getElem?_take_of_lt hj, List.getElem?_drop] at hc
    exact hc
  · rw [List.getElem?_eq_none (by simp; omega)] at hc
    cases hc
theorem DiskC.clos {F : Nat → Prop} {w : World} {d : Nat} {k : Dk} {bl m : Nat} {A : Option Addr} {c : Nat} {vw : Value} {cbs : List Nat} {f : Int → Option Int} (h : DiskC F w d k bl m (.slice A k.pend.length c) vw cbs f) {i : Nat} (hi : i < k.pend.length) {p : Nat × Bytes} (hp : k.pend[i]? = some p) :
    ∃ gp cb, A = some ⟨gp, 0, none⟩ ∧ w.cell? ⟨gp, i, none⟩ = some (.func (.func 100) #[] #[.pointer (some ⟨cb, 0, none⟩)]) ∧ Blk w cb 9 #[.string (bs p.2)] := by
  have hO := h.pend
  have hcl := h.cl
  obtain ⟨cb, hcb⟩ : ∃ cb, cbs[i]? = some cb := ⟨_, List.getElem?_eq_getElem (by omega)⟩
  rcases hO.2 with ⟨hv, hl⟩ | ⟨g, cap, cur, hv, hb, hg, hcap, hm, hcs, ht⟩
  · simp at hv; omega
  · simp at hv
    obtain ⟨rfl, rfl⟩ := hv
    refine ⟨g, cb, rfl, ?_, h.cb i cb p hcb hp⟩
    have := hO.cells (g := g) rfl i (fnv cb) (by rw [List.getElem?_map, hcb]; rfl)
    rw [Addr.add_lit, Nat.zero_add] at this
    exact this
theorem putC_take {cur : Array Value} {b : Bytes} {z : Nat} (h : b.length = z) : (putC cur 0 b).toList.take z = bcells b := by
  simp [putC, bcells, h]
theorem conv_blk {w : World} {g n c : Nat} {cur : Array Value} {l : Bytes} (hB : Blk w g 5 cur) (hn : n = l.length) (ht : cur.toList.take n = bcells l) : (convert 62 9 (.slice (some ⟨g, 0, none⟩) n c)).run Tryz.prog w = .ok (.string (bs l)) w := by
  rw [run_convert_bytes_arg w 62 5 Tryz.underlying62 Tryz.underlying5 g 0 n c (l.map fun c => (c.toNat : Int)) (by simpa using hn.symm) (fun i hi => ?_) 9 Tryz.underlying9]
  · exact congrArg (fun z => Result.ok (Value.string z) w) (nums_bytes l)
  · have hi' : i < l.length := by omega
    have h1 : (cur.toList.take n)[i]? = (bcells l)[i]? := by rw [ht]
    rw [List.getElem?_take_of_lt (by omega)] at h1
    simp only [bcells, List.getElem?_map, List.getElem?_eq_getElem hi', Option.map_some] at h1
    rw [Nat.zero_add, hB.cell]
    rw [← Array.getElem?_toList, h1]
    simp [List.getD, hi']
/-- A row of the call's own that has something: its block. -/
theorem own_block {w : World} {base n : Nat} {e : TypeId} {A : Option Addr} {c : Nat} {l : Bytes} (h : w.ownsRow base e 1 (.slice A n c) n (bcells l)) (hn : n = l.length) (h0 : 0 < n) :
    ∃ g cur, A = some ⟨g, 0, none⟩ ∧ base ≤ g ∧ Blk w g e cur ∧ n ≤ cur.size ∧ n ≤ c ∧ cur.toList.take n = bcells l := by
  rcases h.2 with ⟨hv, _⟩ | ⟨g, cap, cur, hv, hb, hg, hcap, hm, hcs, ht⟩
  · simp at hv; omega
  · simp at hv
    obtain ⟨rfl, rfl⟩ := hv
    refine ⟨g, cur, rfl, hb, hg, ?_, by omega, ?_⟩
    · simp at hcs; omega
    · simpa using ht

set_option maxRecDepth 8000 in
set_option maxHeartbeats 800000 in
theorem read_any {F : Nat → Prop} {d : Nat} {k : Dk} (s : Nat) (w : World) (hD : Disk F w d k) (hs : s < k.many) : Calls Tryz.prog 57 #[.pointer (some ⟨d, 0, none⟩), .int .i64 s] w (Ret (.tuple #[.string (bs (k.read s)), .int .i64 0]) w) := by
  have HR := Lib.hid (fun w' (e : Ext w w') => refuse_any s w' (hD.ext e) hs)
  have HC := Lib.hid (fun w' (e : Ext w w') => count_any w' (hD.ext e))
  obtain ⟨bl, m, vp, vw, cbs, f, h⟩ := hD
  have HSEC := Lib.hid (fun w' (e : Ext w w') => sector_any (h.ext e) s hs)
  have HX := Lib.hid (fun w' (e : Ext w w') => (h.ext e).sec_cells s)
  have hl := h.ok.sec_length hs
  have HL := Lib.hid hl
  have hz := h.ok.s1
  have hz2 := h.ok.s2
  have hlen : k.size ≤ 140737488355328 := by omega
  have HLEN := Lib.hid (And.intro hz hlen)
  have hq : k.last.length - s * k.size = k.last.length - s * k.size := rfl
  generalize k.last.length - s * k.size = q at HSEC
  obtain ⟨Ap, cp, rfl⟩ := own_slice h.pend
  cases hix : newIx k.pend s with
  | none =>
    have hrd : k.read s = k.sec s := by unfold Dk.read; rw [newIx_none hix]; rfl
    rw [hrd]
    have HLK := Lib.hid (fun w' (e : Ext w w') => (h.ext e).look s)
    rw [hix] at HLK
    simp only [Option.map_none, Option.getD_none, Option.isSome_none] at HLK
    have HCS := Lib.hid (fun w' (e : Ext w w') => (h.ext e).cs)
    clear h hs hl hz hz2 hlen hq hix hrd
    generalize k.sec s = X at *
    generalize k.size = z at *
    generalize k.pend.length = np at *
    go_enter Tryz.func57, Tryz.ntmps57
    go_wp2_with (first | (go_at_call 86; refine (HR.out _ (Ext.refl _)).mono ?_; rintro e w1 ⟨rfl, hE1⟩; have HE1 := Lib.hid hE1; clear hE1) | (go_at_call 78; refine (HSEC.out _ HE1.out).mono ?_; rintro e w2 ⟨rfl, hE2⟩; have HE2 := Lib.hid (HE1.out.trans hE2); clear hE2) | (at_builtin; go_loud (refine wpList_appendB w2.heap.size rfl (.const (.slice none 0 0)) (.tmp 18) 62 5 rfl Tryz.underlying62 info_u8 (.slice none 0 0) 0 [] X rfl (own_none _ _ _ _) rfl (Nat.le_refl _) ⟨bl, s * z, none⟩ z q rfl HL.out.symm (HX.out _ HE2.out) (by rw [HL.out]; simpa using HLEN.out.2) ?_; intro A c n w3 hn hO hK; have hE3 := HE2.out.trans (hK.ext (fun i hi => by simp [Of, Value.ownBlock] at hi)); obtain ⟨c1, c3, c4, c5⟩ := HCS.out _ hE3; have hlk := HLK.out _ hE3; have hcv := own_string (P := Tryz.prog) (src := 62) (dst := 9) (e' := 5) Tryz.underlying62 Tryz.underlying5 Tryz.underlying9 hO; have HO := Lib.hid (And.intro hn hO); have HE3 := Lib.hid hE3; clear hn hO hK hE3)) | (go_at_call 80; refine (HC.out _ HE3.out).mono ?_; rintro e w4 ⟨rfl, hE4⟩; have hcv4 := own_string (P := Tryz.prog) (src := 62) (dst := 9) (e' := 5) Tryz.underlying62 Tryz.underlying5 Tryz.underlying9 (own_ext HO.out.2 hE4); have HE4 := Lib.hid (HE3.out.trans hE4); clear hE4))
    go_ret2
    exact ⟨rfl, HE4.out⟩
  | some i =>
    obtain ⟨hi, b, hb, hlw⟩ := newIx_some hix
    have hrd : k.read s = b := by unfold Dk.read; rw [hlw]; rfl
    rw [hrd]
    have hbl : b.length = k.size := (h.ok.pend _ (List.mem_of_getElem? hb)).2
    have HBL := Lib.hid hbl
    have HLK := Lib.hid (fun w' (e : Ext w w') => (h.ext e).look s)
    rw [hix] at HLK
    simp only [Option.map_some, Option.getD_some, Option.isSome_some] at HLK
    have HCS := Lib.hid (fun w' (e : Ext w w') => (h.ext e).cs)
    obtain ⟨gp, cb, rfl, hcf, hcb⟩ := h.clos hi hb
    have HCF := Lib.hid (fun w' (e : Ext w w') => e.cell_some hcf)
    have HCB := Lib.hid (fun w' (e : Ext w w') => hcb.ext e)
    clear h hs hl hz hz2 hlen hq hix hrd hbl hlw hb hcf hcb
    generalize k.sec s = X at *
    generalize k.size = z at *
    generalize k.pend.length = np at *
    have hi0 : (0 : Int) ≤ (i : Int) := by omega
    have hi1 : (i : Int) < np := by omega
    have hid : decide ((i : Int) < np) = true := decide_eq_true hi1
    clear hi
    go_enter Tryz.func57, Tryz.ntmps57
    go_wp2_with (first | (go_at_call 86; refine (HR.out _ (Ext.refl _)).mono ?_; rintro e w1 ⟨rfl, hE1⟩; have HE1 := Lib.hid hE1; clear hE1) | (go_at_call 78; refine (HSEC.out _ HE1.out).mono ?_; rintro e w2 ⟨rfl, hE2⟩; have HE2 := Lib.hid (HE1.out.trans hE2); clear hE2) | (at_builtin; go_loud (refine wpList_appendB w2.heap.size rfl (.const (.slice none 0 0)) (.tmp 18) 62 5 rfl Tryz.underlying62 info_u8 (.slice none 0 0) 0 [] X rfl (own_none _ _ _ _) rfl (Nat.le_refl _) ⟨bl, s * z, none⟩ z q rfl HL.out.symm (HX.out _ HE2.out) (by rw [HL.out]; simpa using HLEN.out.2) ?_; intro A c n w3 hn hO hK; have hE3 := HE2.out.trans (hK.ext (fun i hi => by simp [Of, Value.ownBlock] at hi)); obtain ⟨c1, c3, c4, c5⟩ := HCS.out _ hE3; have hlk := HLK.out _ hE3; have hcf := HCF.out _ hE3; obtain ⟨g, cur, rfl, hbg, hB, hsz, hnc, ht⟩ := own_block hO (by simpa using hn) (by have h1 := HL.out; have h2 := HLEN.out; simp at hn; omega); obtain rfl : z = n := (by have h1 := HL.out; simp at hn; omega); have HB := Lib.hid (And.intro hn (And.intro hbg (And.intro hB (And.intro hsz (And.intro hnc (HE2.out.size)))))); have HE3 := Lib.hid hE3; clear hn hbg hB hsz hnc ht hO hK hE3)))
    go_still_tail 12, (by kernel_rfl)
    go_wp2_with (first | (go_at_call 100; refine (wr1_any g 0 z c cb b cur _ HB.out.2.2.1.drew (HCB.out _ HE3.out).drew HBL.out (by have := HB.out.2.2.2.1; omega) HB.out.2.2.2.2.1).mono ?_; rintro e w5 ⟨rfl, hB5, hK5⟩; have HE5 := Lib.hid (HE3.out.drew.keep hK5 (fun i hi => by have := HB.out; cases hi; omega)); have HB5 := Lib.hid hB5; clear hB5 hK5) | (go_at_call 80; refine (HC.out _ HE5.out).mono ?_; rintro e w6 ⟨rfl, hE6⟩; have hcv := conv_blk (n := z) (c := c) (l := b) (HB5.out.ext hE6) HBL.out.symm (putC_take HBL.out); have HE6 := Lib.hid (HE5.out.trans hE6); clear hE6))
    go_ret2
    exact ⟨rfl, HE6.out⟩
end Go.Proofs.YtnkebhlkhpgghaaGreatDoor
