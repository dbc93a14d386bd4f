/- Part 2 of the texts that the proof rests on: an abstract machine over pure values, what functions of the program come to. No condition. -/
import Derived.Test.YtbgpmnpjekmojaaQ1
import Derived.Orders
import Derived.ScopeJumps

set_option linter.unusedSimpArgs false
set_option linter.unusedVariables false
set_option linter.unnecessarySimpa false

/- A call's effect on a pure state. No condition. -/
namespace Go.Vai

section
variable {Γ : Ctx} {E : Env} {β : Nat → Option RA} {st : St} {a : Act} {w : World} {o : Oper} {k : St → Prop} {K : Act → World → Prop} {Q : Exit → Act → World → Prop}

/-- Values in line. -/
def RepA (w : World) (cx : Cx) (ps : List PV) (vs : List Value) : Prop := vs.length = ps.length ∧ ∀ (i : Nat) p v, ps[i]? = some p → vs[i]? = some v → RepV w cx p v

theorem RepA.map {w' : World} {cx cx' : Cx} {ps : List PV} {vs : List Value} (f : PV → PV) (hf : ∀ p v, p ∈ ps → RepV w cx p v → RepV w' cx' (f p) v) (h : RepA w cx ps vs) : RepA w' cx' (ps.map f) vs := by
  refine ⟨by simp [h.1], fun i p v hp hv => ?_⟩
  rw [List.getElem?_map] at hp
  cases hi : ps[i]? with
  | none => rw [hi] at hp; cases hp
  | some q =>
    rw [hi] at hp
    cases hp
    exact hf q v (List.mem_of_getElem? hi) (h.2 i q v hi hv)

theorem pubArgs_ok {vs : List Value} : ∀ {n : Nat} {args : List PV} {st : St} {β : Nat → Option RA} {F : List PV → St → Prop}, RepS Γ E β st a w → RepA w (E.cx β w) args vs → pubArgs n args st F →
    ∃ args' st' β', F args' st' ∧ RepS Γ E β' st' a w ∧ RepA w (E.cx β' w) args' vs
  | 0, _, _, _, _, _, _, hF => hF.elim
  | n + 1, args, st, β, F, h, hr, hF => by
    unfold pubArgs at hF
    split at hF
    · exact ⟨args, st, β, hF, h, hr⟩
    · rename_i k hk
      split at hF
      · rename_i sz es h1 h2
        obtain ⟨h3, h4⟩ := h.pub (Nat.le_of_ble_eq_true h1) h2
        exact pubArgs_ok h3 (hr.map _ (fun p v _ hp => h4 p v hp)) hF
      · exact hF.elim

theorem does_wp {g : FuncId} {vs : List Value} {R : Value → World → Prop} (hd : Does Γ.P g vs.toArray w R) (hex : (execOp a.eval o).run Γ.P w = (callFunc g vs.toArray).run Γ.P w) (hK : ∀ v w', R v w' → K (a.put o.dst v) w') : o.wp Γ.P a w K Q := by
  unfold Oper.wp
  rw [hex]
  rcases hd with ⟨h1, h2⟩ | ⟨v, w', h1, h2⟩
  · rw [h1.run, Oper.upon_enter]
    refine h2.mono ?_
    rintro e w' ⟨v, rfl, h4⟩
    exact hK v w' h4
  · rw [h1]
    exact hK v w' h2

/-- The world has grown behind a call that was handed nothing. -/
theorem RepS.grown (h : RepS Γ E β st a w) {w' : World} (hk : Keeps w w' (fun _ => False)) : RepS Γ E β st a w' ∧ Move w w' (E.cx β w) (E.cx β w') := by
  have hb : ∀ b, b < w.heap.size → w'.heap[b]? = w.heap[b]? := fun b hb => hk.block b hb (fun h => h)
  have hm : Move w w' (E.cx β w) (E.cx β w') := move_grown h hk.size (fun b hlt _ => hb b hlt) (fun b _ hb => hb)
  refine ⟨{ size := h.size, oth := h.oth.grown rfl hk.size (fun b hlt _ => hb b hlt) (fun b _ hb => hb), frv := fun s v hv => RepV.mono hm (fun _ _ => rfl) (h.frv s v hv), hp := fun j x hj => ?_, dom := h.dom, inj := h.inj, own := fun j b c s l hj => ⟨(h.own j b c s l hj).1, Nat.lt_of_lt_of_le (h.own j b c s l hj).2 hk.size⟩, keeps := ⟨hk.os.trans h.keeps.os, hk.tape.trans h.keeps.tape, hk.output.trans h.keeps.output, Nat.le_trans h.keeps.size hk.size, fun b hlt hn => (hb b (Nat.lt_of_lt_of_le hlt h.keeps.size)).trans (h.keeps.block b hlt hn)⟩, okb := h.okb, hbb := h.hbb, fix := h.fix, fxm := h.fxm }, hm⟩
  obtain ⟨rb, h1, h2⟩ := h.hp j x hj
  exact ⟨rb, h1, RepRow.mono hm (fun _ _ => rfl) (fun b c s l e => by subst e; exact hb b (h.own j b c s l h1).2) h2⟩

theorem demL2_map : ∀ l : List PV, demL2 l = l.map dem2
  | [] => rfl
  | p :: r => by rw [demL2, demL2_map r]; rfl

theorem call_bare {g : FuncId} {args : List PV} {vs : List Value} (h : RepS Γ E β st a w) (hr : RepA w (E.cx β w) args vs) (hex : (execOp a.eval o).run Γ.P w = (callFunc g vs.toArray).run Γ.P w)
    (hb : bareA args = true) {res : PV} {hout : List Row} (hs : SoundAt Γ.P g (demL2 args) [] res hout)
    (hw : match (generalizing := false) hout with
      | [] => (match bareT res with | true => st.putF o.dst res k | false => False)
      | [r] => (match o.dst with
        | none => False
        | some d => (match maxIdT 1 res && maxIdR 1 r with | true => force (ren [lid d] res) fun p => k (st.new d (renR [lid d] r) p) | false => False))
      | _ => False) (hK : Nxt Γ E k K) (hdst : ∀ x, o.dst = some x → x < Γ.N) : o.wp Γ.P a w K Q := by
  have hm0 : Move w w (E.cx β w) ⟨fun _ => none, (E.cx β w).ok⟩ := ⟨fun b o v h1 h2 => ⟨h1, h2⟩⟩
  have hargs : RepA w ⟨fun _ => none, (E.cx β w).ok⟩ (demL2 args) vs := by
    rw [demL2_map]
    refine hr.map dem2 (fun p v hp hv => ?_)
    have hbp := List.all_eq_true.1 hb p hp
    have hnt : ∀ vs, p ≠ .tup vs := fun vs e => by subst e; cases hbp
    refine dem2_ok ?_ hnt
    have hno : ∀ k, has k p = false := fun k => by
      cases p with
      | tup vs => exact absurd rfl (hnt vs)
      | s x => exact bare2_no hbp k
      | nils => exact bare2_no hbp k
      | slc a b c => exact bare2_no hbp k
      | xs a b => exact bare2_no hbp k
      | ptr a b c => exact bare2_no hbp k
      | ept a => exact bare2_no hbp k
      | clo a b => exact bare2_no hbp k
      | agg a => exact bare2_no hbp k
      | bad => exact bare2_no hbp k
    exact RepV.mono hm0 (fun k hk => by rw [hno k] at hk; cases hk) hv
  have hdoes := hs.2 w (E.cx β w).ok (fun _ => none) vs hargs.1 hargs.2 (fun k r hk => by simp at hk) (fun _ _ => rfl) (fun k k' b c s l c' s' l' hk => by cases hk) (fun b ⟨k, c, s, l, hk⟩ => by cases hk)
    (fun b o hb => ⟨cx_ok_lt h hb, fun ⟨k, c, s, l, hk⟩ => by cases hk⟩)
  refine does_wp hdoes hex ?_
  rintro v w' ⟨β', hv, hrows, hnone, hinj, hown, _, hkeep⟩
  have hkeep : Keeps w w' (fun _ => False) := ⟨hkeep.os, hkeep.tape, hkeep.output, hkeep.size, fun b hb hn => hkeep.block b hb (fun ⟨k, c, s, l, hk⟩ => by cases hk)⟩
  obtain ⟨h2, hm⟩ := h.grown hkeep
  have hnew : ∀ k b c s l, β' k = some (.blk b c s l) → w.heap.size ≤ b ∧ b < w'.heap.size := fun k b c s l hk => by
    obtain ⟨h1, h3⟩ := hown k b c s l hk
    rcases h1 with h1 | ⟨_, _, _, h1⟩
    · exact ⟨h1, h3⟩
    · cases h1
  split at hw
  · split at hw
    case h_2 => exact hw.elim
    rename_i hbare
    have hm2 : Move w' w' ⟨β', fun b o => (E.cx β w).ok b o ∨ (w.heap.size ≤ b ∧ b < w'.heap.size ∧ ¬ onB β' b)⟩ (E.cx β w') := by
      refine ⟨fun b o v h1 h3 => ⟨?_, h3⟩⟩
      rcases h1 with h1 | ⟨h4, h5, h6⟩
      · rcases h1 with h1 | ⟨h4, h5, h6⟩
        · exact .inl h1
        · exact .inr ⟨h4, Nat.lt_of_lt_of_le h5 hkeep.size, h6⟩
      · refine .inr ⟨Nat.le_trans h.keeps.size h4, h5, fun ⟨j, c, s, l, hj⟩ => ?_⟩
        have := (h.own j b c s l hj).2
        omega
    exact hK _ _ _ ⟨β, h2.put (RepV.mono hm2 (fun k hk => by rw [bareT_no hbare k] at hk; cases hk) hv) hdst⟩ (putF_eq hw)
  · rename_i r
    split at hw
    case h_1 => exact hw.elim
    rename_i d hd
    split at hw
    case h_2 => exact hw.elim
    rename_i hmax
    rw [Bool.and_eq_true] at hmax
    rw [force_eq] at hw
    obtain ⟨ra, hra, hrow⟩ := hrows 0 r rfl
    have honly : ∀ j x, β' j = some x → j = 0 := fun j x hj => by
      cases j with
      | zero => rfl
      | succ j => rw [hnone (j + 1) (by simp)] at hj; cases hj
    have hm2 : Move w' w' ⟨β', fun b o => (E.cx β w).ok b o ∨ (w.heap.size ≤ b ∧ b < w'.heap.size ∧ ¬ onB β' b)⟩ (E.cx (upd β (lid d) (some ra)) w') := by
      refine ⟨fun b o v h1 h3 => ⟨?_, h3⟩⟩
      rcases h1 with h1 | ⟨h4, h5, h6⟩
      · rcases h1 with h1 | ⟨h4, h5, h6⟩
        · exact .inl h1
        · refine .inr ⟨h4, Nat.lt_of_lt_of_le h5 hkeep.size, fun ⟨j, c, s, l, hj⟩ => ?_⟩
          rw [upd_at] at hj
          by_cases e : j = lid d
          · rw [if_pos e] at hj
            cases hj
            have := (hnew 0 b c s l hra).1
            omega
          · rw [if_neg e] at hj
            exact h6 ⟨j, c, s, l, hj⟩
      · refine .inr ⟨Nat.le_trans h.keeps.size h4, h5, fun ⟨j, c, s, l, hj⟩ => ?_⟩
        rw [upd_at] at hj
        by_cases e : j = lid d
        · rw [if_pos e] at hj
          cases hj
          exact h6 ⟨0, c, s, l, hra⟩
        · rw [if_neg e] at hj
          have := (h.own j b c s l hj).2
          omega
    have hβ : ∀ j, j < 1 → (E.cx (upd β (lid d) (some ra)) w').β ([lid d].getD j 0) = β' j := by
      intro j hj
      have : j = 0 := by omega
      subst this
      show upd β (lid d) (some ra) (lid d) = β' 0
      rw [upd_at, if_pos rfl, hra]
    have h5 := h.setRow (lid d) (renR [lid d] r) ra (w' := w') hkeep.os hkeep.tape hkeep.output hkeep.size (fun b hb _ => hkeep.block b hb (fun h => h)) (fun b c s l e => by subst e; exact ⟨(hnew 0 b c s l hra).2, .inl (hnew 0 b c s l hra).1⟩)
      (fx_local h (by simp [lid])) (fun _ => renR_fwd hm2 hβ hmax.2 hrow)
    have h6 := h5.put (d := some d) (renV_fwd hm2 hβ hmax.1 hv) (fun x hx => hdst x (hd.trans hx))
    exact hK _ _ _ ⟨_, by rw [hd]; exact h6⟩ hw
  · exact hw.elim

end
end Go.Vai

/- A call that is handed rows. No condition. -/
namespace Go.Vai

section
variable {Γ : Ctx} {E : Env} {β : Nat → Option RA} {st : St} {a : Act} {w : World} {o : Oper} {k : St → Prop} {K : Act → World → Prop} {Q : Exit → Act → World → Prop}

def idx : List Nat → Nat → Option Nat
  | [], _ => none
  | j :: r, k => match Nat.beq k j with | true => some 0 | false => (idx r k).map (· + 1)

theorem idx_some : ∀ {ks : List Nat} {k i : Nat}, idx ks k = some i → ks[i]? = some k
  | [], _, _, h => by cases h
  | j :: r, k, i, h => by
    unfold idx at h
    split at h
    · rename_i hb
      cases h
      rw [Nat.eq_of_beq_eq_true hb]; rfl
    · cases h2 : idx r k with
      | none => rw [h2] at h; cases h
      | some q =>
        rw [h2] at h
        cases h
        simpa using idx_some h2
theorem idx_none : ∀ {ks : List Nat} {k : Nat}, idx ks k = none → ∀ i : Nat, ks[i]? ≠ some k
  | [], _, _, i => by simp
  | j :: r, k, h, i => by
    unfold idx at h
    split at h
    · cases h
    · rename_i hb
      have h2 : idx r k = none := by cases h3 : idx r k <;> rw [h3] at h <;> first | rfl | cases h
      cases i with
      | zero =>
        intro e
        simp at e
        subst e
        rw [Nat.beq_refl] at hb; cases hb
      | succ i => simpa using idx_none h2 i
theorem distinct_inj : ∀ {ks : List Nat} {i j k : Nat}, distinct ks = true → ks[i]? = some k → ks[j]? = some k → i = j
  | [], _, _, _, _, h, _ => by simp at h
  | x :: r, i, j, k, hd, h1, h2 => by
    simp only [distinct, Bool.and_eq_true, Bool.not_eq_true'] at hd
    have no : ∀ q : Nat, r[q]? ≠ some x := fun q hq => by
      have := List.any_eq_false.1 hd.1 x (List.mem_of_getElem? hq)
      rw [Nat.beq_refl] at this
      exact this rfl
    cases i with
    | zero =>
      cases j with
      | zero => rfl
      | succ j => simp at h1 h2; subst h1; exact absurd h2 (no j)
    | succ i =>
      cases j with
      | zero => simp at h1 h2; subst h2; exact absurd h1 (no i)
      | succ j => exact congrArg (· + 1) (distinct_inj (k := k) (i := i) (j := j) hd.2 (by simpa using h1) (by simpa using h2))
theorem idx_of {ks : List Nat} {i k : Nat} (hd : distinct ks = true) (h : ks[i]? = some k) : idx ks k = some i := by
  cases h2 : idx ks k with
  | none => exact absurd h (idx_none h2 i)
  | some j => rw [distinct_inj hd (idx_some h2) h]

theorem rowsAre_ok {H : Nat → Option Row} {ks0 : List Nat} : ∀ {ks : List Nat} {rs : List Row}, rowsAre H ks0 ks rs → ks.length = rs.length ∧ ∀ (i k : Nat), ks[i]? = some k → ∃ r, rs[i]? = some r ∧ H k = some (renR ks0 r)
  | [], [], _ => ⟨rfl, fun i k h => by simp at h⟩
  | [], _ :: _, h => h.elim
  | _ :: _, [], h => h.elim
  | j :: ks, r :: rs, h => by
    have h2 := rowsAre_ok h.2
    refine ⟨by simp [h2.1], fun i k hk => ?_⟩
    cases i with
    | zero => simp at hk; subst hk; exact ⟨r, rfl, h.1⟩
    | succ i => simpa using h2.2 i k (by simpa using hk)

theorem setRows_none {H : Nat → Option Row} {ks0 : List Nat} : ∀ {ks : List Nat} {rs : List Row} {k : Nat}, (∀ i : Nat, ks[i]? ≠ some k) → setRows H ks0 ks rs k = H k
  | [], _, _, _ => by simp [setRows]
  | _ :: _, [], _, _ => by simp [setRows]
  | j :: ks, r :: rs, k, h => by
    rw [setRows, upd_at, if_neg (fun e => h 0 (by simp [e]))]
    exact setRows_none (fun i => by simpa using h (i + 1))
theorem setRows_some {H : Nat → Option Row} {ks0 : List Nat} : ∀ {ks : List Nat} {rs : List Row} {k i : Nat} {r : Row}, distinct ks = true → ks[i]? = some k → rs[i]? = some r → setRows H ks0 ks rs k = some (renR ks0 r)
  | [], _, _, _, _, _, h, _ => by simp at h
  | _ :: _, [], _, _, _, _, _, h => by simp at h
  | j :: ks, x :: rs, k, i, r, hd, h1, h2 => by
    rw [setRows, upd_at]
    by_cases e : k = j
    · subst e
      have : i = 0 := distinct_inj (j := 0) hd h1 rfl
      subst this
      simp at h2
      rw [if_pos rfl, h2]
    · rw [if_neg e]
      cases i with
      | zero => simp at h1; exact absurd h1.symm e
      | succ i =>
        simp only [distinct, Bool.and_eq_true] at hd
        exact setRows_some hd.2 (by simpa using h1) (by simpa using h2)

/-- Row k has (perhaps) been laid elsewhere. -/
def Mov (res : PV) (ks : List Nat) (rs : List Row) (n : Nat) (k : Nat) : Prop := ∃ i x, ks[i]? = some k ∧ rs[i]? = some x ∧ movesR (n + i) x res = true

theorem Mov.cons {res : PV} {k j n : Nat} {r : List Nat} {x : Row} {rs : List Row} (h : Mov res (j :: r) (x :: rs) n k) : (k = j ∧ movesR n x res = true) ∨ Mov res r rs (n + 1) k := by
  obtain ⟨i, y, h1, h2, h3⟩ := h
  cases i with
  | zero => simp at h1 h2; subst h1; subst h2; exact .inl ⟨rfl, h3⟩
  | succ i => exact .inr ⟨i, y, by simpa using h1, by simpa using h2, by rw [Nat.add_assoc, Nat.add_comm 1 i]; exact h3⟩

theorem movOk_ok {res : PV} : ∀ {ks : List Nat} {rs : List Row} {n : Nat}, movOk Γ res ks rs n = true → ∀ k, Mov res ks rs n k → mayMv Γ k = true
  | [], _, _, _, k, ⟨i, x, h, _⟩ => by simp at h
  | _ :: _, [], _, _, k, ⟨i, x, _, h, _⟩ => by simp at h
  | j :: r, x :: rs, n, h, k, hk => by
    rw [movOk, Bool.and_eq_true, Bool.or_eq_true] at h
    rcases hk.cons with ⟨rfl, h2⟩ | h2
    · rcases h.1 with h3 | h3
      · rw [h2] at h3; cases h3
      · exact h3
    · exact movOk_ok h.2 k h2

theorem killRows_fr {res : PV} : ∀ {ks : List Nat} {rs : List Row} {st : St} {n : Nat} (s : Nat), (killRows res st ks rs n).fr s = .bad ∨ ((killRows res st ks rs n).fr s = st.fr s ∧ ∀ k, Mov res ks rs n k → has k (st.fr s) = false)
  | [], _, st, n, s => .inr ⟨by simp [killRows], fun k ⟨i, x, h, _⟩ => by simp at h⟩
  | _ :: _, [], st, n, s => .inr ⟨by simp [killRows], fun k ⟨i, x, _, h, _⟩ => by simp at h⟩
  | j :: r, x :: rs, st, n, s => by
    unfold killRows
    split
    · rename_i hm
      rcases killRows_fr (ks := r) (rs := rs) (st := st.kill j) (n := n + 1) s with h | ⟨h, h2⟩
      · exact .inl h
      · have e : (st.kill j).fr s = kill j (st.fr s) := rfl
        rw [h]
        unfold kill at e
        cases hh : has j (st.fr s) with
        | true => rw [hh] at e; exact .inl e
        | false =>
          rw [hh] at e
          refine .inr ⟨e, fun k hk => ?_⟩
          rcases hk.cons with ⟨rfl, _⟩ | hk
          · exact hh
          · have := h2 k hk
            rwa [e] at this
    · rename_i hm
      rcases killRows_fr (ks := r) (rs := rs) (st := st) (n := n + 1) s with h | ⟨h, h2⟩
      · exact .inl h
      · refine .inr ⟨h, fun k hk => ?_⟩
        rcases hk.cons with ⟨rfl, h3⟩ | hk
        · rw [hm] at h3; cases h3
        · exact h2 k hk

/-- A row whose cells have lost some names. -/
def Lost (S : Nat → Prop) : Row → Row → Prop
  | .cell cs, r => ∃ cs', r = .cell cs' ∧ cs'.length = cs.length ∧ ∀ (i : Nat) c', cs'[i]? = some c' → c' = .bad ∨ (cs[i]? = some c' ∧ ∀ k, S k → has1 k c' = false)
  | .row sz es, r => r = .row sz es

theorem killRows_H {res : PV} : ∀ {ks : List Nat} {rs : List Row} {st : St} {n : Nat} (j : Nat), (st.H j = none → (killRows res st ks rs n).H j = none) ∧ ∀ x, st.H j = some x → ∃ y, (killRows res st ks rs n).H j = some y ∧ Lost (Mov res ks rs n) x y
  | [], rs, st, n, j => ⟨fun h => by simpa [killRows] using h, fun x h => ⟨x, by simpa [killRows] using h, by
      cases x with
      | row sz es => rfl
      | cell cs => exact ⟨cs, rfl, rfl, fun i c hc => .inr ⟨hc, fun k ⟨i, x, h, _⟩ => by simp at h⟩⟩⟩⟩
  | q :: r, [], st, n, j => ⟨fun h => by simpa [killRows] using h, fun x h => ⟨x, by simpa [killRows] using h, by
      cases x with
      | row sz es => rfl
      | cell cs => exact ⟨cs, rfl, rfl, fun i c hc => .inr ⟨hc, fun k ⟨i, x, _, h, _⟩ => by simp at h⟩⟩⟩⟩
  | q :: r, z :: rs, st, n, j => by
    unfold killRows
    split
    · rename_i hm
      have ih := killRows_H (res := res) (ks := r) (rs := rs) (st := st.kill q) (n := n + 1) j
      have e : (st.kill q).H j = (st.H j).map (killR q) := rfl
      refine ⟨fun h => ih.1 (by rw [e, h]; rfl), fun x hx => ?_⟩
      obtain ⟨y, hy, hl⟩ := ih.2 (killR q x) (by rw [e, hx]; rfl)
      refine ⟨y, hy, ?_⟩
      cases x with
      | row sz es => exact hl
      | cell cs =>
        obtain ⟨cs', h1, h2, h3⟩ := hl
        refine ⟨cs', h1, by simpa using h2, fun i c' hc' => ?_⟩
        rcases h3 i c' hc' with h4 | ⟨h4, h5⟩
        · exact .inl h4
        · rw [List.getElem?_map] at h4
          cases hc : cs[i]? with
          | none => rw [hc] at h4; cases h4
          | some c0 =>
            rw [hc] at h4
            have h4 : kill1 q c0 = c' := by injection h4
            unfold kill1 at h4
            cases hh : has1 q c0 with
            | true => rw [hh] at h4; exact .inl h4.symm
            | false =>
              rw [hh] at h4
              have h4 : c0 = c' := h4
              subst h4
              refine .inr ⟨rfl, fun k hk => ?_⟩
              rcases hk.cons with ⟨rfl, _⟩ | hk
              · exact hh
              · exact h5 k hk
    · rename_i hm
      have ih := killRows_H (res := res) (ks := r) (rs := rs) (st := st) (n := n + 1) j
      refine ⟨ih.1, fun x hx => ?_⟩
      obtain ⟨y, hy, hl⟩ := ih.2 x hx
      refine ⟨y, hy, ?_⟩
      cases x with
      | row sz es => exact hl
      | cell cs =>
        obtain ⟨cs', h1, h2, h3⟩ := hl
        refine ⟨cs', h1, h2, fun i c' hc' => ?_⟩
        rcases h3 i c' hc' with h4 | ⟨h4, h5⟩
        · exact .inl h4
        · refine .inr ⟨h4, fun k hk => ?_⟩
          rcases hk.cons with ⟨rfl, h6⟩ | hk
          · rw [hm] at h6; cases h6
          · exact h5 k hk

end
end Go.Vai

/- A call that is handed rows, joined. No condition. -/
namespace Go.Vai

section
variable {Γ : Ctx} {E : Env} {β : Nat → Option RA} {st : St} {a : Act} {w : World} {o : Oper} {k : St → Prop} {K : Act → World → Prop} {Q : Exit → Act → World → Prop}

theorem getD_of {ks : List Nat} {i k : Nat} (h : ks[i]? = some k) : ks.getD i 0 = k := by simp [h]

theorem call_hand {g : FuncId} {args : List PV} {vs : List Value} (h : RepS Γ E β st a w) (hr : RepA w (E.cx β w) args vs) (hnt : ∀ p ∈ args, ∀ vs, p ≠ .tup vs) (hex : (execOp a.eval o).run Γ.P w = (callFunc g vs.toArray).run Γ.P w)
    {ks : List Nat} {args' : List PV} {hin hout : List Row} {res : PV} (hargs : demL2 args = args'.map (ren2 ks)) (hmv : movOk Γ res ks hin 0 = true) (hd : distinct ks = true) (hrows : rowsAre st.H ks ks hin) (hlen : hout.length = hin.length)
    (ha : args'.all (maxId2 ks.length) = true) (hi : hin.all (maxIdR ks.length) = true) (hres : maxIdT ks.length res = true) (ho : hout.all (maxIdR ks.length) = true) (hs : SoundAt Γ.P g args' hin res hout)
    (hw : k ⟨(match o.dst with | some d => upd (killRows res st ks hin 0).fr d (ren ks res) | none => (killRows res st ks hin 0).fr), setRows (killRows res st ks hin 0).H ks ks hout⟩) (hK : Nxt Γ E k K) (hdst : ∀ x, o.dst = some x → x < Γ.N) : o.wp Γ.P a w K Q := by
  obtain ⟨hkl, hrow⟩ := rowsAre_ok hrows
  -- the callee's map
  obtain ⟨βc, hβc⟩ : ∃ βc : Nat → Option RA, βc = fun i => (ks[i]?).bind β := ⟨_, rfl⟩
  have hβc1 : ∀ (i k : Nat), ks[i]? = some k → βc i = β k := fun i k hk => by rw [hβc]; simp [hk]
  have hβc2 : ∀ i x, βc i = some x → ∃ k, ks[i]? = some k ∧ β k = some x := fun i x hx => by
    rw [hβc] at hx
    cases hk : ks[i]? with
    | none => simp [hk] at hx
    | some k => exact ⟨k, rfl, by simpa [hk] using hx⟩
  have hlt : ∀ i, i < ks.length → ∃ k, ks[i]? = some k := fun i h => ⟨_, List.getElem?_eq_getElem h⟩
  have hget : ∀ i, i < ks.length → β (ks.getD i 0) = βc i := fun i hi => by
    obtain ⟨k, hk⟩ := hlt i hi
    rw [getD_of hk, hβc1 i k hk]
  have hm0 : Move w w (E.cx β w) ⟨βc, (E.cx β w).ok⟩ := ⟨fun b o v h1 h2 => ⟨h1, h2⟩⟩
  have onc : ∀ b, onB βc b → onB β b := fun b ⟨i, c, s, l, hi⟩ => by
    obtain ⟨k, _, hk⟩ := hβc2 i _ hi
    exact ⟨k, c, s, l, hk⟩
  have hA : RepA w ⟨βc, (E.cx β w).ok⟩ args' vs := by
    have h1 : RepA w (E.cx β w) (demL2 args) vs := by
      rw [demL2_map]
      exact hr.map dem2 (fun p v hp hv => dem2_ok hv (hnt p hp))
    rw [hargs] at h1
    refine ⟨by simpa using h1.1, fun i p v hp hv => ?_⟩
    have h2 := h1.2 i (ren2 ks p) v (by rw [List.getElem?_map, hp]; rfl) hv
    exact ren2_bwd (cx1 := ⟨βc, (E.cx β w).ok⟩) hm0 hget (List.all_eq_true.1 ha p (List.mem_of_getElem? hp)) h2
  have hdoes := hs.2 w (E.cx β w).ok βc vs hA.1 hA.2
    (fun i r hir => by
      obtain ⟨k, hk⟩ := hlt i (by rw [hkl]; exact (List.getElem?_eq_some_iff.1 hir).1)
      obtain ⟨r', h1, h2⟩ := hrow i k hk
      rw [hir] at h1
      cases h1
      obtain ⟨ra, h3, h4⟩ := h.hp k _ h2
      exact ⟨ra, (hβc1 i k hk).trans h3, renR_bwd (cx1 := ⟨βc, (E.cx β w).ok⟩) hm0 hget (List.all_eq_true.1 hi r (List.mem_of_getElem? hir)) h4⟩)
    (fun i hi => by rw [hβc]; simp [List.getElem?_eq_none (by omega : ks.length ≤ i)])
    (fun i i' b c s l c' s' l' h1 h2 => by
      obtain ⟨k, hk, hk2⟩ := hβc2 i _ h1
      obtain ⟨k', hk', hk2'⟩ := hβc2 i' _ h2
      have := h.inj k k' b c s l c' s' l' hk2 hk2'
      subst this
      exact distinct_inj hd hk hk')
    (fun b hb => by
      obtain ⟨k, c, s, l, hk⟩ := onc b hb
      exact (h.own k b c s l hk).2)
    (fun b o hb => ⟨cx_ok_lt h hb, fun hn => cx_ok_not h hb (onc b hn)⟩)
  refine does_wp hdoes hex ?_
  rintro v w' ⟨β', hv, hrows', hnone, hinj, hown, hfix, hkeep⟩
  -- the map after the call
  obtain ⟨βn, hβn⟩ : ∃ βn : Nat → Option RA, βn = fun k => (match idx ks k with | some i => β' i | none => β k) := ⟨_, rfl⟩
  have hn1 : ∀ i k : Nat, ks[i]? = some k → βn k = β' i := fun i k hk => by rw [hβn]; simp [idx_of hd hk]
  have hn2 : ∀ k : Nat, (∀ i : Nat, ks[i]? ≠ some k) → βn k = β k := fun k hk => by
    rw [hβn]
    cases hx : idx ks k with
    | none => simp [hx]
    | some i => exact absurd (idx_some hx) (hk i)
  have hks : ∀ k : Nat, (∃ i : Nat, ks[i]? = some k) ∨ ∀ i : Nat, ks[i]? ≠ some k := fun k => by
    cases hx : idx ks k with
    | none => exact .inr (idx_none hx)
    | some i => exact .inl ⟨i, idx_some hx⟩
  have hmoved : ∀ k, ¬ Mov res ks hin 0 k → βn k = β k := by
    intro k hk
    rcases hks k with ⟨i, hi⟩ | hi
    · obtain ⟨r, h1, h2⟩ := hrow i k hi
      have h3 : movesR i r res = false := by
        cases hmr : movesR i r res with
        | false => rfl
        | true => exact absurd ⟨i, r, hi, h1, by rw [Nat.zero_add]; exact hmr⟩ hk
      rw [hn1 i k hi, hfix i r h1 h3, hβc1 i k hi]
    · exact hn2 k hi
  have holdb : ∀ i b c s l, β' i = some (.blk b c s l) → b < w.heap.size → ∃ k c s l, ks[i]? = some k ∧ β k = some (.blk b c s l) := by
    intro i b c s l hi hb
    rcases (hown i b c s l hi).1 with h1 | ⟨c2, s2, l2, h1⟩
    · omega
    · obtain ⟨k, hk, hk2⟩ := hβc2 i _ h1
      exact ⟨k, c2, s2, l2, hk, hk2⟩
  have hrange : ∀ i x, β' i = some x → ∃ k, ks[i]? = some k := fun i x hx => by
    rcases Nat.lt_or_ge i ks.length with h1 | h1
    · exact hlt i h1
    · rw [hnone i (by omega)] at hx; cases hx
  have onn : ∀ b, b < w.heap.size → onB βn b → onB β b := by
    rintro b hb ⟨k, c, s, l, hk⟩
    rcases hks k with ⟨i, hi⟩ | hi
    · rw [hn1 i k hi] at hk
      obtain ⟨k', c', s', l', _, h2⟩ := holdb i b c s l hk hb
      exact ⟨k', c', s', l', h2⟩
    · rw [hn2 k hi] at hk
      exact ⟨k, c, s, l, hk⟩
  have hmA : Move w w' (E.cx β w) (E.cx βn w') := move_grown h hkeep.size (fun b hb hn => hkeep.block b hb (fun hc => hn (onc b hc))) onn
  have hmB : Move w' w' ⟨β', fun b o => (E.cx β w).ok b o ∨ (w.heap.size ≤ b ∧ b < w'.heap.size ∧ ¬ onB β' b)⟩ (E.cx βn w') := by
    refine ⟨fun b o v h1 h3 => ⟨?_, h3⟩⟩
    rcases h1 with h1 | ⟨h4, h5, h6⟩
    · rcases h1 with h1 | ⟨h4, h5, h6⟩
      · exact .inl h1
      · exact .inr ⟨h4, Nat.lt_of_lt_of_le h5 hkeep.size, fun hn => h6 (onn b h5 hn)⟩
    · refine .inr ⟨Nat.le_trans h.keeps.size h4, h5, fun ⟨k, c, s, l, hk⟩ => ?_⟩
      rcases hks k with ⟨i, hi⟩ | hi
      · rw [hn1 i k hi] at hk
        exact h6 ⟨i, c, s, l, hk⟩
      · rw [hn2 k hi] at hk
        have := (h.own k b c s l hk).2
        omega
  have hgetn : ∀ j, j < ks.length → (E.cx βn w').β (ks.getD j 0) = β' j := fun j hj => by
    obtain ⟨k, hk⟩ := hlt j hj
    rw [getD_of hk]
    exact hn1 j k hk
  have hS : RepS Γ E βn ⟨(killRows res st ks hin 0).fr, setRows (killRows res st ks hin 0).H ks ks hout⟩ a w' := by
    refine { size := h.size, oth := h.oth.grown rfl hkeep.size (fun b hb hn => hkeep.block b hb (fun hc => hn (onc b hc))) onn, frv := fun s v hv => ?_, hp := fun k r hk => ?_, dom := fun k hk => ?_, inj := ?_, own := ?_, keeps := ⟨hkeep.os.trans h.keeps.os, hkeep.tape.trans h.keeps.tape, hkeep.output.trans h.keeps.output, Nat.le_trans h.keeps.size hkeep.size, fun b hb hn => (hkeep.block b (Nat.lt_of_lt_of_le hb h.keeps.size) (fun hc => ?_)).trans (h.keeps.block b hb hn)⟩, okb := h.okb, hbb := h.hbb, fix := fun k x hx => ?_, fxm := h.fxm }
    · show RepV w' (E.cx βn w') ((killRows res st ks hin 0).fr s) v
      rcases killRows_fr (res := res) (ks := ks) (rs := hin) (st := st) (n := 0) s with h1 | ⟨h1, h2⟩
      · rw [h1]; trivial
      · rw [h1]
        exact RepV.mono hmA (fun k hk => hmoved k (fun hm => by rw [h2 k hm] at hk; cases hk)) (h.frv s v hv)
    · change setRows (killRows res st ks hin 0).H ks ks hout k = some r at hk
      rcases hks k with ⟨i, hi⟩ | hi
      · have hil : i < hout.length := by rw [hlen, ← hkl]; exact (List.getElem?_eq_some_iff.1 hi).1
        have h1 : hout[i]? = some hout[i] := List.getElem?_eq_getElem hil
        rw [setRows_some hd hi h1] at hk
        cases hk
        obtain ⟨ra, h2, h3⟩ := hrows' i _ h1
        exact ⟨ra, (hn1 i k hi).trans h2, renR_fwd hmB hgetn (List.all_eq_true.1 ho _ (List.mem_of_getElem? h1)) h3⟩
      · rw [setRows_none hi] at hk
        cases hx : st.H k with
        | none => rw [(killRows_H (res := res) (ks := ks) (rs := hin) (st := st) (n := 0) k).1 hx] at hk; cases hk
        | some x =>
          obtain ⟨y, hy, hl⟩ := (killRows_H (res := res) (ks := ks) (rs := hin) (st := st) (n := 0) k).2 x hx
          rw [hk] at hy
          cases hy
          obtain ⟨ra, h2, h3⟩ := h.hp k x hx
          have hblk : ∀ b c s l, ra = .blk b c s l → w'.heap[b]? = w.heap[b]? := by
            intro b c s l e
            subst e
            refine hkeep.block b (h.own k b c s l h2).2 (fun ⟨i, c', s', l', hi'⟩ => ?_)
            obtain ⟨k', hk', hk2'⟩ := hβc2 i _ hi'
            have := h.inj k k' b c s l c' s' l' h2 hk2'
            subst this
            exact hi i hk'
          refine ⟨ra, (hn2 k hi).trans h2, ?_⟩
          cases x with
          | row sz es =>
            have hl : r = .row sz es := hl
            subst hl
            exact RepRow.mono hmA (fun j hj => by cases hj) hblk h3
          | cell cs =>
            obtain ⟨cs', rfl, h4, h5⟩ := hl
            obtain ⟨b, us, t, h6, h7, h8⟩ := h3
            refine ⟨b, us, t, by rw [h6, h4], (hblk _ _ _ _ h6).trans h7, by rw [h8.1, h4], fun i c u hc hu => ?_⟩
            rcases h5 i c hc with h9 | ⟨h9, h10⟩
            · subst h9
              have hil : i < cs.length := by rw [← h4]; exact (List.getElem?_eq_some_iff.1 hc).1
              exact ⟨trivial, (h8.2 i cs[i] u (List.getElem?_eq_getElem hil) hu).2⟩
            · exact ⟨RepC.mono hmA (fun j hj => hmoved j (fun hm => by rw [h10 j hm] at hj; cases hj)) (h8.2 i c u h9 hu).1, (h8.2 i c u h9 hu).2⟩
    · change setRows (killRows res st ks hin 0).H ks ks hout k = none at hk
      rcases hks k with ⟨i, hi⟩ | hi
      · have hil : i < hout.length := by rw [hlen, ← hkl]; exact (List.getElem?_eq_some_iff.1 hi).1
        rw [setRows_some hd hi (List.getElem?_eq_getElem hil)] at hk
        cases hk
      · rw [setRows_none hi] at hk
        rw [hn2 k hi]
        refine h.dom k ?_
        cases hx : st.H k with
        | none => rfl
        | some x =>
          obtain ⟨y, hy, _⟩ := (killRows_H (res := res) (ks := ks) (rs := hin) (st := st) (n := 0) k).2 x hx
          rw [hk] at hy; cases hy
    · have mixed : ∀ k k' i b c s l c' s' l', ks[i]? = some k → (∀ j : Nat, ks[j]? ≠ some k') → β' i = some (.blk b c s l) → β k' = some (.blk b c' s' l') → False := by
        intro k k' i b c s l c' s' l' hi hno h1 h2
        obtain ⟨k2, c2, s2, l2, h3, h4⟩ := holdb i b c s l h1 (h.own k' b c' s' l' h2).2
        have := h.inj k2 k' b c2 s2 l2 c' s' l' h4 h2
        subst this
        exact hno i h3
      intro k k' b c s l c' s' l' h1 h2
      rcases hks k with ⟨i, hi⟩ | hi
      · rw [hn1 i k hi] at h1
        rcases hks k' with ⟨i', hi'⟩ | hi'
        · rw [hn1 i' k' hi'] at h2
          have := hinj i i' b c s l c' s' l' h1 h2
          subst this
          rw [hi] at hi'
          exact Option.some.inj hi'
        · rw [hn2 k' hi'] at h2
          exact (mixed k k' i b c s l c' s' l' hi hi' h1 h2).elim
      · rw [hn2 k hi] at h1
        rcases hks k' with ⟨i', hi'⟩ | hi'
        · rw [hn1 i' k' hi'] at h2
          exact (mixed k' k i' b c' s' l' c s l hi' hi h2 h1).elim
        · rw [hn2 k' hi'] at h2
          exact h.inj k k' b c s l c' s' l' h1 h2
    · intro k b c s l hk
      rcases hks k with ⟨i, hi⟩ | hi
      · rw [hn1 i k hi] at hk
        obtain ⟨h1, h2⟩ := hown i b c s l hk
        refine ⟨?_, h2⟩
        rcases h1 with h1 | ⟨c', s', l', h1⟩
        · exact .inl (Nat.le_trans h.keeps.size h1)
        · rw [hβc1 i k hi] at h1
          exact (h.own k b c' s' l' h1).1
      · rw [hn2 k hi] at hk
        exact ⟨(h.own k b c s l hk).1, Nat.lt_of_lt_of_le (h.own k b c s l hk).2 hkeep.size⟩
    · obtain ⟨k, c, s, l, hk⟩ := onc b hc
      rcases (h.own k b c s l hk).1 with h1 | h1
      · omega
      · exact hn ⟨_, h1.2⟩
    · obtain ⟨h1, h2⟩ := h.fix k x hx
      refine ⟨h1, ?_⟩
      rw [← h2]
      refine hmoved k (fun hm => ?_)
      have := fx_may h (movOk_ok hmv k hm)
      rw [this] at hx
      cases hx
  have hfin := hS.put (d := o.dst) (renV_fwd hmB hgetn hres hv) hdst
  refine hK _ _ _ ⟨βn, hfin⟩ ?_
  cases ho2 : o.dst with
  | none => rw [ho2] at hw; exact hw
  | some d => rw [ho2] at hw; exact hw

theorem noTup {args args' : List PV} {ks : List Nat} {n : Nat} (h : demL2 args = args'.map (ren2 ks)) (ha : args'.all (maxId2 n) = true) : ∀ p ∈ args, ∀ vs, p ≠ .tup vs := by
  intro p hp vs e
  subst e
  rw [demL2_map] at h
  have h1 : PV.tup vs ∈ args.map dem2 := List.mem_map.2 ⟨_, hp, rfl⟩
  rw [h] at h1
  obtain ⟨q, hq, e⟩ := List.mem_map.1 h1
  have h2 := List.all_eq_true.1 ha q hq
  cases q <;> first | (cases e; done) | (cases h2; done)

/-- A call, by value. -/
theorem callW_ok {g : FuncId} {args : List PV} {vs : List Value} (h : RepS Γ E β st a w) (hr : RepA w (E.cx β w) args vs) (hex : (execOp a.eval o).run Γ.P w = (callFunc g vs.toArray).run Γ.P w)
    (hw : callW Γ g args o.dst st k) (hK : Nxt Γ E k K) (hdst : ∀ x, o.dst = some x → x < Γ.N) : o.wp Γ.P a w K Q := by
  unfold callW at hw
  split at hw
  · obtain ⟨args2, st2, β2, hF, h2, hr2⟩ := pubArgs_ok h hr hw
    split at hF
    case h_1 => exact hF.elim
    rename_i hb
    obtain ⟨res, hout, hs, hF⟩ := hF
    exact call_bare h2 hr2 hex hb hs hF hK hdst
  · obtain ⟨ks, args', hin, res, hout, ⟨h1, h2, h3, h4, h5, h6, h7, h8, h9⟩, hs, hw⟩ := hw
    rw [force_eq] at hw
    exact call_hand h hr (noTup h1 h6) hex h1 h2 h3 h4 h5 h6 h7 h8 h9 hs hw hK hdst

theorem evs_rep (h : RepS Γ E β st a w) (T : Nat → Option Ty) (xs : List Operand) (ts : List Nat) (hx : xs.all (okOpd Γ.N) = true) : RepA w (E.cx β w) (evs st T xs ts) (xs.map a.eval) := by
  have h1 := evs_ok h T xs ts hx
  refine ⟨by simp [h1.1], fun i p v hp hv => ?_⟩
  rw [List.getElem?_map] at hv
  cases hi : xs[i]? with
  | none => rw [hi] at hv; cases hv
  | some x =>
    rw [hi] at hv
    cases hv
    exact h1.2 i p x hp hi

theorem op_value {c : Call} {f : Operand} (hop : o.op = .call c) (hc : c.callee = .value f) (h : RepS Γ E β st a w) (hf : okOpd Γ.N f = true) (hx : c.args.toList.all (okOpd Γ.N) = true) (hw : opW Γ o st k) (hK : Nxt Γ E k K) (hdst : ∀ x, o.dst = some x → x < Γ.N) : o.wp Γ.P a w K Q := by
  unfold opW at hw
  rw [hop] at hw
  dsimp only at hw
  rw [hc] at hw
  dsimp only at hw
  have hfv := h.ev hf
  have he := evs_rep h Γ.T c.args.toList c.argTypes.toList hx
  split at hw
  · rename_i g fi ca hfe
    rw [hfe] at hfv
    have hfv := (repV_s_eq hfv).1
    split at hw
    · rename_i h1 h2
      have h1' : fi = #[] := by rw [← Array.toArray_toList (xs := fi), h1]
      have h2' : ca = #[] := by rw [← Array.toArray_toList (xs := ca), h2]
      subst h1'; subst h2'
      refine callW_ok h he ?_ hw hK hdst
      have : (c.args.map a.eval) = (c.args.toList.map a.eval).toArray := Array.ext' (by simp)
      simp [execOp, hop, resolve, hc, Deferred.ofValue, hfv, invoke, this]
    · exact hw.elim
  · rename_i g caps hfe
    rw [hfe] at hfv
    obtain ⟨us, h1, h2, h3⟩ := hfv
    have he2 : RepA w (E.cx β w) (evs st Γ.T c.args.toList c.argTypes.toList ++ caps) (c.args.toList.map a.eval ++ us) := by
      refine ⟨by simp [he.1, h2], fun i p v hp hv => ?_⟩
      rcases Nat.lt_or_ge i (evs st Γ.T c.args.toList c.argTypes.toList).length with hi | hi
      · rw [List.getElem?_append_left hi] at hp
        rw [List.getElem?_append_left (by rw [he.1]; exact hi)] at hv
        exact he.2 i p v hp hv
      · rw [List.getElem?_append_right hi] at hp
        rw [List.getElem?_append_right (by rw [he.1]; exact hi), he.1] at hv
        have h4 := (h3 _ p v hp hv).1
        cases p with
        | agg _ => cases h4
        | tup _ => cases h4
        | bad => trivial
        | clo _ _ => cases h4
        | s x => exact h4
        | nils => exact h4
        | slc a b c => exact h4
        | xs a b => exact h4
        | ptr a b c => exact h4
        | ept a => exact h4
    refine callW_ok h he2 ?_ hw hK hdst
    have : (c.args.map a.eval) ++ us.toArray = (c.args.toList.map a.eval ++ us).toArray := Array.ext' (by simp)
    simp [execOp, hop, resolve, hc, Deferred.ofValue, h1, invoke]
    rw [← this]
  · exact hw.elim

end
end Go.Vai

/- Every operation's effect on a pure state is its effect in memory. No condition. -/
namespace Go.Vai

/-- An operation's form: its operands lie in the frame; what writes yields no value; append takes two. -/
def okO (N : Nat) (o : Oper) : Bool := (o.op.operands.toList.all (okOpd N) && (match o.dst with | some d => Nat.blt d N | none => true)) && (match o.op with
  | .store _ _ _ => (match o.dst with | none => true | some _ => false)
  | .call c => (match c.callee with | .builtin .append => Nat.beq c.argTypes.size 2 | _ => true)
  | _ => true)

theorem okO_dst {N : Nat} {o : Oper} (hok : okO N o = true) : ∀ x, o.dst = some x → x < N := fun x hx => by
  rw [okO, Bool.and_eq_true, Bool.and_eq_true, hx] at hok
  exact Nat.le_of_ble_eq_true hok.1.2

section
variable {Γ : Ctx} {E : Env} {β : Nat → Option RA} {st : St} {a : Act} {w : World} {o : Oper} {k : St → Prop} {K : Act → World → Prop} {Q : Exit → Act → World → Prop}

theorem opW_sound (hΓ : Γ.Ok) (hok : okO Γ.N o = true) (h : Rep Γ E st a w) (hw : opW Γ o st k) (hK : Nxt Γ E k K) : o.wp Γ.P a w K Q := by
  obtain ⟨β, h⟩ := h
  rw [okO, Bool.and_eq_true] at hok
  obtain ⟨hx, hok⟩ := hok
  rw [Bool.and_eq_true] at hx
  obtain ⟨hx, hd0⟩ := hx
  have hdst : ∀ x, o.dst = some x → x < Γ.N := fun x hx => by
    rw [hx] at hd0
    exact Nat.le_of_ble_eq_true hd0
  have mem : ∀ {x : Operand}, x ∈ o.op.operands.toList → okOpd Γ.N x = true := fun hm => List.all_eq_true.1 hx _ hm
  have dead : ∀ {p : Prop}, opW Γ o st k = False → p := fun e => by rw [e] at hw; exact hw.elim
  cases hop : o.op with
  | move x => exact op_move (.inl hop) h (mem (by simp [hop, Op.operands])) (by unfold opW at hw; rw [hop] at hw; exact hw) hK hdst
  | assign x => exact op_move (.inr hop) h (mem (by simp [hop, Op.operands])) (by unfold opW at hw; rw [hop] at hw; exact hw) hK hdst
  | pick c x y => exact op_pick hop h (mem (by simp [hop, Op.operands])) (mem (by simp [hop, Op.operands])) (mem (by simp [hop, Op.operands])) hw hK hdst
  | alloc t => exact op_alloc hΓ hop h hw hK hdst
  | box t x => exact op_box hop h (mem (by simp [hop, Op.operands])) hw hK hdst
  | build t ps => exact op_build hΓ hop h (by rw [hop] at hx; simpa [Op.operands] using hx) hw hK hdst
  | buildSlice t n ps => exact op_buildSlice hΓ hop h (by rw [hop] at hx; simpa [Op.operands] using hx) hw hK hdst
  | load t x => exact op_load hΓ hop h (mem (by simp [hop, Op.operands])) hw hK hdst
  | store t x y =>
    have hd : o.dst = none := by
      rw [hop] at hok
      cases hd : o.dst with
      | none => rfl
      | some d => rw [hd] at hok; cases hok
    exact op_store hΓ hop h hd (mem (by simp [hop, Op.operands])) (mem (by simp [hop, Op.operands])) hw hK hdst
  | nilCheck x => exact op_nilCheck hop h (mem (by simp [hop, Op.operands])) hw hK hdst
  | binOp b t x y t2 => exact op_binOp hΓ hop h (mem (by simp [hop, Op.operands])) (mem (by simp [hop, Op.operands])) hw hK hdst
  | unOp b t x => exact op_unOp hop h (mem (by simp [hop, Op.operands])) hw hK hdst
  | convert s d x => exact op_convert hΓ hop h (mem (by simp [hop, Op.operands])) hw hK hdst
  | makeFunc f u v => exact op_makeFunc hop h (by rw [hop] at hx; simp [Op.operands] at hx; simpa using hx.2) hw hK hdst
  | slice t x lo hi mx =>
    refine op_slice hΓ hop h (mem (by simp [hop, Op.operands])) (fun y hy => mem ?_) (fun y hy => mem ?_) hw hK hdst
    · subst hy; simp [hop, Op.operands]
    · subst hy; simp [hop, Op.operands]
  | fieldAddr s x f => exact op_fieldAddr hΓ hop h (mem (by simp [hop, Op.operands])) hw hK hdst
  | indexAddr t x i => exact op_indexAddr hΓ hop h (mem (by simp [hop, Op.operands])) (mem (by simp [hop, Op.operands])) hw hK hdst
  | index t x i => exact op_index hΓ hop h (mem (by simp [hop, Op.operands])) (mem (by simp [hop, Op.operands])) hw hK hdst
  | extract x i => exact op_extract hop h (mem (by simp [hop, Op.operands])) hw hK hdst
  | call c =>
    have hargs : c.args.toList.all (okOpd Γ.N) = true := by
      rw [hop] at hx
      simp [Op.operands, Call.operands] at hx
      simpa using hx.2
    cases hc : c.callee with
    | value f => exact op_value hop hc h (mem (by simp [hop, Op.operands, Call.operands, hc])) hargs hw hK hdst
    | invoke r n => exact dead (by unfold opW; rw [hop]; dsimp only; rw [hc])
    | builtin b =>
      have sem : ∀ (f : Array TypeId → TypeId → Array Value → Sem Value), (∀ cs args, Go.builtin b c.argTypes o.type cs args = (do pure (.value (← f c.argTypes o.type args)))) →
          (opW Γ o st k = match valsOf (c.args.toList.map st.ev) with | some vs => semW (f c.argTypes o.type vs.toArray) fun v => oneS v fun p => st.putF o.dst p k | none => False) → o.wp Γ.P a w K Q :=
        fun f hf he => op_semB hop hc hf h hargs (by rw [he] at hw; exact hw) hK hdst
      cases b with
      | len => exact op_len hΓ hop hc h hargs hw hK hdst
      | append =>
        rw [hop] at hok
        dsimp only at hok
        rw [hc] at hok
        exact op_append hΓ hop hc h hargs (Nat.eq_of_beq_eq_true hok) hw hK hdst
      | complex => exact sem Builtin.complex_ (fun _ _ => rfl) (by unfold opW; rw [hop]; dsimp only; rw [hc]; rfl)
      | real => exact sem Builtin.real_ (fun _ _ => rfl) (by unfold opW; rw [hop]; dsimp only; rw [hc]; rfl)
      | imag => exact sem Builtin.imag_ (fun _ _ => rfl) (by unfold opW; rw [hop]; dsimp only; rw [hc]; rfl)
      | max => exact sem Builtin.max_ (fun _ _ => rfl) (by unfold opW; rw [hop]; dsimp only; rw [hc]; rfl)
      | clear => exact op_clear hΓ hop hc h hargs hw hK
      | _ => exact dead (by unfold opW; rw [hop]; dsimp only; rw [hc])
  | _ => exact dead (by unfold opW; rw [hop])

/-! ### The same, in a round of a range over a function -/
abbrev FR (rd : Option Nat) : Fence := { Fence.wide with round := rd }
theorem opIn {rd : Option Nat} {P : Program} (h : o.wp P a w K Q) (hnd : ∀ c, o.op ≠ .defer c) : o.wpIn (FR rd) 0 P a w K Q := by
  refine ⟨fun _ _ => trivial, ?_⟩
  show o.uponIn (FR rd) 0 P a K Q ((o.semAt rd a.eval).run P w)
  rw [Oper.semAt_eq _ _ _ hnd]
  unfold Oper.wp at h
  generalize (execOp a.eval o).run P w = r at h ⊢
  cases r with
  | ok x w' =>
    cases x with
    | value v => exact h
    | skip => exact h
    | defer d => exact h
    | enter f args => exact ⟨(fun hd => nomatch hd), callsIn_wide.2 h⟩
    | row r args => exact ⟨(fun hd => nomatch hd), fun c cs _ => let ⟨v, w2, r, s⟩ := h c cs; ⟨v, w2, r, stepsIn_wide.2 s⟩⟩
    | _ => exact h.elim
  | halt c w' =>
    cases c with
    | panic v => exact h
    | _ => exact h.elim

/-! ### A region's operations, in line -/
def boolOf : Value → Option Bool
  | .bool b => some b
  | _ => none

theorem wanted_none (hg : o.guard = none) (y : Nat → Option Bool) : Region.wanted o y = true := by simp [Region.wanted, hg]

theorem opsW_sound {rd : Option Nat} (hΓ : Γ.Ok) {ops : Array Oper} (hok : ops.toList.all (okO Γ.N) = true) : ∀ (l : List Oper) (i : Nat) {st : St} {a : Act} {w : World} {k : St → Prop}, (∀ j : Nat, l[j]? = ops[i + j]?) → Rep Γ E st a w → opsW Γ ops.toList l i st k →
    (∀ st' a' w', Rep Γ E st' a' w' → k st' → Q .normal a' w') → wpOpsIn (FR rd) 0 Γ.P ops Q (List.range' i l.length) a w
  | [], i, st, a, w, k, _, h, hw, hQ => hQ st a w h hw
  | o :: l, i, st, a, w, k, hl, h, hw, hQ => by
    rw [List.length_cons, List.range'_succ]
    have hi : ops[i]? = some o := by have := hl 0; simpa using this.symm
    have hl' : ∀ j : Nat, l[j]? = ops[i + 1 + j]? := fun j => by have := hl (j + 1); rw [List.getElem?_cons_succ] at this; rw [this]; congr 1; omega
    have hoo : okO Γ.N o = true := List.all_eq_true.1 hok o (List.mem_of_getElem? (by simpa using hi))
    unfold wpOpsIn
    rw [hi]
    simp only []
    -- the guard
    have key : ∀ on : Bool, Region.wanted o (yielded ops a.tmps) = on → (match on with
        | true => opW Γ o st fun st2 => partB ops.toList i o.dst st2 fun st3 => opsW Γ ops.toList l (i + 1) st3 k
        | false => opsW Γ ops.toList l (i + 1) (st.put o.dst (.tup [])) k) → (if Region.wanted o (yielded ops a.tmps) = true then o.wpIn (FR rd) 0 Γ.P a w (wpOpsIn (FR rd) 0 Γ.P ops Q (List.range' (i + 1) l.length)) Q else (∀ f, o.about Γ.P w a.eval = some f → (FR rd).fn f) ∧ wpOpsIn (FR rd) 0 Γ.P ops Q (List.range' (i + 1) l.length) (a.put o.dst undef) w) := by
      intro on hon hw
      cases on with
      | true =>
        rw [if_pos hon]
        refine opIn (opW_sound hΓ hoo h hw ?_) (fun c e => by unfold opW at hw; rw [e] at hw; exact hw)
        intro st2 a2 w2 h2 hw2
        unfold partB at hw2
        split at hw2
        · exact opsW_sound hΓ hok l (i + 1) hl' h2 hw2 hQ
        · split at hw2
          · exact opsW_sound hΓ hok l (i + 1) hl' h2 hw2 hQ
          · rename_i d _
            split at hw2
            · rename_i b hb
              have e : ∀ b', b' = b → (⟨upd st2.fr d (bv b'), st2.H⟩ : St) = st2 := fun b' e => by
                subst e
                rw [upd_self hb]
              rw [brP_eq] at hw2
              cases b with
              | true => rw [if_pos rfl, e true rfl] at hw2; exact opsW_sound hΓ hok l (i + 1) hl' h2 hw2 hQ
              | false => rw [if_neg (by simp), e false rfl] at hw2; exact opsW_sound hΓ hok l (i + 1) hl' h2 hw2 hQ
            · exact opsW_sound hΓ hok l (i + 1) hl' h2 hw2 hQ
      | false =>
        rw [if_neg (by rw [hon]; simp)]
        obtain ⟨β, h⟩ := h
        exact ⟨fun _ _ => trivial, opsW_sound hΓ hok l (i + 1) hl' ⟨β, h.put (d := o.dst) (p := .tup []) (v := undef) ⟨[], rfl, rfl, fun i c u hc => by simp at hc⟩ (okO_dst hoo)⟩ hw hQ⟩
    have h0 : Rep Γ E st a w := h
    unfold opsW guardW at hw
    split at hw
    · rename_i hg
      exact key true (wanted_none hg _) hw
    · rename_i j want hg
      split at hw
      case h_1 => exact hw.elim
      rename_i d hd
      have hd' : (ops[j]?).bind (·.dst) = some d := by simpa using hd
      have hdN : d < Γ.N := by
        cases hj : ops[j]? with
        | none => rw [hj] at hd'; cases hd'
        | some oj =>
          rw [hj] at hd'
          have hd' : oj.dst = some d := hd'
          have h1 := List.all_eq_true.1 hok oj (List.mem_of_getElem? (by simpa using hj))
          rw [okO, Bool.and_eq_true, Bool.and_eq_true, hd'] at h1
          have h2 := h1.1.2
          exact Nat.le_of_ble_eq_true h2
      obtain ⟨β, hh⟩ := h
      obtain ⟨v, hv⟩ : ∃ v, a.tmps[d]? = some v := ⟨_, Array.getElem?_eq_getElem (by rw [hh.size]; exact hdN)⟩
      have hfr := hh.fr d v hv
      have hy : yielded ops a.tmps j = boolOf v := by
        unfold yielded
        rw [hd']
        simp only [Option.bind_some]
        rw [hv]
        cases v <;> rfl
      have hwt : ∀ b, yielded ops a.tmps j = b → Region.wanted o (yielded ops a.tmps) = (b == some want) := fun b hb => by simp [Region.wanted, hg, hb]
      split at hw
      · rename_i b hb
        rw [hb] at hfr
        have hvb := repV_bool hfr
        rw [hvb] at hy
        have h1 := hwt _ hy
        cases b <;> cases want
        · exact key true (by rw [h1]; rfl) hw
        · exact key false (by rw [h1]; rfl) hw
        · exact key false (by rw [h1]; rfl) hw
        · exact key true (by rw [h1]; rfl) hw
      · rename_i hb
        rw [hb] at hfr
        obtain ⟨us, h1, h2, _⟩ := hfr
        rw [h1] at hy
        exact key false (by rw [hwt _ hy]; cases want <;> rfl) hw
      · exact hw.elim

end
end Go.Vai

/- Codes over pure states. No condition. -/
namespace Go.Vai

def Out.ex : Out → Exit
  | .normal _ => .normal
  | .exit id _ => .exit id
  | .ret _ => .ret
  | .goto l _ => .goto l

/-- From this pure state the code comes to an end that Qa allows, in every memory that the state stands for. -/
structure AWP (Γ : Ctx) (c : Code) (st : St) (Qa : Out → Prop) : Prop where
  wp : ∀ (rd : Option Nat) (_ : Γ.top = true → rd = none) (E : Env) (a : Act) (w : World) (Q : Exit → Act → World → Prop), Rep Γ E st a w → (∀ out a' w', Rep Γ E out.st a' w' → Qa out → Q out.ex a' w') → c.wpIn (FR rd) 0 Γ.P Q a w

def thenQ (k : St → Prop) (Qa : Out → Prop) : Out → Prop
  | .normal st => k st
  | .exit i st => Qa (.exit i st)
  | .ret st => Qa (.ret st)
  | .goto l st => Qa (.goto l st)
def blockQ (id : Nat) (Qa : Out → Prop) : Out → Prop
  | .normal st => Qa (.normal st)
  | .exit i st => (match Nat.beq i id with | true => Qa (.normal st) | false => Qa (.exit i st))
  | .ret st => Qa (.ret st)
  | .goto l st => Qa (.goto l st)

section
variable {Γ : Ctx} {st : St} {Qa : Out → Prop}

theorem AWP.mono {c : Code} {Qb : Out → Prop} (h : AWP Γ c st Qa) (hq : ∀ o, Qa o → Qb o) : AWP Γ c st Qb :=
  ⟨fun rd hrd E a w Q hr hk => h.wp rd hrd E a w Q hr fun o a' w' h1 h2 => hk o a' w' h1 (hq o h2)⟩

theorem AWP.skip (h : Qa (.normal st)) : AWP Γ .skip st Qa := ⟨fun rd hrd E a w Q hr hk => wpIn_skip (hk (.normal st) a w hr h)⟩
theorem AWP.label {l : Nat} (h : Qa (.normal st)) : AWP Γ (.label l) st Qa := ⟨fun rd hrd E a w Q hr hk => wpIn_label (hk (.normal st) a w hr h)⟩
theorem AWP.ret (h : Qa (.ret st)) : AWP Γ .ret st Qa := ⟨fun rd hrd E a w Q hr hk => wpIn_ret (hk (.ret st) a w hr h)⟩
theorem AWP.exit {id : Nat} (h : Qa (.exit id st)) : AWP Γ (.exit id) st Qa := ⟨fun rd hrd E a w Q hr hk => wpIn_exit (hk (.exit id st) a w hr h)⟩
theorem AWP.goto {l : Nat} (h : Qa (.goto l st)) : AWP Γ (.goto l) st Qa := ⟨fun rd hrd E a w Q hr hk => wpIn_goto (hk (.goto l st) a w hr h)⟩

theorem AWP.seq {x y : Code} (h : AWP Γ x st (thenQ (fun st => AWP Γ y st Qa) Qa)) : AWP Γ (.seq x y) st Qa := by
  refine ⟨fun rd hrd E a w Q hr hk => ?_⟩
  exact wpIn_seq (h.wp rd hrd E a w _ hr fun o a' w' h1 h2 => by
    cases o with
    | normal st' => exact AWP.wp h2 rd hrd E a' w' Q h1 hk
    | exit i st' => exact hk (.exit i st') a' w' h1 h2
    | ret st' => exact hk (.ret st') a' w' h1 h2
    | goto l st' => exact hk (.goto l st') a' w' h1 h2)

theorem AWP.block {id : Nat} {c : Code} (h : AWP Γ c st (blockQ id Qa)) : AWP Γ (.block id c) st Qa := by
  refine ⟨fun rd hrd E a w Q hr hk => ?_⟩
  exact wpIn_block (h.wp rd hrd E a w _ hr fun o a' w' h1 h2 => by
    cases o with
    | normal st' => exact hk (.normal st') a' w' h1 h2
    | exit i st' =>
      show (if i = id then Q .normal a' w' else Q (.exit i) a' w')
      have h2 : (match Nat.beq i id with | true => Qa (.normal st') | false => Qa (.exit i st')) := h2
      split at h2
      · rename_i hb
        rw [if_pos (Nat.eq_of_beq_eq_true hb)]
        exact hk (.normal st') a' w' h1 h2
      · rename_i hb
        rw [if_neg (fun e => by rw [e, Nat.beq_refl] at hb; cases hb)]
        exact hk (.exit i st') a' w' h1 h2
    | ret st' => exact hk (.ret st') a' w' h1 h2
    | goto l st' => exact hk (.goto l st') a' w' h1 h2)

theorem AWP.cond {c : Operand} {x y : Code} (hc : okOpd Γ.N c = true) (h : match st.ev c with | .s (.bool b) => brP b (AWP Γ x st Qa) (AWP Γ y st Qa) | _ => False) : AWP Γ (.cond c x y) st Qa := by
  refine ⟨fun rd hrd E a w Q hr hk => ?_⟩
  obtain ⟨β, hr⟩ := hr
  have hv := hr.ev hc
  split at h
  · rename_i b hb
    rw [hb] at hv
    rw [brP_eq] at h
    refine wpIn_cond (repV_bool hv) ?_
    cases b with
    | true => exact AWP.wp h rd hrd E a w Q ⟨β, hr⟩ hk
    | false => exact AWP.wp h rd hrd E a w Q ⟨β, hr⟩ hk
  · exact h.elim

theorem AWP.region (hΓ : Γ.Ok) {id : Nat} {ops : Array Oper} (hok : ops.toList.all (okO Γ.N) = true) (h : opsW Γ ops.toList ops.toList 0 st fun st => Qa (.normal st)) : AWP Γ (.region id ops false) st Qa := by
  refine ⟨fun rd hrd E a w Q hr hk => ?_⟩
  refine wpIn_region ?_
  have := opsW_sound (rd := rd) hΓ hok ops.toList 0 (Q := Q) (fun j => by simp) hr h (fun st' a' w' h1 h2 => hk (.normal st') a' w' h1 h2)
  rw [List.range_eq_range']
  simpa using this

theorem AWP.loop {c : Code} (I : Nat → St → Prop) (m : Nat) (h0 : I m st) (round : ∀ m st, I m st → AWP Γ c st (thenQ (fun st' => ∃ m', m' < m ∧ I m' st') Qa)) : AWP Γ (.loop c) st Qa := by
  refine ⟨fun rd hrd E a w Q hr hk => ?_⟩
  intro b k cs hro hb hroom
  have key : ∀ n st a w, I n st → Rep Γ E st a w → ∃ e a' w', Q e a' w' ∧ ArrivesIn (Machine.fenced Γ.P (FR rd)) Γ.P (lone (b.atR a (.code c :: .inLoop c :: k)) cs w) b k cs e a' w' := by
    intro n
    induction n using Nat.strongRecOn with
    | _ n ih =>
      intro st a w hI hr
      obtain ⟨e, a₁, w₁, hq, harr⟩ := (round n st hI).wp rd hrd E a w (fun e a' w' => match e with | .normal => ∃ m' st', m' < n ∧ I m' st' ∧ Rep Γ E st' a' w' | e => Q e a' w') hr (fun o a' w' h1 h2 => by
        cases o with
        | normal st' => obtain ⟨m', h3, h4⟩ := h2; exact ⟨m', st', h3, h4, h1⟩
        | exit i st' => exact hk (.exit i st') a' w' h1 h2
        | ret st' => exact hk (.ret st') a' w' h1 h2
        | goto l st' => exact hk (.goto l st') a' w' h1 h2) b (.inLoop c :: k) cs hro hb hroom
      cases e with
      | normal =>
        obtain ⟨m', st', hlt, hI₁, hr₁⟩ := hq
        obtain ⟨e₂, a₂, w₂, hq₂, harr₂⟩ := ih m' hlt st' a₁ w₁ hI₁ hr₁
        exact ⟨e₂, a₂, w₂, hq₂, .of_steps (StepsIn.trans harr (.one (fenced_calm hb hroom rfl) stepR_inLoop)) harr₂⟩
      | exit id => exact ⟨_, a₁, w₁, hq, .pass (x := .inLoop c) rfl (fun _ _ => .inl (by simp)) harr⟩
      | goto l => exact ⟨_, a₁, w₁, hq, .pass (x := .inLoop c) rfl (fun _ _ => .inl (by simp)) harr⟩
      | ret => exact ⟨_, a₁, w₁, hq, .pass (x := .inLoop c) rfl (fun _ _ => .inl (by simp)) harr⟩
      | panic ch => exact ⟨_, a₁, w₁, hq, .pass (x := .inLoop c) rfl (fun _ _ => .inl (by simp)) harr⟩
      | outgrown => exact ⟨_, a₁, w₁, hq, .pass (x := .inLoop c) rfl (fun _ _ => .inl (by simp)) harr⟩
  obtain ⟨e, a', w', hq, harr⟩ := key m st a w h0 hr
  exact ⟨e, a', w', hq, .of_steps (.one (fenced_calm hb hroom rfl) stepR_loop) harr⟩

end

/-! ### A function -/
def initF : List PV → Nat → Nat → PV
  | [], _ => fun _ => .tup []
  | p :: r, i => upd (initF r (i + 1)) i p
def initH : List Row → Nat → Nat → Option Row
  | [], _ => fun _ => none
  | x :: r, i => upd (initH r (i + 1)) i (some x)
def St.init (args : List PV) (hin : List Row) : St := ⟨initF args 0, initH hin 0⟩

theorem initF_at : ∀ (l : List PV) (i j : Nat), initF l i j = if i ≤ j then l.getD (j - i) (.tup []) else .tup []
  | [], i, j => by simp [initF]
  | p :: r, i, j => by
    rw [initF, upd_at, initF_at r]
    by_cases h : j = i
    · subst h; simp
    · rw [if_neg h]
      by_cases h2 : i ≤ j
      · rw [if_pos h2, if_pos (by omega), show j - i = (j - (i + 1)) + 1 by omega]
        simp
      · rw [if_neg h2, if_neg (by omega)]
theorem initH_at : ∀ (l : List Row) (i j : Nat), initH l i j = if i ≤ j then l[j - i]? else none
  | [], i, j => by simp [initH]
  | p :: r, i, j => by
    rw [initH, upd_at, initH_at r]
    by_cases h : j = i
    · subst h; simp
    · rw [if_neg h]
      by_cases h2 : i ≤ j
      · rw [if_pos h2, if_pos (by omega), show j - i = (j - (i + 1)) + 1 by omega]
        simp
      · rw [if_neg h2, if_neg (by omega)]

/-- One result. -/
def res1W (Γ : Ctx) (st : St) : ResultVar → (PV → Prop) → Prop
  | .tmp t, k => (match Nat.blt t Γ.N with | true => k (st.fr t) | false => False)
  | .cell a t, k => (match Nat.blt a Γ.N, Γ.T t, st.fr a with
    | true, some ty, .ptr j i off => (match st.H j with
      | some (.cell cs) => (match Nat.beq i 0 && Nat.ble (off + ty.size) cs.length with
        | true => k (ofCells ty.agg ((cs.drop off).take ty.size))
        | false => False)
      | _ => False)
    | true, some ty, .ept cs => (match Nat.ble ty.size cs.length with | true => k (ofCells ty.agg (cs.take ty.size)) | false => False)
    | _, _, _ => False)
def resW (Γ : Ctx) (st : St) : List ResultVar → (List PV → Prop) → Prop
  | [], k => k []
  | r :: rs, k => res1W Γ st r fun p => resW Γ st rs fun ps => k (p :: ps)
def tupOf : List PV → PV
  | [p] => p
  | l => .tup l

/-- Rows that are handed back: the ones that came, and new ones behind them. -/
def HandsW (n : Nat) (ps : List PV) (st : St) (rs : List PV) (hout : List Row) (ks : List Nat) : Prop :=
  ks.length = hout.length ∧ (∀ i, i < n → ks[i]? = some i) ∧ (∀ (i k : Nat), ks[i]? = some k → n ≤ i → 100 ≤ k) ∧ distinct ks = true ∧ rowsAre st.H ks ks hout ∧ demL2 ps = rs.map (ren2 ks) ∧ rs.all (maxId2 ks.length) = true ∧ hout.all (maxIdR ks.length) = true
def finW (pb : Bool) (n : Nat) (rs : List PV) (hout : List Row) (ps : List PV) (st : St) : Prop := match pb with
  | true => pubArgs 9 ps st fun ps st => ∃ ks, HandsW n ps st rs hout ks
  | false => ∃ ks, HandsW n ps st rs hout ks
def finQ (Γ : Ctx) (fn : Func) (pb : Bool) (n : Nat) (rs : List PV) (hout : List Row) : Out → Prop
  | .normal st => resW Γ st fn.results.toList fun ps => finW pb n rs hout ps st
  | .ret st => resW Γ st fn.results.toList fun ps => finW pb n rs hout ps st
  | _ => False

end Go.Vai

/- What a function does, out of what its body does to pure states. No condition. -/
namespace Go.Vai

section
variable {Γ : Ctx} {E : Env} {β : Nat → Option RA} {st : St} {a : Act} {w : World}

def resV (tmps : Array Value) : ResultVar → Sem Value
  | .tmp t => pure (tmps.getD t undef)
  | .cell x t => do loadVar t (← asAddr (tmps.getD x undef))
def tupV : List Value → Value
  | [v] => v
  | l => .tuple l.toArray

theorem res1W_ok (hΓ : Γ.Ok) (h : RepS Γ E β st a w) {r : ResultVar} {F : PV → Prop} (hw : res1W Γ st r F) :
    ∃ p v, F p ∧ (resV a.tmps r).run Γ.P w = .ok v w ∧ RepV w (E.cx β w) p v := by
  have get : ∀ t, Nat.blt t Γ.N = true → ∃ v, a.tmps[t]? = some v ∧ a.tmps.getD t undef = v := fun t ht => by
    have hlt : t < a.tmps.size := by rw [h.size]; exact Nat.le_of_ble_eq_true ht
    exact ⟨a.tmps[t], Array.getElem?_eq_getElem hlt, by simp [Array.getD, hlt]⟩
  unfold res1W at hw
  split at hw
  · rename_i t
    split at hw
    case h_2 => exact hw.elim
    rename_i ht
    obtain ⟨v, hv, hg⟩ := get t ht
    exact ⟨_, v, hw, by simp [resV, hg], h.fr t v hv⟩
  · rename_i x t
    split at hw
    · rename_i ty j i off hx hT hfr
      obtain ⟨v, hv, hg⟩ := get x hx
      have hp := h.fr x v hv
      rw [hfr] at hp
      have hty := hΓ.ty t ty hT
      split at hw
      case h_2 => exact hw.elim
      rename_i cs hH
      split at hw
      case h_2 => exact hw.elim
      rename_i hb
      simp only [Bool.and_eq_true] at hb
      have hi := Nat.eq_of_beq_eq_true hb.1
      have hle := Nat.le_of_ble_eq_true hb.2
      subst hi
      obtain ⟨ra, h1, b, us, t', h2, h3, h4⟩ := h.hp j _ hH
      subst h2
      obtain ⟨rb, h5, h6⟩ := hp
      change β j = some rb at h5
      rw [h1] at h5
      cases h5
      have h6 : v = .pointer (some ⟨b, 0 * cs.length + off, none⟩) := h6
      rw [Nat.zero_mul, Nat.zero_add] at h6
      subst h6
      have hsl := repL_slice h4 off ty.size
      have hlen : ((us.toList.drop off).take ty.size).length = ty.size := by
        have := h4.1
        simp at this ⊢
        omega
      have hrun := run_loadVar (P := Γ.P) (w := w) hty (b := b) (o := off) hlen (fun j u hu => by
        rw [List.getElem?_take] at hu
        split at hu
        · rw [List.getElem?_drop] at hu
          simpa [World.cell?, h3] using hu
        · cases hu)
      exact ⟨_, _, hw, by simp [resV, hg, asAddr, hrun], repV_ofCells hsl hlen hty.one⟩
    · rename_i ty cs hx hT hfr
      obtain ⟨v, hv, hg⟩ := get x hx
      have hp := h.fr x v hv
      rw [hfr] at hp
      have hty := hΓ.ty t ty hT
      split at hw
      case h_2 => exact hw.elim
      rename_i hb
      have hle := Nat.le_of_ble_eq_true hb
      have hp : RepD w (E.cx β w).ok (.ept cs) v := hp
      cases hp with
      | ept _ b o us ha hr =>
        have hL : RepL w (E.cx β w) cs ((List.range cs.length).map us) := by
          refine ⟨by simp, fun i c u hc hu => ?_⟩
          have hi := (List.getElem?_eq_some_iff.1 hc).1
          simp [hi] at hu
          subst hu
          have hd := hr i c hc
          exact ⟨repC_of_D hd, RepD.one hd⟩
        have hsl := repL_slice hL 0 ty.size
        simp only [List.drop_zero] at hsl
        have hlen : (((List.range cs.length).map us).take ty.size).length = ty.size := by simp; omega
        have hrun := run_loadVar (P := Γ.P) (w := w) hty (b := b) (o := o) hlen (fun j u hu => by
          rw [List.getElem?_take] at hu
          split at hu
          · have hj : j < cs.length := by
              rcases Nat.lt_or_ge j cs.length with h' | h'
              · exact h'
              · simp [List.getElem?_eq_none, h'] at hu
            simp [hj] at hu
            subst hu
            exact (ha j hj).2
          · cases hu)
        exact ⟨_, _, hw, by simp [resV, hg, asAddr, hrun], repV_ofCells hsl hlen hty.one⟩
    · exact hw.elim

theorem resW_ok (hΓ : Γ.Ok) (h : RepS Γ E β st a w) : ∀ {rs : List ResultVar} {F : List PV → Prop}, resW Γ st rs F →
    ∃ ps vs, F ps ∧ (rs.mapM (resV a.tmps)).run Γ.P w = .ok vs w ∧ RepA w (E.cx β w) ps vs
  | [], F, hw => ⟨[], [], hw, rfl, rfl, fun i p v hp => by simp at hp⟩
  | r :: rs, F, hw => by
    obtain ⟨p, v, h1, h2, h3⟩ := res1W_ok hΓ h hw
    obtain ⟨ps, vs, h4, h5, h6⟩ := resW_ok hΓ h h1
    refine ⟨p :: ps, v :: vs, h4, ?_, by simp [h6.1], fun i q u hq hu => ?_⟩
    · rw [List.mapM_cons, Sem.run_bind, h2, Result.andThen, Sem.run_bind, h5]
      rfl
    · cases i with
      | zero => simp at hq hu; subst hq; subst hu; exact h3
      | succ i => exact h6.2 i q u (by simpa using hq) (by simpa using hu)

theorem results_eq (fn : Func) (tmps : Array Value) : results fn tmps = (do let vs ← fn.results.mapM (resV tmps); pure (if h : vs.size = 1 then vs[0] else .tuple vs)) := by
  unfold results
  congr

theorem results_run {P : Program} {fn : Func} {tmps : Array Value} {w : World} {vs : List Value} (h : (fn.results.toList.mapM (resV tmps)).run P w = .ok vs w) :
    (results fn tmps).run P w = .ok (tupV vs) w := by
  have h1 : (fn.results.mapM (resV tmps)).run P w = .ok vs.toArray w := by
    rw [Array.mapM_eq_mapM_toList]
    show ((List.mapM _ _ : Sem _).bind _).run P w = _
    rw [show ∀ (x : Sem (List Value)) f, (x.bind f).run P w = (x.run P w).andThen fun a w' => (f a : Sem (Array Value)).run P w' from fun x f => Sem.run_bind _ _ x f, h]
    rfl
  rw [results_eq, Sem.run_bind, h1]
  match vs with
  | [] => rfl
  | [v] => rfl
  | _ :: _ :: _ => rfl

theorem rep_tupOf {cx : Cx} {ps : List PV} {vs : List Value} (h : RepA w cx ps vs) (hnt : ∀ p ∈ ps, ∀ l, p ≠ .tup l) : RepV w cx (tupOf ps) (tupV vs) := by
  obtain ⟨hl, hr⟩ := h
  match ps, vs, hl with
  | [], [], _ => exact ⟨[], rfl, rfl, fun i c u hc => by simp at hc⟩
  | [p], [v], _ => exact hr 0 p v rfl rfl
  | p :: q :: r, v :: u :: us, hl =>
    exact ⟨v :: u :: us, rfl, hl, fun i c u hc hu => rep2_of_ne (hnt c (List.mem_of_getElem? hc)) (hr i c u hc hu)⟩

/-- A mark's block is shut: nothing that the state stands for lies there. -/
theorem Rep.take (h : Rep Γ E st a w) {d : Deferred} {ds : List Deferred} (hd : a.defers = d :: ds) :
    ∃ D w', d = markOf D ∧ (Instr.takeDeferred D).run Γ.P w = .ok [] w' ∧ ((∀ b o, E.pin b o → False) → Rep Γ E st { a with defers := ds } w') := by
  obtain ⟨β, h⟩ := h
  obtain ⟨D, h1, h2, h3, h4⟩ := h.oth.marks d (by rw [hd]; exact List.mem_cons_self)
  refine ⟨D, w.putObj D (.deferred none), h1, ?_, fun hp => ⟨β, ?_⟩⟩
  · exact run_takeDeferred h3
  · have hlt := (Array.getElem?_eq_some_iff.1 h3).1
    have hsz : (w.putObj D (.deferred none)).heap.size = w.heap.size := by simp [World.putObj]
    have hother : ∀ b, b ≠ D → (w.putObj D (.deferred none)).heap[b]? = w.heap[b]? := fun b hb => World.putObj_heap_other hb
    have hm : Move w (w.putObj D (.deferred none)) (E.cx β w) (E.cx β (w.putObj D (.deferred none))) := by
      refine ⟨fun b o v k1 k2 => ⟨?_, ?_⟩⟩
      · rcases k1 with k1 | ⟨k3, k4, k5⟩
        · exact .inl k1
        · exact .inr ⟨k3, by rw [hsz]; exact k4, k5⟩
      · by_cases hb : b = D
        · subst hb
          simp [World.cell?, h3] at k2
        · rw [cell_of_heap (hother b hb)]; exact k2
    have hnd := h.oth.nodup
    rw [hd] at hnd
    refine { size := h.size, oth := ⟨fun b o hb => (hp b o hb).elim, (by rw [hsz]; exact h.oth.lo), fun d' hd' => ?_, (List.nodup_cons.1 hnd).2⟩, frv := fun s v hv => RepV.mono hm (fun _ _ => rfl) (h.frv s v hv), hp := fun j x hj => ?_, dom := h.dom, inj := h.inj, own := fun k b c s l hk => ⟨(h.own k b c s l hk).1, (by rw [hsz]; exact (h.own k b c s l hk).2)⟩, keeps := ⟨h.keeps.os, h.keeps.tape, h.keeps.output, (by rw [hsz]; exact h.keeps.size), fun b hb hn => (hother b (by omega)).trans (h.keeps.block b hb hn)⟩, okb := h.okb, hbb := h.hbb, fix := h.fix, fxm := h.fxm }
    · obtain ⟨D', k1, k2, k3, k4⟩ := h.oth.marks d' (by rw [hd]; exact List.mem_cons_of_mem _ hd')
      have hne : D' ≠ D := fun e => by
        have hdd : d' = d := by rw [k1, h1, e]
        exact (List.nodup_cons.1 hnd).1 (hdd ▸ hd')
      exact ⟨D', k1, k2, (hother D' hne).trans k3, k4⟩
    · obtain ⟨rb, k1, k2⟩ := h.hp j x hj
      exact ⟨rb, k1, RepRow.mono hm (fun _ _ => rfl) (fun b c s l e => by subst e; exact hother b (fun e => h4 ⟨j, c, s, l, by rw [k1, e]⟩)) k2⟩

theorem leaves_marks {fn : Func} {R : Ending → World → Prop} (hpin : ∀ b o, E.pin b o → False) (fin : ∀ a' w', Rep Γ E st a' w' → ∃ v, (results fn a'.tmps).run Γ.P w' = .ok v w' ∧ R (.returned v) w') :
    ∀ (ds : List Deferred) (a' : Act) (w' : World), a'.defers = ds → Rep Γ E st a' w' → LeavesInM Fence.wide 0 Γ.P fn a'.tmps R ds .returning w'
  | [], a', w', _, h1 => fin a' w' h1
  | d :: ds, a', w', hds, h1 => by
    obtain ⟨D, w'', hD, htake, hr2⟩ := h1.take hds
    subst hD
    exact ⟨(fun e => nomatch e), .inl ⟨D, w'', rfl, htake, leaves_marks hpin fin ds { a' with defers := ds } w'' rfl (hr2 hpin)⟩⟩

theorem sound_fn (hΓ : Γ.Ok) {f : Nat} {fn : Func} {c : Code} {args : List PV} {hin : List Row} {rs : List PV} {hout : List Row} (pb : Bool)
    (hf : Γ.P.funcs[f]? = some fn) (hb : fn.body = some c) (hname : fn.name ≠ "runtime.NumGoroutine") (hN : fn.ntmps = Γ.N) (hargs : args.length ≤ Γ.N) (hlen : hin.length ≤ hout.length) (h100 : hin.length ≤ 100)
    (hmv : ∀ k, Γ.mv k = true → ∀ r, hin[k]? = some r → movesR k r (tupOf rs) = true)
    (h : AWP Γ c (St.init args hin) (finQ Γ fn pb hin.length rs hout)) : SoundAt Γ.P f args hin (tupOf rs) hout := by
  refine ⟨hlen, fun w ok β vs hvl hvr hrow hnone hinj hon hok => ?_⟩
  refine .inl ⟨⟨fn, hf, hname, by rw [hb]; rfl⟩, ?_⟩
  refine (callsIn_wide (n := 0)).1 (callsIn_of_wp_marks (F := Fence.wide) hf hb trivial ?_)
  obtain ⟨E, hE⟩ : ∃ E : Env, E = ⟨w, ok, fun k b => ∃ c s l, β k = some (.blk b c s l), fun k => match hin[k]? with | some r => (match movesR k r (tupOf rs) with | true => none | false => β k) | none => none, fun _ _ => False, 0, #[]⟩ := ⟨_, rfl⟩
  have hcx : Move w w ⟨β, ok⟩ (E.cx β w) := by
    subst hE
    exact ⟨fun b o v h1 h2 => ⟨.inl h1, h2⟩⟩
  have hfx : ∀ k ra, E.fx k = some ra → k < hin.length ∧ β k = some ra := by
    intro k ra hk
    subst hE
    change (match hin[k]? with | some r => (match movesR k r (tupOf rs) with | true => none | false => β k) | none => none) = some ra at hk
    split at hk
    · rename_i r hr
      split at hk
      · cases hk
      · exact ⟨(List.getElem?_eq_some_iff.1 hr).1, hk⟩
    · cases hk
  have hsome : ∀ k x, β k = some x → k < hin.length := fun k x hk => by
    rcases Nat.lt_or_ge k hin.length with h1 | h1
    · exact h1
    · rw [hnone k h1] at hk; cases hk
  have hR : RepS Γ E β (St.init args hin) { tmps := vs.toArray ++ Array.replicate (fn.ntmps - vs.toArray.size) undef, defers := [] } w := by
    refine { size := ?_, oth := by subst hE; exact ⟨fun _ _ h => h.elim, Nat.zero_le _, (fun d hd => nomatch hd), List.nodup_nil⟩, frv := fun s v hv => ?_, hp := fun k r hk => ?_, dom := fun k hk => ?_, inj := hinj, own := fun k b c s l hk => ?_, keeps := ?_, okb := ?_, hbb := ?_, fix := fun k ra hk => ?_, fxm := fun k hk => ?_ }
    · simp; omega
    · have hv : (vs.toArray ++ Array.replicate (fn.ntmps - vs.toArray.size) undef)[s]? = some v := by
        unfold Env.val at hv
        split at hv
        · exact hv
        · subst hE; simp at hv
      show RepV w (E.cx β w) (initF args 0 s) v
      rw [initF_at, if_pos (Nat.zero_le _), Nat.sub_zero]
      rcases Nat.lt_or_ge s vs.length with h1 | h1
      · have h2 : s < args.length := by omega
        have h3 : args.getD s (.tup []) = args[s] := by simp [h2]
        rw [h3]
        have h4 : vs[s]? = some v := by
          have h5 : (vs.toArray ++ Array.replicate (fn.ntmps - vs.toArray.size) undef)[s]? = some v := hv
          rw [Array.getElem?_append_left (by simpa using h1)] at h5
          simpa using h5
        exact RepV.mono hcx (fun _ _ => rfl) (hvr s args[s] v (by simp [h2]) h4)
      · have h2 : args.getD s (.tup []) = .tup [] := by simp [List.getElem?_eq_none (by omega : args.length ≤ s)]
        rw [h2]
        have h4 : v = undef := by
          have h5 : (vs.toArray ++ Array.replicate (fn.ntmps - vs.toArray.size) undef)[s]? = some v := hv
          rw [Array.getElem?_append_right (by simpa using h1)] at h5
          rw [Array.getElem?_replicate] at h5
          split at h5
          · exact (Option.some.inj h5).symm
          · cases h5
        subst h4
        exact ⟨[], rfl, rfl, fun i c u hc => by simp at hc⟩
    · change initH hin 0 k = some r at hk
      rw [initH_at, if_pos (Nat.zero_le _), Nat.sub_zero] at hk
      obtain ⟨ra, h1, h2⟩ := hrow k r hk
      refine ⟨ra, h1, RepRow.mono hcx (fun _ _ => rfl) (fun _ _ _ _ _ => rfl) h2⟩
    · change initH hin 0 k = none at hk
      rw [initH_at, if_pos (Nat.zero_le _), Nat.sub_zero] at hk
      exact hnone k (List.getElem?_eq_none_iff.1 hk)
    · refine ⟨.inr ⟨?_, ?_⟩, hon b ⟨k, c, s, l, hk⟩⟩
      · have := hsome k _ hk; omega
      · subst hE; exact ⟨c, s, l, hk⟩
    · subst hE
      exact ⟨rfl, rfl, rfl, Nat.le_refl _, fun _ _ _ => rfl⟩
    · subst hE
      exact fun b o hb => ⟨(hok b o hb).1, fun ⟨k, c, s, l, hk⟩ => (hok b o hb).2 ⟨k, c, s, l, hk⟩⟩
    · subst hE
      exact fun b ⟨k, c, s, l, hk⟩ => hon b ⟨k, c, s, l, hk⟩
    · obtain ⟨h1, h2⟩ := hfx k ra hk
      exact ⟨by omega, h2⟩
    · cases hx : E.fx k with
      | none => rfl
      | some ra =>
        obtain ⟨h1, _⟩ := hfx k ra hx
        have h2 := hmv k hk hin[k] (by simp [h1])
        subst hE
        change (match hin[k]? with | some r => (match movesR k r (tupOf rs) with | true => none | false => β k) | none => none) = some ra at hx
        rw [List.getElem?_eq_getElem h1] at hx
        simp only [h2] at hx
        cases hx
  have fin : ∀ st a' w', Rep Γ E st a' w' → (resW Γ st fn.results.toList fun ps => finW pb hin.length rs hout ps st) → ∃ v, (results fn a'.tmps).run Γ.P w' = .ok v w' ∧ ∃ v', (Ending.returned v) = .returned v' ∧ ∃ β',
      RepV w' ⟨β', fun b o => ok b o ∨ (w.heap.size ≤ b ∧ b < w'.heap.size ∧ ¬ onB β' b)⟩ (tupOf rs) v' ∧
      (∀ (k : Nat) r, hout[k]? = some r → ∃ ra, β' k = some ra ∧ RepRow w' ⟨β', fun b o => ok b o ∨ (w.heap.size ≤ b ∧ b < w'.heap.size ∧ ¬ onB β' b)⟩ r ra) ∧
      (∀ k, hout.length ≤ k → β' k = none) ∧
      (∀ k k' b c s l c' s' l', β' k = some (.blk b c s l) → β' k' = some (.blk b c' s' l') → k = k') ∧
      (∀ k b c s l, β' k = some (.blk b c s l) → (w.heap.size ≤ b ∨ ∃ c s l, β k = some (.blk b c s l)) ∧ b < w'.heap.size) ∧
      (∀ (k : Nat) r, hin[k]? = some r → movesR k r (tupOf rs) = false → β' k = β k) ∧ Keeps w w' (onB β) := by
    intro st a' w' ⟨β1, h1⟩ hres
    obtain ⟨ps, us, hF, hrun, hA⟩ := resW_ok hΓ h1 hres
    obtain ⟨ps2, st2, β2, ks, hks, h2, hA2⟩ : ∃ ps2 st2 β2 ks, HandsW hin.length ps2 st2 rs hout ks ∧ RepS Γ E β2 st2 a' w' ∧ RepA w' (E.cx β2 w') ps2 us := by
      cases pb with
      | true =>
        obtain ⟨ps2, st2, β2, ⟨ks, h3⟩, h4, h5⟩ := pubArgs_ok h1 hA hF
        exact ⟨ps2, st2, β2, ks, h3, h4, h5⟩
      | false =>
        obtain ⟨ks, h3⟩ := hF
        exact ⟨ps, st, β1, ks, h3, h1, hA⟩
    obtain ⟨k1, k2, k3, k4, k5, k6, k7, k8⟩ := hks
    obtain ⟨hkl, hrows⟩ := rowsAre_ok k5
    have hnt := noTup k6 k7
    have hA3 : RepA w' (E.cx β2 w') (rs.map (ren2 ks)) us := by
      rw [← k6, demL2_map]
      exact hA2.map dem2 (fun p v hp hv => dem2_ok hv (hnt p hp))
    obtain ⟨β', hβ'⟩ : ∃ β' : Nat → Option RA, β' = fun i => (ks[i]?).bind β2 := ⟨_, rfl⟩
    have hb1 : ∀ (i k : Nat), ks[i]? = some k → β' i = β2 k := fun i k hk => by rw [hβ']; simp [hk]
    have hb2 : ∀ i x, β' i = some x → ∃ k, ks[i]? = some k ∧ β2 k = some x := fun i x hx => by
      rw [hβ'] at hx
      cases hk : ks[i]? with
      | none => simp [hk] at hx
      | some k => exact ⟨k, rfl, by simpa [hk] using hx⟩
    have hw0 : E.w0 = w := by subst hE; rfl
    have hok0 : E.ok0 = ok := by subst hE; rfl
    have hm : Move w' w' (E.cx β2 w') ⟨β', fun b o => ok b o ∨ (w.heap.size ≤ b ∧ b < w'.heap.size ∧ ¬ onB β' b)⟩ := by
      refine ⟨fun b o v h3 h4 => ⟨?_, h4⟩⟩
      rcases h3 with h3 | ⟨h5, h6, h7⟩
      · rw [hok0] at h3; exact .inl h3
      · rw [hw0] at h5
        exact .inr ⟨h5, h6, fun ⟨i, c, s, l, hi⟩ => by
          obtain ⟨k, _, hk⟩ := hb2 i _ hi
          exact h7 ⟨k, c, s, l, hk⟩⟩
    have hget : ∀ i, i < ks.length → (E.cx β2 w').β (ks.getD i 0) = β' i := fun i hi => by
      have : ks[i]? = some ks[i] := List.getElem?_eq_getElem hi
      rw [getD_of this, hb1 i _ this]
      rfl
    refine ⟨_, results_run hrun, _, rfl, β', ?_, ?_, ?_, ?_, ?_, ?_, ?_⟩
    · refine rep_tupOf ⟨by simpa using hA3.1, fun i p v hp hv => ?_⟩ (fun p hp l e => ?_)
      · have h3 := hA3.2 i (ren2 ks p) v (by rw [List.getElem?_map, hp]; rfl) hv
        exact ren2_bwd (cx1 := ⟨β', fun b o => ok b o ∨ (w.heap.size ≤ b ∧ b < w'.heap.size ∧ ¬ onB β' b)⟩) hm hget (List.all_eq_true.1 k7 p (List.mem_of_getElem? hp)) h3
      · have := List.all_eq_true.1 k7 p hp
        subst e
        cases this
    · intro i r hi
      have hil : i < ks.length := by rw [k1]; exact (List.getElem?_eq_some_iff.1 hi).1
      have hki : ks[i]? = some ks[i] := List.getElem?_eq_getElem hil
      obtain ⟨r', h3, h4⟩ := hrows i _ hki
      rw [hi] at h3
      cases h3
      obtain ⟨ra, h5, h6⟩ := h2.hp _ _ h4
      exact ⟨ra, (hb1 i _ hki).trans h5, renR_bwd (cx1 := ⟨β', fun b o => ok b o ∨ (w.heap.size ≤ b ∧ b < w'.heap.size ∧ ¬ onB β' b)⟩) hm hget (List.all_eq_true.1 k8 r (List.mem_of_getElem? hi)) h6⟩
    · intro i hi
      rw [hβ']
      simp [List.getElem?_eq_none (by omega : ks.length ≤ i)]
    · intro i i' b c s l c' s' l' h3 h4
      obtain ⟨k, hk, hk2⟩ := hb2 i _ h3
      obtain ⟨k', hk', hk2'⟩ := hb2 i' _ h4
      have := h2.inj k k' b c s l c' s' l' hk2 hk2'
      subst this
      exact distinct_inj k4 hk hk'
    · intro i b c s l hi
      obtain ⟨k, hk, hk2⟩ := hb2 i _ hi
      obtain ⟨h3, h4⟩ := h2.own k b c s l hk2
      refine ⟨?_, h4⟩
      rw [hw0] at h3
      rcases h3 with h3 | ⟨h5, h6⟩
      · exact .inl h3
      · rcases Nat.lt_or_ge i hin.length with h7 | h7
        · have := k2 i h7
          rw [hk] at this
          cases this
          subst hE
          exact .inr h6
        · have := k3 i k hk h7
          omega
    · intro i r hi hmvr
      have hil : i < hin.length := (List.getElem?_eq_some_iff.1 hi).1
      obtain ⟨ra, h3, _⟩ := hrow i r hi
      have h4 : E.fx i = some ra := by
        subst hE
        show (match hin[i]? with | some r => (match movesR i r (tupOf rs) with | true => none | false => β i) | none => none) = some ra
        rw [hi]
        simp only [hmvr]
        exact h3
      rw [hb1 i i (k2 i hil), (h2.fix i ra h4).2, h3]
    · have := h2.keeps
      subst hE
      exact ⟨this.os, this.tape, this.output, this.size, fun b hb hn => this.block b hb (fun ⟨k, c, s, l, hk⟩ => hn ⟨k, c, s, l, hk⟩)⟩
  have hpin : ∀ b o, E.pin b o → False := by subst hE; exact fun _ _ h => h
  refine h.wp none (fun _ => rfl) E _ w _ ⟨β, hR⟩ ?_
  intro o a' w' h1 h2
  cases o with
  | normal st => exact leaves_marks hpin (fun a' w' h1 => fin st a' w' h1 h2) _ a' w' rfl h1
  | ret st => exact leaves_marks hpin (fun a' w' h1 => fin st a' w' h1 h2) _ a' w' rfl h1
  | exit i st => exact h2.elim
  | goto l st => exact h2.elim

end
end Go.Vai

/- States of which a few places are known. No condition. -/
namespace Go.Vai

def okF (f : Nat → PV) : List (Nat × PV) → Prop
  | [] => True
  | (i, v) :: r => f i = v ∧ okF f r
def okH (H : Nat → Option Row) : List (Nat × Row) → Prop
  | [] => True
  | (i, v) :: r => H i = some v ∧ okH H r
def updF (f : Nat → PV) : List (Nat × PV) → Nat → PV
  | [] => f
  | (i, v) :: r => upd (updF f r) i v
def updH (H : Nat → Option Row) : List (Nat × Row) → Nat → Option Row
  | [] => H
  | (i, v) :: r => upd (updH H r) i (some v)
def Has (st : St) (vs : List (Nat × PV)) (rs : List (Nat × Row)) : Prop := okF st.fr vs ∧ okH st.H rs
theorem okF_canon {f : Nat → PV} : ∀ {vs : List (Nat × PV)}, okF f vs → updF f vs = f
  | [], _ => rfl
  | (i, v) :: r, h => by show upd (updF f r) i v = f; rw [okF_canon h.2, upd_self h.1]
theorem okH_canon {H : Nat → Option Row} : ∀ {vs : List (Nat × Row)}, okH H vs → updH H vs = H
  | [], _ => rfl
  | (i, v) :: r, h => by show upd (updH H r) i (some v) = H; rw [okH_canon h.2, upd_self h.1]
theorem Has.canon {st : St} {vs : List (Nat × PV)} {rs : List (Nat × Row)} (h : Has st vs rs) : ∃ f H, st = ⟨updF f vs, updH H rs⟩ := ⟨st.fr, st.H, by rw [okF_canon h.1, okH_canon h.2]⟩

/-- A function that is handed nothing and hands nothing back but data. -/
theorem sound_pure {Γ : Ctx} (hΓ : Γ.Ok) {f : Nat} {fn : Func} {c : Code} {args rs : List PV} (hf : Γ.P.funcs[f]? = some fn) (hb : fn.body = some c) (hname : fn.name ≠ "runtime.NumGoroutine") (hN : fn.ntmps = Γ.N) (hargs : Nat.ble args.length Γ.N = true)
    (hmv : Γ.mv = fun _ => false) (h : AWP Γ c (St.init args []) (finQ Γ fn true 0 rs [])) : SoundAt Γ.P f args [] (tupOf rs) [] :=
  sound_fn hΓ true hf hb hname hN (Nat.le_of_ble_eq_true hargs) (Nat.le_refl _) (Nat.zero_le _) (fun k hk => by rw [hmv] at hk; cases hk) h

/-- The end: what is handed back names no row. -/
theorem hands0 {st : St} {ps rs : List PV} (h : demL2 ps = rs) (hb : rs.all (maxId2 0) = true) : ∃ ks, HandsW 0 ps st rs [] ks := by
  refine ⟨[], rfl, fun i hi => absurd hi (Nat.not_lt_zero _), fun i k hk => by simp at hk, rfl, trivial, ?_, hb, rfl⟩
  rw [h]
  have h0 : ∀ p, maxId0 0 p = true → ren0 [] p = p := fun p hp => by
    cases p <;> first | rfl | (simp [maxId0] at hp; done)
  have h1 : ∀ p, maxId1 0 p = true → ren1 [] p = p := fun p hp => by
    cases p with
    | clo f cs =>
      show PV.clo f (cs.map (ren0 [])) = _
      have : cs.map (ren0 []) = cs := by
        conv => rhs; rw [← List.map_id cs]
        exact List.map_congr_left (fun x hx => h0 x (List.all_eq_true.1 hp x hx))
      rw [this]
    | s x => exact h0 (.s x) hp
    | nils => exact h0 .nils hp
    | slc a b c => exact h0 (.slc a b c) hp
    | xs a b => exact h0 (.xs a b) hp
    | ptr a b c => exact h0 (.ptr a b c) hp
    | ept a => exact h0 (.ept a) hp
    | agg a => rfl
    | tup a => rfl
    | bad => rfl
  have h2 : ∀ p, maxId2 0 p = true → ren2 [] p = p := fun p hp => by
    cases p with
    | agg cs =>
      show PV.agg (cs.map (ren1 [])) = _
      have : cs.map (ren1 []) = cs := by
        conv => rhs; rw [← List.map_id cs]
        exact List.map_congr_left (fun x hx => h1 x (List.all_eq_true.1 hp x hx))
      rw [this]
    | s x => exact h1 (.s x) hp
    | nils => exact h1 .nils hp
    | slc a b c => exact h1 (.slc a b c) hp
    | xs a b => exact h1 (.xs a b) hp
    | ptr a b c => exact h1 (.ptr a b c) hp
    | ept a => exact h1 (.ept a) hp
    | clo a b => exact h1 (.clo a b) hp
    | tup a => cases hp
    | bad => rfl
  conv => lhs; rw [← List.map_id rs]
  exact List.map_congr_left (fun x hx => (h2 x (List.all_eq_true.1 hb x hx)).symm)

theorem isD_ren {ks : List Nat} {p : PV} (h : isD p = true) : ren1 ks p = p := by cases p <;> first | rfl | cases h
theorem isD_max {n : Nat} {p : PV} (h : isD p = true) : maxId1 n p = true := by cases p <;> first | rfl | cases h
/-- The end of a function that was handed one variable, and hands nothing back beside it. -/
theorem handsCell {st : St} {cs : List PV} (h : st.H 0 = some (.cell cs)) (hD : cs.all isD = true) : ∃ ks, HandsW 1 [] st [] [.cell cs] ks := by
  refine ⟨[0], rfl, fun i hi => ?_, fun i k hk hi => ?_, rfl, ⟨?_, trivial⟩, rfl, rfl, ?_⟩
  · have : i = 0 := by omega
    subst this; rfl
  · have := (List.getElem?_eq_some_iff.1 hk).1
    simp at this
    omega
  · rw [h]
    show _ = some (Row.cell (cs.map (ren1 [0])))
    have : cs.map (ren1 [0]) = cs := by
      conv => rhs; rw [← List.map_id cs]
      exact List.map_congr_left fun p hp => isD_ren (List.all_eq_true.1 hD p hp)
    rw [this]
  · show (cs.all (maxId1 1) && true) = true
    rw [Bool.and_true, List.all_eq_true]
    exact fun p hp => isD_max (List.all_eq_true.1 hD p hp)

theorem finP {st : St} {p q : PV} (hp : dem2 p = q) (hb : maxId2 0 q = true) : ∃ ks, HandsW 0 [p] st [q] [] ks :=
  hands0 (by rw [← hp]; rfl) (by simp [hb])
theorem finI {st : St} {p : PV} {y x : Int} (hp : dem2 p = iv y) (h : y = x) : ∃ ks, HandsW 0 [p] st [iv x] [] ks := finP (by rw [hp, h]) rfl
theorem finB {st : St} {p : PV} {y x : Bool} (hp : dem2 p = bv y) (h : y = x) : ∃ ks, HandsW 0 [p] st [bv x] [] ks := finP (by rw [hp, h]) rfl

end Go.Vai

/- Operations whose order is drawn: what one of them does, as an effect. No condition. -/
namespace Go.Vai

/-- What an operation that names few rows does: a value for its place, rows written. -/
structure Eff where
  v : Option PV
  us : List (Nat × Row)

def setU (H : Nat → Option Row) : List (Nat × Row) → Nat → Option Row
  | [] => H
  | (j, r) :: us => upd (setU H us) j (some r)
def app (d : Option Nat) (E : Eff) (st : St) : St := ⟨match d, E.v with | some d, some v => upd st.fr d v | _, _ => st.fr, setU st.H E.us⟩

def semD {α : Type} : Sem α → (α → Prop) → Prop
  | .pure a, k => k a
  | _, _ => False
theorem semD_W {α : Type} {s : Sem α} {k : α → Prop} (h : semD s k) : semW s k := by
  cases s <;> first | exact h | exact h.elim

def fE (p : PV) (k : Eff → Prop) : Prop := force p fun p => k ⟨some p, []⟩
def vE (p : PV) (k : Eff → Prop) : Prop := k ⟨some p, []⟩

def evsD (ev : Operand → PV) (T : Nat → Option Ty) : List Operand → List Nat → List PV
  | [], _ => []
  | x :: r, [] => ev x :: evsD ev T r []
  | x :: r, t :: ts => typed T t (ev x) :: evsD ev T r ts

def callD (Γ : Ctx) (g : Nat) (args : List PV) (d : Option Nat) (k : Eff → Prop) : Prop :=
  match Γ.hf g, idA args, bareA args with
  | false, none, true => ∃ res hout, SoundAt Γ.P g (demL2 args) [] res hout ∧ match hout with
      | [] => (match bareT res with | true => fE res k | false => False)
      | [r] => (match d with
        | none => False
        | some d => (match (maxIdT 1 res && maxIdR 1 r) && Γ.mt d with | true => force (ren [lid d] res) fun p => k ⟨some p, [(lid d, renR [lid d] r)]⟩ | false => False))
      | _ => False
  | _, _, _ => False

/-- The operands whose rows an operation reads. -/
def reads (o : Oper) : List Operand := match o.op with | .move _ => [] | .assign _ => [] | _ => o.op.operands.toList

/-- As opW, for operations that kill no name. -/
def dOp (Γ : Ctx) (o : Oper) (ev : Operand → PV) (H : Nat → Option Row) (k : Eff → Prop) : Prop :=
  match o.op with
  | .move x => fE (typed Γ.T o.type (ev x)) k
  | .assign x => fE (typed Γ.T o.type (ev x)) k
  | .pick c a b => match ev c with
    | .s (.bool v) => brP v (fE (typed Γ.T o.type (ev a)) k) (fE (typed Γ.T o.type (ev b)) k)
    | _ => False
  | .alloc t => match o.dst, Γ.T t with
    | some d, some ty => k ⟨some (.ptr (lid d) 0 0), [(lid d, .cell ty.zero)]⟩
    | _, _ => False
  | .box t x => match o.dst with
    | some d => force (typed Γ.T t (ev x)) fun p => (match okV p && !(has (lid d) p) with
      | true => k ⟨some (.ptr (lid d) 0 0), [(lid d, .cell (cellsOf p))]⟩
      | false => False)
    | none => False
  | .build t parts => match Γ.T t with
    | some ty => match ty.kind with
      | .struct => (match parts.toList.all (fun p => okV (ev p.2)) with | true => fillP (fun i => ty.flds[i]?) ty.zero (parts.toList.map fun p => (p.1, cellsOf (ev p.2))) fun cs => fE (.agg cs) k | false => False)
      | .array _ => (match parts.toList.all (fun p => okV (ev p.2)) with | true => fillP (fun i => some (i * ty.el, ty.el)) ty.zero (parts.toList.map fun p => (p.1, cellsOf (ev p.2))) fun cs => fE (.agg cs) k | false => False)
      | _ => False
    | none => False
  | .buildSlice t len parts => match Γ.T t, o.dst with
    | some ty, some d => (match ty.kind with
      | .slice => (match Nat.ble (len * ty.el) 16777216 with
        | false => False
        | true => litEs (parts.toList.map fun p => (p.1, ev p.2)) ty.el len 0 fun es => (match Γ.mt d with
          | false => fE (.slc ty.el es true) k
          | true => k ⟨some (.xs (lid d) none), [(lid d, .row ty.el es)]⟩))
      | _ => False)
    | _, _ => False
  | .load t a => match Γ.T t with
    | some ty => (match ev a with
      | .ptr j i off => (match H j with
        | some (.cell cs) => (match Nat.beq i 0 && Nat.ble (off + ty.size) cs.length with
          | true => fE (ofCells ty.agg ((cs.drop off).take ty.size)) k
          | false => False)
        | some (.row _ es) => ∃ e, es[i]? = some e ∧ (match Nat.ble (off + ty.size) e.length with
          | true => fE (ofCells ty.agg ((e.drop off).take ty.size)) k
          | false => False)
        | none => False)
      | .ept cs => (match Nat.ble ty.size cs.length with
        | true => fE (ofCells ty.agg (cs.take ty.size)) k
        | false => False)
      | _ => False)
    | none => False
  | .store t a v => match Γ.T t, o.dst with
    | some ty, none => (match ev a with
      | .ptr j i off => (match H j with
        | some (.cell cs) => force (typed Γ.T t (ev v)) fun p => (match okV p && Nat.beq i 0 && Nat.beq (cellsOf p).length ty.size && Nat.ble (off + ty.size) cs.length with
          | true => forceL (setCells cs off (cellsOf p)) fun cs' => k ⟨none, [(j, .cell cs')]⟩
          | false => False)
        | some (.row sz es) => force (typed Γ.T t (ev v)) fun p => (match (cellsOf p).all isD && Nat.beq off 0 && Nat.beq (cellsOf p).length ty.size && Nat.beq ty.size sz with
          | true => i < es.length ∧ k ⟨none, [(j, .row sz (es.set i (cellsOf p)))]⟩
          | false => False)
        | none => False)
      | _ => False)
    | _, _ => False
  | .nilCheck x => match ev x with
    | .ptr a b c => vE (.ptr a b c) k
    | .ept cs => vE (.ept cs) k
    | .clo f cs => vE (.clo f cs) k
    | .s (.func (.func f) a b) => vE (.s (.func (.func f) a b)) k
    | _ => False
  | .binOp op t x y _ => match fnNil op (ev x) (ev y) with
    | some b => (match Γ.T t with | some ty => (match ty.kind with | .func => vE (bv b) k | _ => False) | none => False)
    | none => (match boolEq op (ev x) (ev y) with
      | some b => (match Γ.T t with | some ty => (match ty.kind with | .bool => vE (bv b) k | _ => False) | none => False)
      | none => (match ev x, ev y with
        | .s a, .s b => semD (do eqGuard op t x y a b; Go.binOp op t a b) fun v => oneS v fun p => fE p k
        | _, _ => False))
  | .unOp op _ x => match ev x with
    | .s v => semD (Op.unary op v) fun v => oneS v fun p => fE p k
    | _ => False
  | .convert src dst x => match Γ.T dst, Γ.T src with
    | some ty, some _ => (match ty.kind, ev x with
      | .int q, .s (.int _ n) => vE (.s (.int q (q.wrap n))) k
      | .float q, .s (.int _ n) => vE (.s (.float q (q.nearest n))) k
      | .string, .s (.string b) => vE (.s (.string b)) k
      | _, _ => False)
    | _, _ => False
  | .slice t x lo hi mx => match mx, Γ.T t with
    | none, some ty => (match ty.kind, ev x with
      | .string, .s (.string b) => cutW (lo.map ev) (hi.map ev) b.size fun l h => vE (.s (.string (b.extract l (h.getD b.size)))) k
      | .slice, .slc sz es _ => (match Nat.beq sz ty.el with
        | true => cutW (lo.map ev) (hi.map ev) es.length fun l h => vE (.slc sz (cutE es l h) false) k
        | false => False)
      | .slice, .xs j none => (match H j, o.dst with
        | some (.row sz es), some d => (match Nat.beq sz ty.el && !(Γ.mt d) with
          | true => cutW (lo.map ev) (hi.map ev) es.length fun l h => vE (.xs j (some (l, (h.getD es.length) - l))) k
          | false => False)
        | _, _ => False)
      | _, _ => False)
    | _, _ => False
  | .fieldAddr s x f => match Γ.T s with
    | some ty => (match ty.kind, ty.flds[f]? with
      | .struct, some (off, _) => (match ev x with
        | .ptr j i o0 => vE (.ptr j i (o0 + off)) k
        | .ept cs => forceL (cs.drop off) fun cs' => vE (.ept cs') k
        | _ => False)
      | _, _ => False)
    | none => False
  | .indexAddr t x ix => match Γ.T t with
    | some ty => (match ty.kind, ev ix with
      | .slice, .s (.int _ i) => (match ev x with
        | .slc sz es _ => (match Nat.beq sz ty.el with | true => 0 ≤ i ∧ ∃ c, es[i.toNat]? = some c ∧ forceL c fun c' => vE (.ept c') k | false => False)
        | .xs j none => (match H j with
          | some (.row sz es) => (match Nat.beq sz ty.el with | true => (0 ≤ i ∧ i < es.length) ∧ vE (.ptr j i.toNat 0) k | false => False)
          | _ => False)
        | .xs j (some (lo, n)) => (match H j with
          | some (.row sz _) => (match Nat.beq sz ty.el with | true => (0 ≤ i ∧ i < n) ∧ vE (.ptr j (lo + i.toNat) 0) k | false => False)
          | _ => False)
        | _ => False)
      | .array n, .s (.int _ i) => (match ev x with
        | .ptr j q off => (0 ≤ i ∧ i < n) ∧ vE (.ptr j q (off + i.toNat * ty.el)) k
        | _ => False)
      | _, _ => False)
    | none => False
  | .index t x ix => match Γ.T t with
    | some ty => (match ty.kind, ev x, ev ix with
      | .array n, .agg cs, .s (.int _ i) => (0 ≤ i ∧ i < n) ∧ ∃ c, (cs.drop (i.toNat * ty.el)).take ty.el = c ∧ (match Nat.beq c.length ty.el with | true => fE (ofCells (Nat.blt 1 ty.el) c) k | false => False)
      | .string, .s (.string b), .s (.int _ i) => 0 ≤ i ∧ ∃ c : UInt8, b.data.toList[i.toNat]? = some c ∧ vE (.s (.int .u8 c.toNat)) k
      | _, _, _ => False)
    | none => False
  | .extract t i => match ev t with
    | .tup vs => (match vs[i]? with | some p => fE p k | none => False)
    | _ => False
  | .call c => match c.callee with
    | .builtin b => (match b with
      | .len => (match c.argTypes.toList, evsD ev Γ.T c.args.toList c.argTypes.toList with
        | [t], [x] => (match Γ.T t with
          | some ty => (match lenK ty.kind ⟨fun _ => .bad, H⟩ x with | some n => vE (iv n) k | none => False)
          | none => False)
        | _, _ => False)
      | .append => (match c.argTypes.toList, evsD ev Γ.T c.args.toList c.argTypes.toList with
        | t :: t2 :: _, [x, y] => (match isSli Γ.T t, isSeq Γ.T t2, srcEs ⟨fun _ => .bad, H⟩ y, o.dst with
          | some ty, true, some ys, some d => (match x with
            | .slc sz es true => (match Nat.beq sz ty.el with
              | true => ((∀ (i : Nat) e, ys[i]? = some e → e.length = ty.el) ∧ (es = [] ∨ ys ≠ []) ∧ es.length + ys.length ≤ 1073741824) ∧ k ⟨some (.xs (lid d) none), [(lid d, .row sz (appE es ys))]⟩
              | false => False)
            | _ => False)
          | _, _, _, _ => False)
        | _, _ => False)
      | .max => (match valsOf (c.args.toList.map ev) with | some vs => semD (Builtin.max_ c.argTypes o.type vs.toArray) fun v => oneS v fun p => fE p k | none => False)
      | _ => False)
    | .value f => (match ev f with
      | .s (.func (.func g) fi ca) => (match fi.toList, ca.toList with | [], [] => callD Γ g (evsD ev Γ.T c.args.toList c.argTypes.toList) o.dst k | _, _ => False)
      | .clo g caps => callD Γ g (evsD ev Γ.T c.args.toList c.argTypes.toList ++ caps) o.dst k
      | _ => False)
    | _ => False
  | _ => False

/-- No name of row f anywhere. -/
def NF (st : St) (f : Nat) : Prop := (∀ s, has f (st.fr s) = false) ∧ ∀ j cs, st.H j = some (.cell cs) → cs.any (has1 f) = false

theorem NF.kill {st : St} {f : Nat} (h : NF st f) : st.kill f = st := by
  obtain ⟨fr, H⟩ := st
  have h1 : (fun j => Vai.kill f (fr j)) = fr := funext fun s => by
    have := h.1 s
    show (match has f (fr s) with | true => PV.bad | false => fr s) = _
    have h2 : has f (fr s) = false := this
    rw [h2]
  have h2 : (fun j => (H j).map (killR f)) = H := funext fun j => by
    cases hj : H j with
    | none => rfl
    | some r =>
      cases r with
      | row sz es => rfl
      | cell cs =>
        have h3 := h.2 j cs hj
        show some (Row.cell (cs.map (kill1 f))) = _
        congr 2
        conv => rhs; rw [← List.map_id cs]
        refine List.map_congr_left fun c hc => ?_
        have h4 : has1 f c = false := by
          cases hh : has1 f c with
          | false => rfl
          | true => rw [List.any_eq_true.2 ⟨c, hc, hh⟩] at h3; cases h3
        show (match has1 f c with | true => PV.bad | false => c) = c
        rw [h4]
  show (⟨fun j => Vai.kill f (fr j), fun j => (H j).map (killR f)⟩ : St) = ⟨fr, H⟩
  rw [h1, h2]

/-- The row that an operation lays anew. -/
def freshOf (Γ : Ctx) (o : Oper) : Option Nat := match o.dst with
  | none => none
  | some d => match o.op with
    | .alloc _ => some (lid d) | .box _ _ => some (lid d)
    | .buildSlice _ _ _ => (match Γ.mt d with | true => some (lid d) | false => none)
    | .call c => (match c.callee with
      | .builtin .append => some (lid d)
      | .value _ => (match Γ.mt d with | true => some (lid d) | false => none)
      | _ => none)
    | _ => none

end Go.Vai

/- Operations whose order is drawn: an effect is what the operation does. No condition. -/
namespace Go.Vai

section
variable {Γ : Ctx} {o : Oper} {st : St} {k : St → Prop} {kE : Eff → Prop}

theorem app_put (d : Option Nat) (p : PV) (st : St) : app d ⟨some p, []⟩ st = st.put d p := by cases d <;> rfl
theorem fE_W {p : PV} (h : fE p kE) (hk : ∀ E, kE E → k (app o.dst E st)) : st.putF o.dst p k := by
  unfold fE at h
  unfold St.putF
  rw [force_eq] at h ⊢
  have := hk _ h
  rwa [app_put] at this
theorem vE_W {p : PV} (h : vE p kE) (hk : ∀ E, kE E → k (app o.dst E st)) : k (st.put o.dst p) := by
  have := hk _ h
  rwa [app_put] at this

theorem evsD_eq (st : St) (T : Nat → Option Ty) : ∀ (xs : List Operand) (ts : List Nat), evsD st.ev T xs ts = evs st T xs ts
  | [], ts => by cases ts <;> rfl
  | x :: r, [] => by rw [evsD, evs, evsD_eq st T r []]
  | x :: r, t :: ts => by rw [evsD, evs, evsD_eq st T r ts]

theorem new_app {d : Nat} {r : Row} {p : PV} (h : NF st (lid d)) : app (some d) ⟨some p, [(lid d, r)]⟩ st = st.new d r p := by
  unfold St.new
  rw [h.kill]
  rfl

theorem fillP_mono {place : Nat → Option (Nat × Nat)} {F G : List PV → Prop} (hFG : ∀ cs, F cs → G cs) : ∀ {ps : List (Nat × List PV)} {cs : List PV}, fillP place cs ps F → fillP place cs ps G
  | [], cs, h => hFG cs h
  | (i, vs) :: ps, cs, h => by
    unfold fillP at h ⊢
    cases hp : place i with
    | none => rw [hp] at h; exact h.elim
    | some q =>
      obtain ⟨off, size⟩ := q
      rw [hp] at h
      simp only [] at h ⊢
      cases hb : (Nat.beq vs.length size && Nat.ble (off + vs.length) cs.length) with
      | true => rw [hb] at h; exact fillP_mono hFG h
      | false => rw [hb] at h; exact h.elim
theorem litEs_mono {sz : Nat} {F G : List (List PV) → Prop} (hFG : ∀ cs, F cs → G cs) : ∀ {n i : Nat} {ps : List (Nat × PV)}, litEs ps sz n i F → litEs ps sz n i G
  | 0, i, ps, h => by
    cases ps with
    | nil => exact hFG _ h
    | cons _ _ => exact h.elim
  | n + 1, i, ps, h => by
    cases ps with
    | nil => exact h.elim
    | cons p r =>
      obtain ⟨j, v⟩ := p
      rw [litEs] at h ⊢
      split at h
      · exact litEs_mono (fun es he => hFG _ he) h
      · exact h.elim
theorem cutW_mono {lo hi : Option PV} {len : Int} {F G : Nat → Option Nat → Prop} (hFG : ∀ l h, F l h → G l h) (h : cutW lo hi len F) : cutW lo hi len G := by
  unfold cutW at h ⊢
  split at h
  · exact hFG _ _ h
  · split at h
    · exact ⟨h.1, hFG _ _ h.2⟩
    · exact h.elim
  · split at h
    · exact ⟨h.1, hFG _ _ h.2⟩
    · exact h.elim
  · split at h
    · exact ⟨h.1, hFG _ _ h.2⟩
    · exact h.elim
theorem semD_mono {α : Type} {s : Sem α} {F G : α → Prop} (hFG : ∀ a, F a → G a) (h : semD s F) : semD s G := by
  cases s <;> first | exact hFG _ h | exact h.elim
theorem semW_mono {α : Type} {F G : α → Prop} (hFG : ∀ a, F a → G a) : ∀ {s : Sem α}, semW s F → semW s G
  | .pure a, h => hFG a h
  | .choose q f, h => by
    cases q with
    | nanBits a b c => exact fun n => semW_mono hFG (h n)
    | _ => exact h.elim
  | .load _ _ _, h => h.elim
  | .store _ _ _ _, h => h.elim
  | .new _ _, h => h.elim
  | .shape _ _, h => h.elim
  | .freeze _ _ _, h => h.elim
  | .frozen _ _, h => h.elim
  | .getObj _ _, h => h.elim
  | .setObj _ _ _, h => h.elim
  | .sys _ _, h => h.elim
  | .program _, h => h.elim
  | .mark _ _, h => h.elim
  | .halt _, h => h.elim
theorem oneS_mono {v : Value} {F G : PV → Prop} (hFG : ∀ p, F p → G p) (h : oneS v F) : oneS v G := by
  unfold oneS at h ⊢
  split at h
  · exact h.elim
  · exact h.elim
  · exact h.elim
  · exact hFG _ h

theorem callD_W {g : Nat} {args : List PV} (hf : ∀ d, o.dst = some d → Γ.mt d = true → NF st (lid d)) (h : callD Γ g args o.dst kE) (hk : ∀ E, kE E → k (app o.dst E st)) : callW Γ g args o.dst st k := by
  unfold callD at h
  split at h
  case h_2 => exact h.elim
  rename_i h1 h2 h3
  obtain ⟨res, hout, hs, h⟩ := h
  unfold callW
  rw [h1]
  unfold pubArgs
  rw [h2]
  dsimp only
  rw [h3]
  refine ⟨res, hout, hs, ?_⟩
  split at h
  · split at h
    · (try simp only [*]); exact fE_W h hk
    · exact h.elim
  · split at h
    · exact h.elim
    · rename_i d hd
      (try simp only [*])
      split at h
      · rename_i hb
        (try simp only [*])
        rw [Bool.and_eq_true] at hb
        rw [hb.1]
        simp only []
        rw [force_eq] at h ⊢
        have := hk _ h
        rw [hd] at this
        rwa [new_app (hf d hd hb.2)] at this
      · exact h.elim
  · exact h.elim

theorem dOp_W (hf : ∀ f, freshOf Γ o = some f → NF st f) (h : dOp Γ o st.ev st.H kE) (hk : ∀ E, kE E → k (app o.dst E st)) : opW Γ o st k := by
  have hfd : ∀ d, o.dst = some d → (∀ f, freshOf Γ o = some f → f = lid d) := by
    intro d hd f hf
    unfold freshOf at hf
    rw [hd] at hf
    simp only [] at hf
    repeat' split at hf
    all_goals (cases hf; try rfl)
  unfold dOp at h
  unfold opW
  cases hop : o.op with
  | move x => rw [hop] at h; exact fE_W h hk
  | assign x => rw [hop] at h; exact fE_W h hk
  | pick c x y =>
    rw [hop] at h
    dsimp only at h ⊢
    split at h
    · rename_i b hb
      (try simp only [*])
      rw [brP_eq] at h ⊢
      cases b with
      | true => exact fE_W h hk
      | false => exact fE_W h hk
    · exact h.elim
  | alloc t =>
    rw [hop] at h
    dsimp only at h ⊢
    split at h
    · rename_i d ty hd hT
      (try simp only [*])
      have := hk _ h
      rw [hd] at this
      rwa [new_app (hf _ (by simp [freshOf, hd, hop]))] at this
    · exact h.elim
  | box t x =>
    rw [hop] at h
    dsimp only at h ⊢
    split at h
    · rename_i d hd
      (try simp only [*])
      rw [force_eq] at h ⊢
      split at h
      · (try simp only [*]); have := hk _ h
        rw [hd] at this
        rwa [new_app (hf _ (by simp [freshOf, hd, hop]))] at this
      · exact h.elim
    · exact h.elim
  | build t ps =>
    rw [hop] at h
    dsimp only at h ⊢
    split at h
    · split at h
      · split at h
        · (try simp only [*]); exact fillP_mono (fun cs hc => fE_W hc hk) h
        · exact h.elim
      · split at h
        · (try simp only [*]); exact fillP_mono (fun cs hc => fE_W hc hk) h
        · exact h.elim
      · exact h.elim
    · exact h.elim
  | buildSlice t n ps =>
    rw [hop] at h
    dsimp only at h ⊢
    split at h
    · rename_i ty d hT hd
      (try simp only [*])
      split at h
      · split at h
        · exact h.elim
        · (try simp only [*]); refine litEs_mono (fun es he => ?_) h
          split at he
          · (try simp only [*]); have := fE_W he hk; rwa [hd] at this
          · rename_i hmt
            (try simp only [*])
            have := hk _ he
            rw [hd] at this
            rwa [new_app (hf _ (by simp [freshOf, hd, hop, hmt]))] at this
      · exact h.elim
    · exact h.elim
  | load t x =>
    rw [hop] at h
    dsimp only at h ⊢
    split at h
    · split at h
      · split at h
        · split at h
          · (try simp only [*]); exact fE_W h hk
          · exact h.elim
        · (try simp only [*])
          obtain ⟨e, h1, h⟩ := h
          refine ⟨e, h1, ?_⟩
          split at h
          · (try simp only [*]); exact fE_W h hk
          · exact h.elim
        · exact h.elim
      · split at h
        · (try simp only [*]); exact fE_W h hk
        · exact h.elim
      · exact h.elim
    · exact h.elim
  | store t x y =>
    rw [hop] at h
    dsimp only at h ⊢
    split at h
    · rename_i ty hT hd
      (try simp only [*])
      have fin : ∀ j r, kE ⟨none, [(j, r)]⟩ → k (st.setH j r) := fun j r hh => by
        have := hk _ hh
        rw [hd] at this
        exact this
      split at h
      · split at h
        · (try simp only [*]); rw [force_eq] at h ⊢
          split at h
          · (try simp only [*]); rw [forceL_eq] at h ⊢
            exact fin _ _ h
          · exact h.elim
        · (try simp only [*]); rw [force_eq] at h ⊢
          split at h
          · (try simp only [*]); exact ⟨by first | exact h.1 | simp, by first | exact fin _ _ h.2 | trivial⟩
          · exact h.elim
        · exact h.elim
      · exact h.elim
    · exact h.elim
  | nilCheck x =>
    rw [hop] at h
    dsimp only at h ⊢
    split at h <;> first | exact h.elim | ((try simp only [*]); exact vE_W h hk)
  | binOp b t x y t2 =>
    rw [hop] at h
    dsimp only at h ⊢
    split at h
    · split at h
      · split at h
        · (try simp only [*]); exact vE_W h hk
        · exact h.elim
      · exact h.elim
    · rename_i hn
      rw [hn]
      dsimp only
      split at h
      · rename_i hb
        rw [hb]
        dsimp only
        split at h
        · split at h
          · (try simp only [*]); exact vE_W h hk
          · exact h.elim
        · exact h.elim
      · rename_i hb
        rw [hb]
        dsimp only
        split at h
        · (try simp only [*]); exact semW_mono (fun v hv => oneS_mono (fun p hp => fE_W hp hk) hv) (semD_W h)
        · exact h.elim
  | unOp b t x =>
    rw [hop] at h
    dsimp only at h ⊢
    split at h
    · (try simp only [*]); exact semW_mono (fun v hv => oneS_mono (fun p hp => fE_W hp hk) hv) (semD_W h)
    · exact h.elim
  | convert s d x =>
    rw [hop] at h
    dsimp only at h ⊢
    split at h
    · split at h <;> first | exact h.elim | ((try simp only [*]); exact vE_W h hk)
    · exact h.elim
  | slice t x lo hi mx =>
    rw [hop] at h
    dsimp only at h ⊢
    split at h
    · split at h
      · (try simp only [*]); exact cutW_mono (fun l q hh => vE_W hh hk) h
      · split at h
        · (try simp only [*]); exact cutW_mono (fun l q hh => vE_W hh hk) h
        · exact h.elim
      · split at h
        · rename_i j hkd hx sz es d hH hd
          (try simp only [*])
          split at h
          · rename_i hb
            (try simp only [*])
            rw [Bool.and_eq_true, Bool.not_eq_true'] at hb
            rw [hb.1]
            dsimp only
            refine cutW_mono (fun l q hh => ?_) h
            rw [hb.2]
            have := vE_W hh hk
            rwa [hd] at this
          · exact h.elim
        · exact h.elim
      · exact h.elim
    · exact h.elim
  | fieldAddr s x f =>
    rw [hop] at h
    dsimp only at h ⊢
    split at h
    · split at h
      · split at h
        · (try simp only [*]); exact vE_W h hk
        · (try simp only [*]); rw [forceL_eq] at h ⊢
          exact vE_W h hk
        · exact h.elim
      · exact h.elim
    · exact h.elim
  | indexAddr t x i =>
    rw [hop] at h
    dsimp only at h ⊢
    split at h
    · split at h
      · split at h
        · split at h
          · (try simp only [*])
            obtain ⟨h0, c, h1, h⟩ := h
            refine ⟨by first | exact h0 | simp, c, by first | exact h1 | simp, ?_⟩
            rw [forceL_eq] at h ⊢
            exact vE_W h hk
          · exact h.elim
        · split at h
          · split at h
            · (try simp only [*]); exact ⟨by first | exact h.1 | simp, vE_W h.2 hk⟩
            · exact h.elim
          · exact h.elim
        · split at h
          · split at h
            · (try simp only [*]); exact ⟨by first | exact h.1 | simp, vE_W h.2 hk⟩
            · exact h.elim
          · exact h.elim
        · exact h.elim
      · split at h
        · (try simp only [*]); exact ⟨by first | exact h.1 | simp, vE_W h.2 hk⟩
        · exact h.elim
      · exact h.elim
    · exact h.elim
  | index t x i =>
    rw [hop] at h
    dsimp only at h ⊢
    split at h
    · split at h
      · (try simp only [*])
        obtain ⟨h0, c, h1, h⟩ := h
        refine ⟨by first | exact h0 | simp, c, by first | exact h1 | simp, ?_⟩
        split at h
        · (try simp only [*]); exact fE_W h hk
        · exact h.elim
      · (try simp only [*])
        obtain ⟨h0, c, h1, h⟩ := h
        exact ⟨by first | exact h0 | simp, c, by first | exact h1 | simp, vE_W h hk⟩
      · exact h.elim
    · exact h.elim
  | extract t i =>
    rw [hop] at h
    dsimp only at h ⊢
    split at h
    · split at h
      · (try simp only [*]); exact fE_W h hk
      · exact h.elim
    · exact h.elim
  | call c =>
    rw [hop] at h
    dsimp only at h ⊢
    have hmt : ∀ {f : Operand} d, c.callee = .value f → o.dst = some d → Γ.mt d = true → NF st (lid d) := fun d hc hd hm => hf _ (by simp [freshOf, hd, hop, hc, hm])
    have hsrc : ∀ y, srcEs ⟨fun _ => .bad, st.H⟩ y = srcEs st y := fun y => by cases y <;> rfl
    have hlen : ∀ q y, lenK q ⟨fun _ => .bad, st.H⟩ y = lenK q st y := fun q y => by cases q <;> cases y <;> rfl
    cases hc : c.callee with
    | invoke r n => rw [hc] at h; exact h.elim
    | builtin b =>
      rw [hc] at h
      dsimp only at h ⊢
      rw [evsD_eq] at h
      cases b with
      | len =>
        dsimp only at h ⊢
        split at h
        · rename_i t p ht hp
          rw [hp, ht]
          dsimp only
          split at h
          · rename_i ty hty
            rw [hlen] at h
            split at h
            · rename_i n hn
              rw [hty]
              dsimp only
              rw [hn]
              exact vE_W h hk
            · exact h.elim
          · exact h.elim
        · exact h.elim
      | append =>
        dsimp only at h ⊢
        split at h
        · rename_i t t2 tr x y ht hp
          rw [hp, ht]
          dsimp only
          rw [hsrc] at h
          split at h
          · rename_i ty ys d hty hseq hys hd
            unfold appW
            rw [hty, hseq, hys, hd]
            dsimp only
            split at h
            · split at h
              · rename_i hb
                dsimp only
                rw [hb]
                refine ⟨h.1, ?_⟩
                have := hk _ h.2
                rw [hd] at this
                rwa [new_app (hf _ (by simp [freshOf, hd, hop, hc]))] at this
              · exact h.elim
            · exact h.elim
          · exact h.elim
        · exact h.elim
      | max =>
        dsimp only at h ⊢
        split at h
        · (try simp only [*]); exact semW_mono (fun v hv => oneS_mono (fun p hp => fE_W hp hk) hv) (semD_W h)
        · exact h.elim
      | _ => exact h.elim
    | value f =>
      rw [hc] at h
      dsimp only at h ⊢
      rw [evsD_eq] at h
      split at h
      · split at h
        · (try simp only [*]); exact callD_W (fun d hd hm => hmt d hc hd hm) h hk
        · exact h.elim
      · (try simp only [*]); exact callD_W (fun d hd hm => hmt d hc hd hm) h hk
      · exact h.elim
  | _ => rw [hop] at h; exact h.elim

end
end Go.Vai

/- Operations whose order is drawn: an effect looks at operands, and at rows that operands name. No condition. -/
namespace Go.Vai

section
variable {Γ : Ctx} {o : Oper} {ev ev' : Operand → PV} {H H' : Nat → Option Row} {kE : Eff → Prop}

theorem fE_eq (p : PV) (k : Eff → Prop) : fE p k = k ⟨some p, []⟩ := by unfold fE; rw [force_eq]
theorem vE_eq (p : PV) (k : Eff → Prop) : vE p k = k ⟨some p, []⟩ := rfl

theorem fillP_ang {place : Nat → Option (Nat × Nat)} {F : List PV → Prop} : ∀ {ps : List (Nat × List PV)} {cs : List PV}, fillP place cs ps F → ∃ r, F r ∧ fillP place cs ps (· = r)
  | [], cs, h => ⟨cs, h, rfl⟩
  | (i, vs) :: ps, cs, h => by
    unfold fillP at h ⊢
    cases hp : place i with
    | none => rw [hp] at h; exact h.elim
    | some q =>
      obtain ⟨off, size⟩ := q
      rw [hp] at h
      simp only [] at h ⊢
      cases hb : (Nat.beq vs.length size && Nat.ble (off + vs.length) cs.length) with
      | true => rw [hb] at h; exact fillP_ang h
      | false => rw [hb] at h; exact h.elim
theorem litEs_ang {sz : Nat} {F : List (List PV) → Prop} : ∀ {n i : Nat} {ps : List (Nat × PV)}, litEs ps sz n i F → ∃ r, F r ∧ litEs ps sz n i (· = r)
  | 0, i, ps, h => by
    cases ps with
    | nil => exact ⟨[], h, rfl⟩
    | cons _ _ => exact h.elim
  | n + 1, i, ps, h => by
    cases ps with
    | nil => exact h.elim
    | cons p r =>
      obtain ⟨j, v⟩ := p
      rw [litEs] at h
      split at h
      · rename_i hb
        obtain ⟨q, h1, h2⟩ := litEs_ang h
        refine ⟨_, h1, ?_⟩
        rw [litEs, hb]
        exact litEs_mono (fun es he => by rw [he]) h2
      · exact h.elim
theorem cutW_ang {lo hi : Option PV} {len : Int} {F : Nat → Option Nat → Prop} (h : cutW lo hi len F) : ∃ l q, F l q ∧ cutW lo hi len (fun l' q' => l' = l ∧ q' = q) := by
  unfold cutW at h ⊢
  split at h
  · exact ⟨_, _, h, rfl, rfl⟩
  · split at h
    · exact ⟨_, _, h.2, h.1, rfl, rfl⟩
    · exact h.elim
  · split at h
    · exact ⟨_, _, h.2, h.1, rfl, rfl⟩
    · exact h.elim
  · split at h
    · exact ⟨_, _, h.2, h.1, rfl, rfl⟩
    · exact h.elim
theorem semD_ang {s : Sem Value} {F : PV → Prop} (h : semD s fun v => oneS v F) : ∃ p, F p ∧ semD s fun v => oneS v (· = p) := by
  cases s with
  | pure a =>
    have h : oneS a F := h
    show ∃ p, F p ∧ oneS a (· = p)
    unfold oneS at h ⊢
    split at h
    · exact h.elim
    · exact h.elim
    · exact h.elim
    · exact ⟨_, h, rfl⟩
  | _ => exact h.elim

theorem has_typed {T : Nat → Option Ty} {t j : Nat} {p : PV} (h : has j (typed T t p) = true) : has j p = true := by
  cases p with
  | nils =>
    unfold typed at h
    simp only [] at h
    cases ht : T t <;> rw [ht] at h <;> cases h
  | _ => exact h
theorem evsD_names {T : Nat → Option Ty} {j : Nat} : ∀ {xs : List Operand} {ts : List Nat} {p : PV}, p ∈ evsD ev T xs ts → has j p = true → ∃ x ∈ xs, has j (ev x) = true
  | [], ts, p, hp, _ => by cases ts <;> cases hp
  | x :: r, [], p, hp, h => by
    rw [evsD] at hp
    rcases List.mem_cons.1 hp with e | hp
    · exact ⟨x, List.mem_cons_self, by rw [← e]; exact h⟩
    · obtain ⟨y, h1, h2⟩ := evsD_names hp h
      exact ⟨y, List.mem_cons_of_mem _ h1, h2⟩
  | x :: r, t :: ts, p, hp, h => by
    rw [evsD] at hp
    rcases List.mem_cons.1 hp with e | hp
    · exact ⟨x, List.mem_cons_self, has_typed (by rw [← e]; exact h)⟩
    · obtain ⟨y, h1, h2⟩ := evsD_names hp h
      exact ⟨y, List.mem_cons_of_mem _ h1, h2⟩
theorem evsD_congr {T : Nat → Option Ty} : ∀ {xs : List Operand} {ts : List Nat}, (∀ x ∈ xs, ev' x = ev x) → evsD ev' T xs ts = evsD ev T xs ts
  | [], ts, _ => by cases ts <;> rfl
  | x :: r, [], h => by rw [evsD, evsD, h x List.mem_cons_self, evsD_congr (fun y hy => h y (List.mem_cons_of_mem _ hy))]
  | x :: r, t :: ts, h => by rw [evsD, evsD, h x List.mem_cons_self, evsD_congr (fun y hy => h y (List.mem_cons_of_mem _ hy))]
theorem lenK_congr {q : TK} {p : PV} (h : ∀ j, has j p = true → H' j = H j) : lenK q ⟨fun _ => .bad, H'⟩ p = lenK q ⟨fun _ => .bad, H⟩ p := by
  cases q <;> first | rfl | skip
  cases p <;> first | rfl | skip
  rename_i j w
  cases w with
  | none =>
    have := h j (by simp [has, has2, has1, has0])
    show (match H' j with | some (.row _ es) => some (es.length : Int) | _ => none) = (match H j with | some (.row _ es) => some (es.length : Int) | _ => none)
    rw [this]
  | some _ => rfl
theorem srcEs_congr {p : PV} (h : ∀ j, has j p = true → H' j = H j) : srcEs ⟨fun _ => .bad, H'⟩ p = srcEs ⟨fun _ => .bad, H⟩ p := by
  cases p with
  | s v => cases v <;> rfl
  | xs j w =>
    have := h j (by simp [has, has2, has1, has0])
    cases w with
    | none =>
      show (match H' j with | some (.row _ es) => some es | _ => none) = (match H j with | some (.row _ es) => some es | _ => none)
      rw [this]
    | some q =>
      obtain ⟨lo, n⟩ := q
      show (match H' j with | some (.row _ es) => some ((es.drop lo).take n) | _ => none) = (match H j with | some (.row _ es) => some ((es.drop lo).take n) | _ => none)
      rw [this]
  | _ => rfl

theorem callD_ang {g : Nat} {args : List PV} {d : Option Nat} (h : callD Γ g args d kE) : ∃ E, kE E ∧ callD Γ g args d (· = E) := by
  unfold callD at h
  split at h
  case h_2 => exact h.elim
  rename_i h1 h2 h3
  obtain ⟨res, hout, hs, h⟩ := h
  split at h
  · split at h
    · rename_i hb
      rw [fE_eq] at h
      refine ⟨_, h, ?_⟩
      unfold callD
      rw [h1, h2, h3]
      exact ⟨res, [], hs, by dsimp only; rw [hb]; dsimp only; rw [fE_eq]⟩
    · exact h.elim
  · rename_i r
    split at h
    · exact h.elim
    · rename_i d
      split at h
      · rename_i hb
        rw [force_eq] at h
        refine ⟨_, h, ?_⟩
        unfold callD
        rw [h1, h2, h3]
        exact ⟨res, [r], hs, by dsimp only; rw [hb]; dsimp only; rw [force_eq]⟩
      · exact h.elim
  · exact h.elim

def Agree (o : Oper) (ev ev' : Operand → PV) (H H' : Nat → Option Row) : Prop :=
  (∀ x ∈ o.op.operands.toList, ev' x = ev x) ∧ ∀ j, (∃ x ∈ reads o, has j (ev x) = true) → H' j = H j

theorem has_ptr (j a b : Nat) : has j (.ptr j a b) = true := Nat.beq_refl j
theorem has_xs (j : Nat) (w : Option (Nat × Nat)) : has j (.xs j w) = true := Nat.beq_refl j

theorem dOp_loc (h : dOp Γ o ev H kE) : ∃ E, kE E ∧ ∀ ev' H', Agree o ev ev' H H' → dOp Γ o ev' H' (· = E) := by
  unfold dOp at h
  cases hop : o.op with
  | move x =>
    rw [hop] at h
    dsimp only at h
    rw [fE_eq] at h
    refine ⟨_, h, fun ev' H' ⟨he, hH⟩ => ?_⟩
    have e1 := he x (by simp [hop, Op.operands])
    simp only [dOp, hop, e1, fE_eq]
  | assign x =>
    rw [hop] at h
    dsimp only at h
    rw [fE_eq] at h
    refine ⟨_, h, fun ev' H' ⟨he, hH⟩ => ?_⟩
    have e1 := he x (by simp [hop, Op.operands])
    simp only [dOp, hop, e1, fE_eq]
  | pick c x y =>
    rw [hop] at h
    dsimp only at h
    split at h
    · rename_i b hb
      rw [brP_eq, fE_eq, fE_eq] at h
      cases b with
      | true =>
        refine ⟨_, h, fun ev' H' ⟨he, hH⟩ => ?_⟩
        have e1 := he x (by simp [hop, Op.operands])
        have e2 := he c (by simp [hop, Op.operands])
        unfold dOp
        rw [hop]
        dsimp only
        rw [e2, hb]
        dsimp only
        rw [brP_eq, if_pos rfl, e1, fE_eq]
      | false =>
        refine ⟨_, h, fun ev' H' ⟨he, hH⟩ => ?_⟩
        have e1 := he y (by simp [hop, Op.operands])
        have e2 := he c (by simp [hop, Op.operands])
        unfold dOp
        rw [hop]
        dsimp only
        rw [e2, hb]
        dsimp only
        rw [brP_eq, if_neg (by simp), e1, fE_eq]
    · exact h.elim
  | alloc t =>
    rw [hop] at h
    dsimp only at h
    split at h
    · rename_i d ty hd hT
      refine ⟨_, h, fun ev' H' ⟨he, hH⟩ => ?_⟩
      simp only [dOp, hop, hd, hT]
    · exact h.elim
  | box t x =>
    rw [hop] at h
    dsimp only at h
    split at h
    · rename_i d hd
      rw [force_eq] at h
      split at h
      · rename_i hb
        refine ⟨_, h, fun ev' H' ⟨he, hH⟩ => ?_⟩
        have e1 := he x (by simp [hop, Op.operands])
        simp only [dOp, hop, hd, e1, force_eq, hb]
      · exact h.elim
    · exact h.elim
  | build t ps =>
    rw [hop] at h
    dsimp only at h
    have cg : ∀ ev' H', Agree o ev ev' H H' → (ps.toList.all (fun p => okV (ev' p.2)) = ps.toList.all (fun p => okV (ev p.2))) ∧ (ps.toList.map fun p => (p.1, cellsOf (ev' p.2))) = ps.toList.map fun p => (p.1, cellsOf (ev p.2)) := by
      intro ev' H' ⟨he, hH⟩
      have hm : ∀ p ∈ ps.toList, ev' p.2 = ev p.2 := fun p hp => he p.2 (by simp only [hop, Op.operands]; simpa using ⟨p.1, by simpa using hp⟩)
      constructor
      · rw [Bool.eq_iff_iff, List.all_eq_true, List.all_eq_true]
        exact ⟨fun h p hp => by have := h p hp; rwa [hm p hp] at this, fun h p hp => by rw [hm p hp]; exact h p hp⟩
      · exact List.map_congr_left fun p hp => by rw [hm p hp]
    split at h
    · rename_i ty hT
      split at h
      · rename_i hk
        split at h
        · rename_i hb
          obtain ⟨r, h1, h2⟩ := fillP_ang h
          rw [fE_eq] at h1
          refine ⟨_, h1, fun ev' H' hA => ?_⟩
          obtain ⟨c1, c2⟩ := cg ev' H' hA
          simp only [dOp, hop, hT, hk, c1, c2, hb]
          exact fillP_mono (fun cs hc => by subst hc; rw [fE_eq]) h2
        · exact h.elim
      · rename_i n hk
        split at h
        · rename_i hb
          obtain ⟨r, h1, h2⟩ := fillP_ang h
          rw [fE_eq] at h1
          refine ⟨_, h1, fun ev' H' hA => ?_⟩
          obtain ⟨c1, c2⟩ := cg ev' H' hA
          simp only [dOp, hop, hT, hk, c1, c2, hb]
          exact fillP_mono (fun cs hc => by subst hc; rw [fE_eq]) h2
        · exact h.elim
      · exact h.elim
    · exact h.elim
  | buildSlice t n ps =>
    rw [hop] at h
    dsimp only at h
    have cg : ∀ ev' H', Agree o ev ev' H H' → (ps.toList.map fun p => (p.1, ev' p.2)) = ps.toList.map fun p => (p.1, ev p.2) := by
      intro ev' H' ⟨he, hH⟩
      have hm : ∀ p ∈ ps.toList, ev' p.2 = ev p.2 := fun p hp => he p.2 (by simp only [hop, Op.operands]; simpa using ⟨p.1, by simpa using hp⟩)
      exact List.map_congr_left fun p hp => by rw [hm p hp]
    split at h
    · rename_i ty d hT hd
      split at h
      · rename_i hk
        split at h
        · exact h.elim
        · rename_i hb
          obtain ⟨r, h1, h2⟩ := litEs_ang h
          split at h1
          · rename_i hmt
            rw [fE_eq] at h1
            refine ⟨_, h1, fun ev' H' hA => ?_⟩
            simp only [dOp, hop, hT, hd, hk, cg ev' H' hA, hb, hmt]
            exact litEs_mono (fun cs hc => by subst hc; rw [fE_eq]) h2
          · rename_i hmt
            refine ⟨_, h1, fun ev' H' hA => ?_⟩
            simp only [dOp, hop, hT, hd, hk, cg ev' H' hA, hb, hmt]
            exact litEs_mono (fun cs hc => by subst hc; rfl) h2
      · exact h.elim
    · exact h.elim
  | load t x =>
    rw [hop] at h
    dsimp only at h
    split at h
    · rename_i ty hT
      split at h
      · rename_i j i off hx
        have cg : ∀ ev' H', Agree o ev ev' H H' → ev' x = ev x ∧ H' j = H j := fun ev' H' ⟨he, hH⟩ =>
          ⟨he x (by simp [hop, Op.operands]), hH j ⟨x, by simp [reads, hop, Op.operands], by rw [hx]; exact has_ptr _ _ _⟩⟩
        split at h
        · rename_i cs hHj
          split at h
          · rename_i hb
            rw [fE_eq] at h
            refine ⟨_, h, fun ev' H' hA => ?_⟩
            obtain ⟨c1, c2⟩ := cg ev' H' hA
            simp only [dOp, hop, hT, c1, hx, c2, hHj, hb, fE_eq]
          · exact h.elim
        · rename_i sz es hHj
          obtain ⟨e, h1, h⟩ := h
          split at h
          · rename_i hb
            rw [fE_eq] at h
            refine ⟨_, h, fun ev' H' hA => ?_⟩
            obtain ⟨c1, c2⟩ := cg ev' H' hA
            simp only [dOp, hop, hT, c1, hx, c2, hHj]
            exact ⟨e, h1, by rw [hb]; dsimp only; rw [fE_eq]⟩
          · exact h.elim
        · exact h.elim
      · rename_i cs hx
        split at h
        · rename_i hb
          rw [fE_eq] at h
          refine ⟨_, h, fun ev' H' ⟨he, hH⟩ => ?_⟩
          have c1 := he x (by simp [hop, Op.operands])
          simp only [dOp, hop, hT, c1, hx, hb, fE_eq]
        · exact h.elim
      · exact h.elim
    · exact h.elim
  | store t x y =>
    rw [hop] at h
    dsimp only at h
    split at h
    · rename_i ty hT hd
      split at h
      · rename_i j i off hx
        have cg : ∀ ev' H', Agree o ev ev' H H' → ev' x = ev x ∧ H' j = H j ∧ ev' y = ev y := fun ev' H' ⟨he, hH⟩ =>
          ⟨he x (by simp [hop, Op.operands]), hH j ⟨x, by simp [reads, hop, Op.operands], by rw [hx]; exact has_ptr _ _ _⟩, he y (by simp [hop, Op.operands])⟩
        split at h
        · rename_i cs hHj
          rw [force_eq] at h
          split at h
          · rename_i hb
            rw [forceL_eq] at h
            refine ⟨_, h, fun ev' H' hA => ?_⟩
            obtain ⟨c1, c2, c3⟩ := cg ev' H' hA
            simp only [dOp, hop, hT, hd, c1, hx, c2, hHj, c3, force_eq, hb, forceL_eq]
          · exact h.elim
        · rename_i sz es hHj
          rw [force_eq] at h
          split at h
          · rename_i hb
            refine ⟨_, h.2, fun ev' H' hA => ?_⟩
            obtain ⟨c1, c2, c3⟩ := cg ev' H' hA
            simp only [dOp, hop, hT, hd, c1, hx, c2, hHj, c3, force_eq, hb]
            exact ⟨h.1, trivial⟩
          · exact h.elim
        · exact h.elim
      · exact h.elim
    · exact h.elim
  | nilCheck x =>
    rw [hop] at h
    dsimp only at h
    split at h
    case h_5 => exact h.elim
    all_goals
      rename_i hx
      refine ⟨_, h, fun ev' H' ⟨he, hH⟩ => ?_⟩
      have c1 := he x (by simp [hop, Op.operands])
      simp only [dOp, hop, c1, hx, vE_eq]
  | binOp b t x y t2 =>
    rw [hop] at h
    dsimp only at h
    have cg : ∀ ev' H', Agree o ev ev' H H' → ev' x = ev x ∧ ev' y = ev y := fun ev' H' ⟨he, hH⟩ => ⟨he x (by simp [hop, Op.operands]), he y (by simp [hop, Op.operands])⟩
    split at h
    · rename_i r hn
      split at h
      · rename_i ty hT
        split at h
        · rename_i hk
          refine ⟨_, h, fun ev' H' hA => ?_⟩
          obtain ⟨c1, c2⟩ := cg ev' H' hA
          simp only [dOp, hop, c1, c2, hn, hT, hk, vE_eq]
        · exact h.elim
      · exact h.elim
    · rename_i hn
      split at h
      · rename_i r hb
        split at h
        · rename_i ty hT
          split at h
          · rename_i hk
            refine ⟨_, h, fun ev' H' hA => ?_⟩
            obtain ⟨c1, c2⟩ := cg ev' H' hA
            simp only [dOp, hop, c1, c2, hn, hb, hT, hk, vE_eq]
          · exact h.elim
        · exact h.elim
      rename_i hb
      split at h
      · rename_i u v hu hv
        obtain ⟨p, h1, h2⟩ := semD_ang h
        rw [fE_eq] at h1
        refine ⟨_, h1, fun ev' H' hA => ?_⟩
        obtain ⟨c1, c2⟩ := cg ev' H' hA
        have hn2 : fnNil b (PV.s u) (PV.s v) = none := by rw [← hu, ← hv]; exact hn
        have hb2 : boolEq b (PV.s u) (PV.s v) = none := by rw [← hu, ← hv]; exact hb
        simp only [dOp, hop, c1, c2, hu, hv, hn2, hb2]
        exact semD_mono (fun v hv => oneS_mono (fun p hp => by subst hp; rw [fE_eq]) hv) h2
      · exact h.elim
  | unOp b t x =>
    rw [hop] at h
    dsimp only at h
    split at h
    · rename_i v hv
      obtain ⟨p, h1, h2⟩ := semD_ang h
      rw [fE_eq] at h1
      refine ⟨_, h1, fun ev' H' ⟨he, hH⟩ => ?_⟩
      have c1 := he x (by simp [hop, Op.operands])
      simp only [dOp, hop, c1, hv]
      exact semD_mono (fun v hv => oneS_mono (fun p hp => by subst hp; rw [fE_eq]) hv) h2
    · exact h.elim
  | convert s d x =>
    rw [hop] at h
    dsimp only at h
    split at h
    · rename_i ty t2 h1 h2
      split at h
      case h_4 => exact h.elim
      all_goals
        rename_i hk hx
        refine ⟨_, h, fun ev' H' ⟨he, hH⟩ => ?_⟩
        have c1 := he x (by simp [hop, Op.operands])
        simp only [dOp, hop, h1, h2, hk, c1, hx, vE_eq]
    · exact h.elim
  | slice t x lo hi mx =>
    rw [hop] at h
    dsimp only at h
    have cg : ∀ ev' H', Agree o ev ev' H H' → ev' x = ev x ∧ lo.map ev' = lo.map ev ∧ hi.map ev' = hi.map ev := fun ev' H' ⟨he, hH⟩ => by
      refine ⟨he x (by simp [hop, Op.operands]), ?_, ?_⟩
      · cases lo with
        | none => rfl
        | some l => simp [he l (by simp [hop, Op.operands])]
      · cases hi with
        | none => rfl
        | some l => simp [he l (by simp [hop, Op.operands])]
    split at h
    · rename_i ty hT
      split at h
      · rename_i b hk hx
        obtain ⟨l, q, h1, h2⟩ := cutW_ang h
        refine ⟨_, h1, fun ev' H' hA => ?_⟩
        obtain ⟨c1, c2, c3⟩ := cg ev' H' hA
        simp only [dOp, hop, hT, hk, c1, hx, c2, c3]
        exact cutW_mono (fun l' q' hh => by rw [hh.1, hh.2, vE_eq]) h2
      · rename_i sz es full hk hx
        split at h
        · rename_i hb
          obtain ⟨l, q, h1, h2⟩ := cutW_ang h
          refine ⟨_, h1, fun ev' H' hA => ?_⟩
          obtain ⟨c1, c2, c3⟩ := cg ev' H' hA
          simp only [dOp, hop, hT, hk, c1, hx, c2, c3, hb]
          exact cutW_mono (fun l' q' hh => by rw [hh.1, hh.2, vE_eq]) h2
        · exact h.elim
      · rename_i j hk hx
        split at h
        · rename_i sz es d hHj hd
          split at h
          · rename_i hb
            obtain ⟨l, q, h1, h2⟩ := cutW_ang h
            refine ⟨_, h1, fun ev' H' hA => ?_⟩
            obtain ⟨c1, c2, c3⟩ := cg ev' H' hA
            have c4 : H' j = H j := hA.2 j ⟨x, by simp [reads, hop, Op.operands], by rw [hx]; exact has_xs _ _⟩
            simp only [dOp, hop, hT, hk, c1, hx, c2, c3, c4, hHj, hd, hb]
            exact cutW_mono (fun l' q' hh => by rw [hh.1, hh.2, vE_eq]) h2
          · exact h.elim
        · exact h.elim
      · exact h.elim
    · exact h.elim
  | fieldAddr s x f =>
    rw [hop] at h
    dsimp only at h
    split at h
    · rename_i ty hT
      split at h
      · rename_i off _ hk hf
        split at h
        · rename_i hx
          refine ⟨_, h, fun ev' H' ⟨he, hH⟩ => ?_⟩
          have c1 := he x (by simp [hop, Op.operands])
          simp only [dOp, hop, hT, hk, hf, c1, hx, vE_eq]
        · rename_i hx
          rw [forceL_eq] at h
          refine ⟨_, h, fun ev' H' ⟨he, hH⟩ => ?_⟩
          have c1 := he x (by simp [hop, Op.operands])
          simp only [dOp, hop, hT, hk, hf, c1, hx, vE_eq, forceL_eq]
        · exact h.elim
      · exact h.elim
    · exact h.elim
  | indexAddr t x i =>
    rw [hop] at h
    dsimp only at h
    have cg : ∀ ev' H', Agree o ev ev' H H' → ev' x = ev x ∧ ev' i = ev i := fun ev' H' ⟨he, hH⟩ => ⟨he x (by simp [hop, Op.operands]), he i (by simp [hop, Op.operands])⟩
    split at h
    · rename_i ty hT
      split at h
      · rename_i q n hk hi
        split at h
        · rename_i sz es full hx
          split at h
          · rename_i hb
            obtain ⟨h0, c, h1, h⟩ := h
            rw [forceL_eq] at h
            refine ⟨_, h, fun ev' H' hA => ?_⟩
            obtain ⟨c1, c2⟩ := cg ev' H' hA
            simp only [dOp, hop, hT, hk, c1, c2, hi, hx, hb]
            exact ⟨h0, c, h1, by rw [forceL_eq, vE_eq]⟩
          · exact h.elim
        · rename_i j hx
          split at h
          · rename_i sz es hHj
            split at h
            · rename_i hb
              refine ⟨_, h.2, fun ev' H' hA => ?_⟩
              obtain ⟨c1, c2⟩ := cg ev' H' hA
              have c4 : H' j = H j := hA.2 j ⟨x, by simp [reads, hop, Op.operands], by rw [hx]; exact has_xs _ _⟩
              simp only [dOp, hop, hT, hk, c1, c2, hi, hx, c4, hHj, hb, vE_eq]
              exact ⟨h.1, trivial⟩
            · exact h.elim
          · exact h.elim
        · rename_i j lo m hx
          split at h
          · rename_i sz es hHj
            split at h
            · rename_i hb
              refine ⟨_, h.2, fun ev' H' hA => ?_⟩
              obtain ⟨c1, c2⟩ := cg ev' H' hA
              have c4 : H' j = H j := hA.2 j ⟨x, by simp [reads, hop, Op.operands], by rw [hx]; exact has_xs _ _⟩
              simp only [dOp, hop, hT, hk, c1, c2, hi, hx, c4, hHj, hb, vE_eq]
              exact ⟨h.1, trivial⟩
            · exact h.elim
          · exact h.elim
        · exact h.elim
      · rename_i n q m hk hi
        split at h
        · rename_i hx
          refine ⟨_, h.2, fun ev' H' hA => ?_⟩
          obtain ⟨c1, c2⟩ := cg ev' H' hA
          simp only [dOp, hop, hT, hk, c1, c2, hi, hx, vE_eq]
          exact ⟨h.1, trivial⟩
        · exact h.elim
      · exact h.elim
    · exact h.elim
  | index t x i =>
    rw [hop] at h
    dsimp only at h
    have cg : ∀ ev' H', Agree o ev ev' H H' → ev' x = ev x ∧ ev' i = ev i := fun ev' H' ⟨he, hH⟩ => ⟨he x (by simp [hop, Op.operands]), he i (by simp [hop, Op.operands])⟩
    split at h
    · rename_i ty hT
      split at h
      · rename_i hk hx hi
        obtain ⟨h0, c, h1, h⟩ := h
        split at h
        · rename_i hb
          rw [fE_eq] at h
          refine ⟨_, h, fun ev' H' hA => ?_⟩
          obtain ⟨c1, c2⟩ := cg ev' H' hA
          simp only [dOp, hop, hT, hk, c1, c2, hi, hx]
          exact ⟨h0, c, h1, by rw [hb]; dsimp only; rw [fE_eq]⟩
        · exact h.elim
      · rename_i hk hx hi
        obtain ⟨h0, c, h1, h⟩ := h
        refine ⟨_, h, fun ev' H' hA => ?_⟩
        obtain ⟨c1, c2⟩ := cg ev' H' hA
        simp only [dOp, hop, hT, hk, c1, c2, hi, hx]
        exact ⟨h0, c, h1, rfl⟩
      · exact h.elim
    · exact h.elim
  | extract t i =>
    rw [hop] at h
    dsimp only at h
    split at h
    · rename_i vs hx
      split at h
      · rename_i p hp
        rw [fE_eq] at h
        refine ⟨_, h, fun ev' H' ⟨he, hH⟩ => ?_⟩
        have c1 := he t (by simp [hop, Op.operands])
        simp only [dOp, hop, c1, hx, hp, fE_eq]
      · exact h.elim
    · exact h.elim
  | call c =>
    rw [hop] at h
    dsimp only at h
    have ca : ∀ x ∈ c.args.toList, x ∈ o.op.operands.toList := fun x hx => by simp [hop, Op.operands, Call.operands]; right; simpa using hx
    have cg : ∀ ev' H', Agree o ev ev' H H' → evsD ev' Γ.T c.args.toList c.argTypes.toList = evsD ev Γ.T c.args.toList c.argTypes.toList := fun ev' H' ⟨he, hH⟩ => evsD_congr fun x hx => he x (ca x hx)
    have cH : ∀ ev' H', Agree o ev ev' H H' → ∀ p ∈ evsD ev Γ.T c.args.toList c.argTypes.toList, ∀ j, has j p = true → H' j = H j := fun ev' H' ⟨he, hH⟩ p hp j hj => by
      obtain ⟨x, h1, h2⟩ := evsD_names hp hj
      exact hH j ⟨x, by have := ca x h1; simpa [reads, hop] using this, h2⟩
    cases hc : c.callee with
    | invoke r n => rw [hc] at h; exact h.elim
    | builtin b =>
      rw [hc] at h
      dsimp only at h
      cases b with
      | len =>
        dsimp only at h
        split at h
        · rename_i t p ht hp
          split at h
          · rename_i ty hT
            split at h
            · rename_i n hn
              refine ⟨_, h, fun ev' H' hA => ?_⟩
              have c1 := cg ev' H' hA
              have c2 := lenK_congr (q := ty.kind) (cH ev' H' hA p (by rw [hp]; simp))
              unfold dOp
              rw [hop]
              dsimp only
              rw [hc]
              dsimp only
              rw [c1, hp, ht]
              dsimp only
              rw [hT]
              dsimp only
              rw [c2, hn]
              rfl
            · exact h.elim
          · exact h.elim
        · exact h.elim
      | append =>
        dsimp only at h
        split at h
        · rename_i t t2 tr x y ht hp
          split at h
          · rename_i ty ys d hty hseq hys hd
            split at h
            · rename_i sz es
              split at h
              · rename_i hb
                refine ⟨_, h.2, fun ev' H' hA => ?_⟩
                have c1 := cg ev' H' hA
                have c2 := srcEs_congr (cH ev' H' hA y (by rw [hp]; simp))
                unfold dOp
                rw [hop]
                dsimp only
                rw [hc]
                dsimp only
                rw [c1, hp, ht]
                dsimp only
                rw [c2, hty, hseq, hys, hd]
                dsimp only
                rw [hb]
                exact ⟨h.1, rfl⟩
              · exact h.elim
            · exact h.elim
          · exact h.elim
        · exact h.elim
      | max =>
        dsimp only at h
        split at h
        · rename_i vs hvs
          obtain ⟨p, h1, h2⟩ := semD_ang h
          rw [fE_eq] at h1
          refine ⟨_, h1, fun ev' H' ⟨he, hH⟩ => ?_⟩
          have c1 : c.args.toList.map ev' = c.args.toList.map ev := List.map_congr_left fun x hx => he x (ca x hx)
          unfold dOp
          rw [hop]
          dsimp only
          rw [hc]
          dsimp only
          rw [c1, hvs]
          exact semD_mono (fun v hv => oneS_mono (fun p hp => by subst hp; rw [fE_eq]) hv) h2
        · exact h.elim
      | _ => exact h.elim
    | value f =>
      rw [hc] at h
      dsimp only at h
      split at h
      · rename_i g fi caps hf
        split at h
        · rename_i h1 h2
          obtain ⟨E, h3, h4⟩ := callD_ang h
          refine ⟨E, h3, fun ev' H' hA => ?_⟩
          have c1 := cg ev' H' hA
          have c2 := hA.1 f (by simp [hop, Op.operands, Call.operands, hc])
          unfold dOp
          rw [hop]
          dsimp only
          rw [hc]
          dsimp only
          rw [c2, hf, c1]
          dsimp only
          rw [h1, h2]
          exact h4
        · exact h.elim
      · rename_i g caps hf
        obtain ⟨E, h3, h4⟩ := callD_ang h
        refine ⟨E, h3, fun ev' H' hA => ?_⟩
        have c1 := cg ev' H' hA
        have c2 := hA.1 f (by simp [hop, Op.operands, Call.operands, hc])
        unfold dOp
        rw [hop]
        dsimp only
        rw [hc]
        dsimp only
        rw [c2, hf, c1]
        exact h4
      · exact h.elim
  | _ => rw [hop] at h; exact h.elim

end
end Go.Vai

/- Operations whose order is drawn: which pairs may change places, and that they may. No condition. -/
namespace Go.Vai

def deps (o : Oper) : List Nat := (o.after.toList.filter (Region.binds .any ·)).map (·.on)

/-- What must come before. -/
inductive Bef (ops : List Oper) : Nat → Nat → Prop where
  | one {i j : Nat} {o : Oper} (ho : ops[i]? = some o) (hj : j ∈ deps o) : Bef ops i j
  | more {i e j : Nat} {o : Oper} (ho : ops[i]? = some o) (he : e ∈ deps o) (h : Bef ops e j) : Bef ops i j

def maskOf (ms : List Nat) : List Nat → Nat
  | [] => 0
  | e :: es => (maskOf ms es) ||| ((1 <<< e) ||| ms.getD e 0)
def befs : List Oper → List Nat → List Nat
  | [], ms => ms
  | o :: r, ms => befs r (ms ++ [maskOf ms (deps o)])

theorem maskOf_bit {ms : List Nat} {j : Nat} : ∀ {es : List Nat}, (maskOf ms es).testBit j = true → ∃ e ∈ es, e = j ∨ (ms.getD e 0).testBit j = true
  | [], h => by simp [maskOf] at h
  | e :: es, h => by
    rw [maskOf, Nat.testBit_or, Nat.testBit_or, Bool.or_eq_true, Bool.or_eq_true] at h
    rcases h with h | h | h
    · obtain ⟨x, h1, h2⟩ := maskOf_bit h
      exact ⟨x, List.mem_cons_of_mem _ h1, h2⟩
    · refine ⟨e, List.mem_cons_self, .inl ?_⟩
      rw [Nat.one_shiftLeft, Nat.testBit_two_pow] at h
      simpa using h
    · exact ⟨e, List.mem_cons_self, .inr h⟩

theorem befs_ok {ops : List Oper} : ∀ (l : List Oper) (ms : List Nat), (∀ j : Nat, l[j]? = ops[ms.length + j]?) → (∀ (i m : Nat), ms[i]? = some m → ∀ j, m.testBit j = true → Bef ops i j) →
    ∀ (i m : Nat), (befs l ms)[i]? = some m → ∀ j, m.testBit j = true → Bef ops i j
  | [], ms, _, h => h
  | o :: r, ms, hl, h => by
    rw [befs]
    have ho : ops[ms.length]? = some o := by have := hl 0; simpa using this.symm
    refine befs_ok r _ (fun j => ?_) (fun i m hi j hj => ?_)
    · have := hl (j + 1)
      rw [List.getElem?_cons_succ] at this
      rw [this]; congr 1; simp; omega
    · rcases Nat.lt_or_ge i ms.length with h1 | h1
      · rw [List.getElem?_append_left h1] at hi
        exact h i m hi j hj
      · rw [List.getElem?_append_right h1] at hi
        have h2 : i = ms.length := by
          have := (List.getElem?_eq_some_iff.1 hi).1
          simp at this; omega
        subst h2
        simp at hi
        subst hi
        obtain ⟨e, he, h3⟩ := maskOf_bit hj
        rcases h3 with rfl | h3
        · exact .one ho he
        · cases hm : ms[e]? with
          | none => rw [List.getD_eq_getElem?_getD, hm] at h3; simp at h3
          | some m =>
            rw [List.getD_eq_getElem?_getD, hm] at h3
            exact .more ho he (h e m hm j h3)

/-- What is listed is listed with all that must come before. -/
def Closed (ops : List Oper) (L : Nat → Bool) : Prop := ∀ (i : Nat) o, L i = true → ops[i]? = some o → ∀ e ∈ deps o, L e = true
theorem Closed.bef {ops : List Oper} {L : Nat → Bool} (h : Closed ops L) {i j : Nat} (hb : Bef ops i j) : (∀ o, ops[i]? = some o → ∀ e ∈ deps o, L e = true) → L j = true := by
  induction hb with
  | one ho hj => exact fun hd => hd _ ho _ hj
  | more ho he _ ih => exact fun hd => ih fun o' ho' e' he' => h _ o' (hd _ ho _ he) ho' e' he'

def bitOf : Nat → Nat → Bool
  | m, 0 => Nat.beq (m % 2) 1
  | m, j + 1 => bitOf (m / 2) j
theorem bitOf_eq : ∀ (m j : Nat), bitOf m j = m.testBit j
  | m, 0 => by
    rw [bitOf, Nat.testBit_zero, Bool.eq_iff_iff, decide_eq_true_iff]
    exact ⟨Nat.eq_of_beq_eq_true, fun h => by rw [h]; rfl⟩
  | m, j + 1 => by rw [bitOf, bitOf_eq, Nat.testBit_succ]

structure Ent where
  i : Nat
  o : Oper
  E : Eff
  vs : List PV
  on : Bool

def effNo (f : Nat) (E : Eff) : Bool := (match E.v with | some v => !has f v | none => true) && E.us.all fun x => match x.2 with | .cell cs => !cs.any (has1 f) | .row _ _ => true
def freshNo (Γ : Ctx) (o : Oper) (E : Eff) : Bool := match freshOf Γ o with | some f => effNo f E | none => true
def rowsNo (us : List (Nat × Row)) (vs : List PV) : Bool := us.all fun x => !vs.any (has x.1)
def idsNo (us us' : List (Nat × Row)) : Bool := us.all fun x => !us'.any fun y => Nat.beq x.1 y.1
/-- May two entries (x before y in the text) be there together? -/
def pairOk (Γ : Ctx) (ops : Array Oper) (ord : Bool) (x y : Ent) : Bool :=
  freshNo Γ y.o x.E && (match ord with
    | true => true
    | false => freshNo Γ x.o y.E && (Oper.apart ops x.o y.o && (rowsNo x.E.us y.vs && (rowsNo y.E.us x.vs && (idsNo x.E.us y.E.us && idsNo y.E.us x.E.us)))))

def partE (all : List Oper) (i : Nat) (E : Eff) (k : Eff → Prop) : Prop := match isG all i with
  | false => k E
  | true => match E.v with
    | some (.s (.bool b)) => brP b (k ⟨some (bv true), E.us⟩) (k ⟨some (bv false), E.us⟩)
    | _ => k E

def segW (Γ : Ctx) (ops : Array Oper) (ms : List Nat) : List Oper → Nat → St → List Ent → (St → Prop) → Prop
  | [], _, st, _, k => k st
  | o :: r, i, st, acc, k => guardW ops.toList o st fun on => match on with
    | true => dOp Γ o st.ev st.H fun E => partE ops.toList i E fun E => (match acc.all (fun e => pairOk Γ ops (bitOf (ms.getD i 0) e.i) e ⟨i, o, E, (reads o).map st.ev, true⟩) with
      | true => segW Γ ops ms r (i + 1) (app o.dst E st) (⟨i, o, E, (reads o).map st.ev, true⟩ :: acc) k
      | false => False)
    | false => (match acc.all (fun e => pairOk Γ ops (bitOf (ms.getD i 0) e.i) e ⟨i, o, ⟨some (.tup []), []⟩, (reads o).map st.ev, false⟩) with
      | true => segW Γ ops ms r (i + 1) (app o.dst ⟨some (.tup []), []⟩ st) (⟨i, o, ⟨some (.tup []), []⟩, (reads o).map st.ev, false⟩ :: acc) k
      | false => False)

def gslots (ops : Array Oper) (o : Oper) : List Nat := match o.guard with
  | some (g, _) => ((ops[g]?).bind (·.dst)).toList
  | none => []

theorem guardW_loc {ops : Array Oper} {o : Oper} {st : St} {kb : Bool → Prop} (h : guardW ops.toList o st kb) :
    ∃ b, kb b ∧ ∀ st' : St, (∀ d ∈ gslots ops o, st'.fr d = st.fr d) → ∀ kb' : Bool → Prop, kb' b → guardW ops.toList o st' kb' := by
  unfold guardW at h
  cases hg : o.guard with
  | none =>
    rw [hg] at h
    exact ⟨true, h, fun st' _ kb' hb => by unfold guardW; rw [hg]; exact hb⟩
  | some q =>
    obtain ⟨g, want⟩ := q
    rw [hg] at h
    dsimp only at h
    split at h
    · exact h.elim
    · rename_i d hd
      have hmem : d ∈ gslots ops o := by
        have hd' : (ops[g]?).bind (·.dst) = some d := by simpa using hd
        simp [gslots, hg, hd']
      have mk : ∀ b, kb b → (∀ st' : St, st'.fr d = st.fr d → ∀ kb' : Bool → Prop, kb' b → guardW ops.toList o st' kb') → ∃ b, kb b ∧ ∀ st' : St, (∀ d ∈ gslots ops o, st'.fr d = st.fr d) → ∀ kb' : Bool → Prop, kb' b → guardW ops.toList o st' kb' :=
        fun b h1 h2 => ⟨b, h1, fun st' hs kb' hb => h2 st' (hs d hmem) kb' hb⟩
      split at h
      · rename_i b hb
        cases b with
        | true =>
          cases want with
          | true => exact mk true h fun st' hs kb' hh => by unfold guardW; rw [hg]; dsimp only; rw [hd]; dsimp only; rw [hs, hb]; exact hh
          | false => exact mk false h fun st' hs kb' hh => by unfold guardW; rw [hg]; dsimp only; rw [hd]; dsimp only; rw [hs, hb]; exact hh
        | false =>
          cases want with
          | true => exact mk false h fun st' hs kb' hh => by unfold guardW; rw [hg]; dsimp only; rw [hd]; dsimp only; rw [hs, hb]; exact hh
          | false => exact mk true h fun st' hs kb' hh => by unfold guardW; rw [hg]; dsimp only; rw [hd]; dsimp only; rw [hs, hb]; exact hh
      · rename_i hb
        exact mk false h fun st' hs kb' hh => by unfold guardW; rw [hg]; dsimp only; rw [hd]; dsimp only; rw [hs, hb]; exact hh
      · exact h.elim

/-- What is known of an entry, at the state in which the text meets it. -/
structure Fact (Γ : Ctx) (ops : Array Oper) (e : Ent) (st : St) : Prop where
  ho : ops[e.i]? = some e.o
  vs : e.vs = (reads e.o).map st.ev
  gd : ∀ st' : St, (∀ d ∈ gslots ops e.o, st'.fr d = st.fr d) → ∀ kb : Bool → Prop, kb e.on → guardW ops.toList e.o st' kb
  ef : match e.on with
    | true => ∀ ev' H', Agree e.o st.ev ev' st.H H' → dOp Γ e.o ev' H' (· = e.E)
    | false => e.E = ⟨some (.tup []), []⟩

def Run (Γ : Ctx) (ops : Array Oper) : List Ent → St → Prop
  | [], _ => True
  | e :: r, st => Fact Γ ops e st ∧ Run Γ ops r (app e.o.dst e.E st)
def runTo : List Ent → St → St
  | [], st => st
  | e :: r, st => runTo r (app e.o.dst e.E st)

section
variable {Γ : Ctx} {ops : Array Oper} {ms : List Nat}

theorem partE_ok {all : List Oper} {i : Nat} {E : Eff} {k : Eff → Prop} (h : partE all i E k) : k E := by
  unfold partE at h
  split at h
  · exact h
  · split at h
    · rename_i b hv
      rw [brP_eq] at h
      obtain ⟨v, us⟩ := E
      have hv : v = some (.s (.bool b)) := hv
      subst hv
      cases b with
      | true => exact h
      | false => exact h
    · exact h

theorem segW_run : ∀ (l : List Oper) (i : Nat) (st : St) (acc : List Ent) (k : St → Prop), (∀ (j : Nat) o, l[j]? = some o → ops[i + j]? = some o) → segW Γ ops ms l i st acc k →
    ∃ ents : List Ent, ents.length = l.length ∧ (∀ (q : Nat) e, ents[q]? = some e → e.i = i + q) ∧ Run Γ ops ents st ∧ k (runTo ents st) ∧
      (∀ x ∈ acc, ∀ y ∈ ents, pairOk Γ ops (bitOf (ms.getD y.i 0) x.i) x y = true) ∧ ∀ (p q : Nat) x y, p < q → ents[p]? = some x → ents[q]? = some y → pairOk Γ ops (bitOf (ms.getD y.i 0) x.i) x y = true
  | [], i, st, acc, k, _, h => ⟨[], rfl, fun q e hq => by simp at hq, trivial, h, fun x _ y hy => (by simp at hy), fun p q x y _ hp => by simp at hp⟩
  | o :: r, i, st, acc, k, hl, h => by
    have hl' : ∀ (j : Nat) o, r[j]? = some o → ops[i + 1 + j]? = some o := fun j o hj => by have := hl (j + 1) o (by simpa using hj); rwa [show i + (j + 1) = i + 1 + j by omega] at this
    have ho : ops[i]? = some o := hl 0 o rfl
    have fin : ∀ (en : Ent), en.i = i → en.o = o → Fact Γ ops en st → (acc.all (fun e => pairOk Γ ops (bitOf (ms.getD i 0) e.i) e en)) = true → segW Γ ops ms r (i + 1) (app o.dst en.E st) (en :: acc) k →
        ∃ ents : List Ent, ents.length = (o :: r).length ∧ (∀ (q : Nat) e, ents[q]? = some e → e.i = i + q) ∧ Run Γ ops ents st ∧ k (runTo ents st) ∧
          (∀ x ∈ acc, ∀ y ∈ ents, pairOk Γ ops (bitOf (ms.getD y.i 0) x.i) x y = true) ∧ ∀ (p q : Nat) x y, p < q → ents[p]? = some x → ents[q]? = some y → pairOk Γ ops (bitOf (ms.getD y.i 0) x.i) x y = true := by
      intro en hi hen hF hall hs
      obtain ⟨ents, h1, h2, h3, h4, h5, h6⟩ := segW_run r (i + 1) _ _ k hl' hs
      refine ⟨en :: ents, by simp [h1], fun q e hq => ?_, ⟨hF, by rw [hen]; exact h3⟩, by show k (runTo ents (app en.o.dst en.E st)); rw [hen]; exact h4, fun x hx y hy => ?_, fun p q x y hpq hp hq => ?_⟩
      · cases q with
        | zero => simp at hq; subst hq; rw [hi]; rfl
        | succ q => rw [h2 q e (by simpa using hq)]; omega
      · rcases List.mem_cons.1 hy with rfl | hy
        · rw [hi]; exact List.all_eq_true.1 hall x hx
        · exact h5 x (List.mem_cons_of_mem _ hx) y hy
      · cases q with
        | zero => omega
        | succ q =>
          have hq' : ents[q]? = some y := by simpa using hq
          cases p with
          | zero =>
            simp at hp
            subst hp
            exact h5 _ (List.mem_cons_self ..) y (List.mem_of_getElem? hq')
          | succ p => exact h6 p q x y (by omega) (by simpa using hp) hq'
    unfold segW at h
    obtain ⟨b, hb, hg⟩ := guardW_loc h
    cases b with
    | true =>
      obtain ⟨E, hE, hloc⟩ := dOp_loc hb
      have hE := partE_ok hE
      split at hE
      · rename_i hall
        exact fin ⟨i, o, E, (reads o).map st.ev, true⟩ rfl rfl ⟨ho, rfl, hg, hloc⟩ hall hE
      · exact hE.elim
    | false =>
      dsimp only at hb
      split at hb
      · rename_i hall
        exact fin ⟨i, o, ⟨some (.tup []), []⟩, (reads o).map st.ev, false⟩ rfl rfl ⟨ho, rfl, hg, rfl⟩ hall hb
      · exact hb.elim

end
end Go.Vai

/- Operations whose order is drawn: the state after a set of them. No condition. -/
namespace Go.Vai

def stepS (b : Bool) (e : Ent) (st : St) : St := match b with | true => app e.o.dst e.E st | false => st
def stS (S : Nat → Bool) : List Ent → St → St
  | [], st => st
  | e :: r, st => stS S r (stepS (S e.i) e st)

section
variable {Γ : Ctx} {ops : Array Oper} {S S' : Nat → Bool}

theorem app_fr (d : Option Nat) (E : Eff) (st : St) (s : Nat) : (app d E st).fr s = if d = some s ∧ E.v.isSome = true then E.v.getD .bad else st.fr s := by
  obtain ⟨v, us⟩ := E
  cases d with
  | none => simp [app]
  | some d =>
    cases v with
    | none => simp [app]
    | some v =>
      show upd st.fr d v s = _
      rw [upd_at]
      by_cases h : s = d
      · subst h; simp
      · have : ¬ d = s := fun e => h e.symm
        simp [h, this]
theorem setU_no {H : Nat → Option Row} {j : Nat} : ∀ {us : List (Nat × Row)}, (∀ x ∈ us, x.1 ≠ j) → setU H us j = H j
  | [], _ => rfl
  | (i, r) :: us, h => by
    rw [setU, upd_at, if_neg (fun e => h (i, r) List.mem_cons_self e.symm)]
    exact setU_no fun x hx => h x (List.mem_cons_of_mem _ hx)
theorem setU_yes {H H' : Nat → Option Row} {j : Nat} : ∀ {us : List (Nat × Row)}, (∃ x ∈ us, x.1 = j) → setU H us j = setU H' us j
  | [], ⟨x, hx, _⟩ => by cases hx
  | (i, r) :: us, ⟨x, hx, hj⟩ => by
    rw [setU, setU, upd_at, upd_at]
    by_cases h : j = i
    · rw [if_pos h, if_pos h]
    · rw [if_neg h, if_neg h]
      refine setU_yes ⟨x, ?_, hj⟩
      rcases List.mem_cons.1 hx with rfl | hx
      · exact absurd hj.symm h
      · exact hx
theorem setU_eq {H H' : Nat → Option Row} {j : Nat} (h : H j = H' j) (us : List (Nat × Row)) : setU H us j = setU H' us j := by
  by_cases hx : ∃ x ∈ us, x.1 = j
  · exact setU_yes hx
  · rw [setU_no (fun x hm e => hx ⟨x, hm, e⟩), setU_no (fun x hm e => hx ⟨x, hm, e⟩), h]

/-- What a place holds depends on those alone that write it. -/
theorem stS_fr {s : Nat} : ∀ {ents : List Ent} {st st' : St}, st.fr s = st'.fr s → (∀ e ∈ ents, e.o.dst = some s → S e.i = S' e.i) → (stS S ents st).fr s = (stS S' ents st').fr s
  | [], _, _, h, _ => h
  | e :: r, st, st', h, hd => by
    show (stS S r (stepS (S e.i) e st)).fr s = (stS S' r (stepS (S' e.i) e st')).fr s
    refine stS_fr ?_ fun x hx => hd x (List.mem_cons_of_mem _ hx)
    by_cases he : e.o.dst = some s
    · have := hd e List.mem_cons_self he
      rw [← this]
      cases hS : S e.i with
      | true => show (app e.o.dst e.E st).fr s = (app e.o.dst e.E st').fr s; rw [app_fr, app_fr, h]
      | false => exact h
    · have no : ∀ b st1, (stepS b e st1).fr s = st1.fr s := fun b st1 => by
        cases b with
        | true => show (app e.o.dst e.E st1).fr s = _; rw [app_fr, if_neg (fun h => he h.1)]
        | false => rfl
      rw [no, no, h]
theorem stS_H {j : Nat} : ∀ {ents : List Ent} {st st' : St}, st.H j = st'.H j → (∀ e ∈ ents, (∃ x ∈ e.E.us, x.1 = j) → S e.i = S' e.i) → (stS S ents st).H j = (stS S' ents st').H j
  | [], _, _, h, _ => h
  | e :: r, st, st', h, hd => by
    show (stS S r (stepS (S e.i) e st)).H j = (stS S' r (stepS (S' e.i) e st')).H j
    refine stS_H ?_ fun x hx => hd x (List.mem_cons_of_mem _ hx)
    by_cases he : ∃ x ∈ e.E.us, x.1 = j
    · have := hd e List.mem_cons_self he
      rw [← this]
      cases hS : S e.i with
      | true => exact setU_eq h _
      | false => exact h
    · have no : ∀ b st1, (stepS b e st1).H j = st1.H j := fun b st1 => by
        cases b with
        | true => exact setU_no (fun x hm e => he ⟨x, hm, e⟩)
        | false => rfl
      rw [no, no, h]

theorem St.ext' {a b : St} (h1 : ∀ s, a.fr s = b.fr s) (h2 : ∀ j, a.H j = b.H j) : a = b := by
  obtain ⟨f, H⟩ := a
  obtain ⟨f', H'⟩ := b
  have e1 : f = f' := funext h1
  have e2 : H = H' := funext h2
  rw [e1, e2]

theorem stS_append : ∀ (l1 l2 : List Ent) (st : St), stS S (l1 ++ l2) st = stS S l2 (stS S l1 st)
  | [], _, _ => rfl
  | e :: r, l2, st => stS_append r l2 _
theorem stS_all : ∀ {l : List Ent} {st : St}, (∀ e ∈ l, S e.i = true) → stS S l st = runTo l st
  | [], _, _ => rfl
  | e :: r, st, h => by
    rw [stS, h e List.mem_cons_self]
    exact stS_all fun x hx => h x (List.mem_cons_of_mem _ hx)
theorem stS_none : ∀ {l : List Ent} {st : St}, (∀ e ∈ l, S e.i = false) → stS S l st = st
  | [], _, _ => rfl
  | e :: r, st, h => by
    rw [stS, h e List.mem_cons_self]
    exact stS_none fun x hx => h x (List.mem_cons_of_mem _ hx)
theorem run_at : ∀ {l1 : List Ent} {e : Ent} {l2 : List Ent} {st : St}, Run Γ ops (l1 ++ e :: l2) st → Fact Γ ops e (runTo l1 st)
  | [], _, _, _, h => h.1
  | _ :: l1, _, _, _, h => run_at (l1 := l1) h.2

/-- One more in the set. -/
theorem stS_add {l1 : List Ent} {e : Ent} {l2 : List Ent} {st : St} (h1 : ∀ x ∈ l1, x.i ≠ e.i) (h2 : ∀ x ∈ l2, x.i ≠ e.i) (he : S e.i = false) (hS : ∀ i, S' i = if i = e.i then true else S i)
    (hd : ∀ x ∈ l2, S x.i = true → (∀ d, e.o.dst = some d → x.o.dst ≠ some d) ∧ ∀ y ∈ e.E.us, ∀ z ∈ x.E.us, y.1 ≠ z.1) :
    stS S' (l1 ++ e :: l2) st = app e.o.dst e.E (stS S (l1 ++ e :: l2) st) := by
  have c1 : ∀ st, stS S' l1 st = stS S l1 st := fun st => St.ext' (fun s => stS_fr rfl fun x hx _ => by rw [hS, if_neg (h1 x hx)]) (fun j => stS_H rfl fun x hx _ => by rw [hS, if_neg (h1 x hx)])
  have c2 : ∀ st, stS S' l2 st = stS S l2 st := fun st => St.ext' (fun s => stS_fr rfl fun x hx _ => by rw [hS, if_neg (h2 x hx)]) (fun j => stS_H rfl fun x hx _ => by rw [hS, if_neg (h2 x hx)])
  rw [stS_append, stS_append, c1, stS, stS, c2, he, hS, if_pos rfl]
  generalize stS S l1 st = X
  show stS S l2 (app e.o.dst e.E X) = app e.o.dst e.E (stS S l2 X)
  have fr_old : ∀ {l : List Ent} {s : Nat} {X : St}, (∀ x ∈ l, S x.i = true → x.o.dst ≠ some s) → (stS S l X).fr s = X.fr s := by
    intro l s
    induction l with
    | nil => intro X _; rfl
    | cons x r ih =>
      intro X h
      rw [stS, ih fun y hy => h y (List.mem_cons_of_mem _ hy)]
      cases hx : S x.i with
      | true => show (app x.o.dst x.E X).fr s = _; rw [app_fr, if_neg (fun hh => h x List.mem_cons_self hx hh.1)]
      | false => rfl
  have H_old : ∀ {l : List Ent} {j : Nat} {X : St}, (∀ x ∈ l, S x.i = true → ∀ z ∈ x.E.us, z.1 ≠ j) → (stS S l X).H j = X.H j := by
    intro l j
    induction l with
    | nil => intro X _; rfl
    | cons x r ih =>
      intro X h
      rw [stS, ih fun y hy => h y (List.mem_cons_of_mem _ hy)]
      cases hx : S x.i with
      | true => exact setU_no (h x List.mem_cons_self hx)
      | false => rfl
  refine St.ext' (fun s => ?_) (fun j => ?_)
  · rw [app_fr]
    by_cases hs : e.o.dst = some s ∧ e.E.v.isSome = true
    · rw [if_pos hs, fr_old (fun x hx hSx => (hd x hx hSx).1 s hs.1), app_fr, if_pos hs]
    · rw [if_neg hs]
      exact stS_fr (by rw [app_fr, if_neg hs]) fun _ _ _ => rfl
  · by_cases hj : ∃ x ∈ e.E.us, x.1 = j
    · obtain ⟨y, hy, rfl⟩ := hj
      rw [H_old (fun x hx hSx z hz ee => (hd x hx hSx).2 y hy z hz ee.symm)]
      exact setU_yes ⟨y, hy, rfl⟩
    · have no := fun (H : Nat → Option Row) => setU_no (H := H) (j := j) (us := e.E.us) (fun x hm ee => hj ⟨x, hm, ee⟩)
      show _ = setU (stS S l2 X).H e.E.us j
      rw [no]
      exact stS_H (no X.H) fun _ _ _ => rfl

theorem NF.app {st : St} {f : Nat} (h : NF st f) {d : Option Nat} {E : Eff} (hE : effNo f E = true) : NF (Vai.app d E st) f := by
  rw [effNo, Bool.and_eq_true] at hE
  refine ⟨fun s => ?_, fun j cs hj => ?_⟩
  · rw [app_fr]
    split
    · rename_i hh
      obtain ⟨v, us⟩ := E
      cases v with
      | none => cases hh.2
      | some v =>
        have := hE.1
        show has f v = false
        simpa using this
    · exact h.1 s
  · by_cases hx : ∃ x ∈ E.us, x.1 = j
    · have : ∀ {us : List (Nat × Row)} {H : Nat → Option Row}, (us.all fun x => match x.2 with | .cell cs => !cs.any (has1 f) | .row _ _ => true) = true → (∃ x ∈ us, x.1 = j) → setU H us j = some (.cell cs) → cs.any (has1 f) = false := by
        intro us H
        induction us with
        | nil => rintro _ ⟨x, hx, _⟩; cases hx
        | cons x r ih =>
          obtain ⟨i, row⟩ := x
          intro ha he hs
          rw [List.all_cons, Bool.and_eq_true] at ha
          rw [setU, upd_at] at hs
          by_cases hji : j = i
          · rw [if_pos hji] at hs
            cases hs
            simpa using ha.1
          · rw [if_neg hji] at hs
            refine ih ha.2 ?_ hs
            obtain ⟨x, hx, hxj⟩ := he
            rcases List.mem_cons.1 hx with rfl | hx
            · exact absurd hxj.symm hji
            · exact ⟨x, hx, hxj⟩
      exact this hE.2 hx hj
    · have hj : setU st.H E.us j = some (.cell cs) := hj
      rw [setU_no (fun x hm e => hx ⟨x, hm, e⟩)] at hj
      exact h.2 j cs hj

/-- One operation, with its guard. -/
def op1 (Γ : Ctx) (all : List Oper) (o : Oper) (st : St) (k : St → Prop) : Prop := guardW all o st fun on => match on with
  | true => opW Γ o st k
  | false => k (st.put o.dst (.tup []))

/-- What is ready does at any set what it did in the text. -/
theorem seg_exec {l1 : List Ent} {e : Ent} {l2 : List Ent} {st0 : St} {ord : Nat → Nat → Bool} (hrun : Run Γ ops (l1 ++ e :: l2) st0)
    (h1 : ∀ x ∈ l1, x.i < e.i) (h2 : ∀ x ∈ l2, e.i < x.i) (he : S e.i = false)
    (hp1 : ∀ x ∈ l1, pairOk Γ ops (ord x.i e.i) x e = true) (hp2 : ∀ x ∈ l2, pairOk Γ ops (ord e.i x.i) e x = true)
    (ho1 : ∀ x ∈ l1, ord x.i e.i = true → S x.i = true) (ho2 : ∀ x ∈ l2, ord e.i x.i = true → S x.i = false)
    (hfr : ∀ f, freshOf Γ e.o = some f → NF st0 f) (hS : ∀ i, S' i = if i = e.i then true else S i) (hdst : e.on = false → e.o.dst ≠ none → True) :
    op1 Γ ops.toList e.o (stS S (l1 ++ e :: l2) st0) (· = stS S' (l1 ++ e :: l2) st0) := by
  have hF := run_at hrun
  -- what pairs tell
  have un1 : ∀ x ∈ l1, S x.i = false → (freshNo Γ x.o e.E = true ∧ Oper.apart ops x.o e.o = true ∧ rowsNo x.E.us e.vs = true ∧ rowsNo e.E.us x.vs = true ∧ idsNo x.E.us e.E.us = true) := fun x hx hSx => by
    have h := hp1 x hx
    have hno : ord x.i e.i = false := by
      cases ho : ord x.i e.i with
      | false => rfl
      | true => rw [ho1 x hx ho] at hSx; cases hSx
    unfold pairOk at h
    rw [hno] at h
    simp only [Bool.and_eq_true] at h
    exact ⟨h.2.1, h.2.2.1, h.2.2.2.1, h.2.2.2.2.1, h.2.2.2.2.2.1⟩
  have un2 : ∀ x ∈ l2, S x.i = true → (freshNo Γ e.o x.E = true ∧ Oper.apart ops e.o x.o = true ∧ rowsNo x.E.us e.vs = true ∧ idsNo e.E.us x.E.us = true) := fun x hx hSx => by
    have h := hp2 x hx
    have hno : ord e.i x.i = false := by
      cases ho : ord e.i x.i with
      | false => rfl
      | true => rw [ho2 x hx ho] at hSx; cases hSx
    unfold pairOk at h
    rw [hno] at h
    simp only [Bool.and_eq_true] at h
    exact ⟨h.2.1, h.2.2.1, h.2.2.2.2.1, h.2.2.2.2.2.1⟩
  -- the text's state
  obtain ⟨T, hT⟩ : ∃ T : Nat → Bool, T = fun i => decide (i < e.i) := ⟨_, rfl⟩
  have htext : runTo l1 st0 = stS T (l1 ++ e :: l2) st0 := by
    rw [stS_append, stS, show T e.i = false by rw [hT]; simp]
    rw [stS_all (l := l1) (fun x hx => by rw [hT]; simpa using h1 x hx)]
    exact (stS_none fun x hx => by rw [hT]; have := h2 x hx; simp; omega).symm
  rw [htext] at hF
  have looks : ∀ s, s ∈ Oper.looksAt ops e.o → (stS S (l1 ++ e :: l2) st0).fr s = (stS T (l1 ++ e :: l2) st0).fr s := by
    intro s hs
    refine stS_fr rfl fun x hx hd => ?_
    rcases List.mem_append.1 hx with hx | hx
    · rw [hT]
      simp only [h1 x hx, decide_true]
      cases hSx : S x.i with
      | true => rfl
      | false => exact absurd hs ((Oper.apart_spec (un1 x hx hSx).2.1).1 s hd)
    · rcases List.mem_cons.1 hx with rfl | hx
      · rw [he, hT]; simp
      · have h3 := h2 x hx
        rw [hT]
        have : decide (x.i < e.i) = false := by simp; omega
        simp only [this]
        cases hSx : S x.i with
        | false => rfl
        | true => exact absurd hs ((Oper.apart_spec (un2 x hx hSx).2.1).2.2 s hd)
  have rowsEq : ∀ j, (e.vs.any (has j) = true) → (stS S (l1 ++ e :: l2) st0).H j = (stS T (l1 ++ e :: l2) st0).H j := by
    intro j hj
    have kill : ∀ us : List (Nat × Row), rowsNo us e.vs = true → (∃ y ∈ us, y.1 = j) → False := fun us hr ⟨y, hy, hyj⟩ => by
      have := List.all_eq_true.1 hr y hy
      rw [hyj, hj] at this
      cases this
    refine stS_H rfl fun x hx hd => ?_
    rcases List.mem_append.1 hx with hx | hx
    · rw [hT]
      simp only [h1 x hx, decide_true]
      cases hSx : S x.i with
      | true => rfl
      | false => exact (kill _ (un1 x hx hSx).2.2.1 hd).elim
    · rcases List.mem_cons.1 hx with rfl | hx
      · rw [he, hT]; simp
      · have h3 := h2 x hx
        rw [hT]
        have : decide (x.i < e.i) = false := by simp; omega
        simp only [this]
        cases hSx : S x.i with
        | false => rfl
        | true => exact (kill _ (un2 x hx hSx).2.2.1 hd).elim
  have hag : Agree e.o (stS T (l1 ++ e :: l2) st0).ev (stS S (l1 ++ e :: l2) st0).ev (stS T (l1 ++ e :: l2) st0).H (stS S (l1 ++ e :: l2) st0).H := by
    refine ⟨fun x hx => ?_, fun j ⟨x, hx, hj⟩ => ?_⟩
    · cases x with
      | tmp t => exact looks t (List.mem_append_left _ (List.mem_filterMap.2 ⟨.tmp t, hx, rfl⟩))
      | const v => rfl
      | func f => rfl
      | global g => rfl
    · refine rowsEq j (List.any_eq_true.2 ⟨_, ?_, hj⟩)
      rw [hF.vs]
      exact List.mem_map.2 ⟨x, hx, rfl⟩
  have hadd : stS S' (l1 ++ e :: l2) st0 = app e.o.dst e.E (stS S (l1 ++ e :: l2) st0) := by
    refine stS_add (fun x hx => by have := h1 x hx; omega) (fun x hx => by have := h2 x hx; omega) he hS fun x hx hSx => ?_
    obtain ⟨_, u2, _, u4⟩ := un2 x hx hSx
    refine ⟨(Oper.apart_spec u2).2.1, fun y hy z hz ee => ?_⟩
    have := List.all_eq_true.1 u4 y hy
    rw [Bool.not_eq_true'] at this
    have h5 := List.any_eq_false.1 this z hz
    rw [ee, Nat.beq_refl] at h5
    exact h5 rfl
  have hNF : ∀ f, freshOf Γ e.o = some f → NF (stS S (l1 ++ e :: l2) st0) f := by
    intro f hf
    have key : ∀ {l : List Ent} {st : St}, NF st f → (∀ x ∈ l, S x.i = true → effNo f x.E = true) → NF (stS S l st) f := by
      intro l
      induction l with
      | nil => intro st h _; exact h
      | cons x r ih =>
        intro st h hx
        rw [stS]
        refine ih ?_ fun y hy => hx y (List.mem_cons_of_mem _ hy)
        cases hSx : S x.i with
        | true => exact h.app (hx x List.mem_cons_self hSx)
        | false => exact h
    refine key (hfr f hf) fun x hx hSx => ?_
    rcases List.mem_append.1 hx with hx | hx
    · have h := hp1 x hx
      unfold pairOk at h
      rw [Bool.and_eq_true] at h
      have h3 := h.1
      rw [freshNo, hf] at h3
      exact h3
    · rcases List.mem_cons.1 hx with rfl | hx
      · rw [he] at hSx; cases hSx
      · have h3 := (un2 x hx hSx).1
        rw [freshNo, hf] at h3
        exact h3
  rw [hadd]
  refine hF.gd _ (fun d hd => looks d (List.mem_append_right _ ?_)) _ ?_
  · unfold gslots at hd
    cases hg : e.o.guard with
    | none => rw [hg] at hd; cases hd
    | some q => obtain ⟨g, want⟩ := q; rw [hg] at hd; simpa [hg] using hd
  · have hef := hF.ef
    cases hon : e.on with
    | true =>
      rw [hon] at hef
      exact dOp_W hNF (hef _ _ hag) fun E hE => by rw [hE]
    | false =>
      rw [hon] at hef
      have hef : e.E = ⟨some (.tup []), []⟩ := hef
      show (stS S (l1 ++ e :: l2) st0).put e.o.dst (.tup []) = _
      rw [hef, app_put]

end
end Go.Vai

/- Regions whose order is drawn: the rule. No condition. -/
namespace Go.Vai

def preKill (Γ : Ctx) : List Oper → St → St
  | [], st => st
  | o :: r, st => preKill Γ r (match freshOf Γ o with | some f => st.kill f | none => st)

def regD (Γ : Ctx) (ops : Array Oper) (ms : List Nat) : List Nat → Nat → List Oper → St → (St → Prop) → Prop
  | [], _, rest, st, k => (match rest with | [] => k st | _ :: _ => False)
  | n :: lens, b, rest, st, k => (match n with
    | 0 => False
    | 1 => (match rest with
      | [] => False
      | o :: r => guardW ops.toList o st fun on => match on with
        | true => opW Γ o st fun st2 => partB ops.toList b o.dst st2 fun st3 => regD Γ ops ms lens (b + 1) r st3 k
        | false => regD Γ ops ms lens (b + 1) r (st.put o.dst (.tup [])) k)
    | m + 2 => (match Nat.ble (m + 2) rest.length with
      | true => segW Γ ops ms (rest.take (m + 2)) b (preKill Γ (rest.take (m + 2)) st) [] fun st' => regD Γ ops ms lens (b + (m + 2)) (rest.drop (m + 2)) st' k
      | false => False))

def lowAll (m e : Nat) : Bool := Nat.beq (m &&& (2 ^ e - 1)) (2 ^ e - 1)
def cutOk (ms : List Nat) (n : Nat) : List Nat → Nat → Bool
  | [], _ => true
  | len :: lens, b => ((List.range n).all fun i => Nat.blt i (b + len) || lowAll (ms.getD i 0) (b + len)) && cutOk ms n lens (b + len)
def depsOk : List Oper → Nat → Bool
  | [], _ => true
  | o :: r, i => (deps o).all (fun e => Nat.blt e i) && depsOk r (i + 1)
/-- What is looked at once, without a state. -/
def drawOk (N : Nat) (ops : Array Oper) (lens : List Nat) : Bool := ops.toList.all (okO N) && (depsOk ops.toList 0 && cutOk (befs ops.toList []) ops.size lens 0)

section
variable {Γ : Ctx} {E : Env} {ops : Array Oper} {st : St} {a : Act} {w : World} {Q : Exit → Act → World → Prop}

theorem lowAll_ok {m e j : Nat} (h : lowAll m e = true) (hj : j < e) : m.testBit j = true := by
  have h1 := Nat.eq_of_beq_eq_true h
  have h2 : (m &&& (2 ^ e - 1)).testBit j = (2 ^ e - 1).testBit j := by rw [h1]
  rw [Nat.testBit_and, Nat.testBit_two_pow_sub_one] at h2
  simp [hj] at h2
  exact h2

theorem depsOk_ok : ∀ {l : List Oper} {i : Nat}, depsOk l i = true → ∀ (j : Nat) o, l[j]? = some o → ∀ e ∈ deps o, e < i + j
  | [], _, _, j, o, h, _, _ => by simp at h
  | o :: r, i, h, j, o', ho, e, he => by
    rw [depsOk, Bool.and_eq_true] at h
    cases j with
    | zero =>
      simp at ho
      subst ho
      exact Nat.le_of_ble_eq_true (List.all_eq_true.1 h.1 e he)
    | succ j =>
      have := depsOk_ok h.2 j o' (by simpa using ho) e he
      omega

theorem Rep.kill (h : Rep Γ E st a w) (f : Nat) : Rep Γ E (st.kill f) a w := by
  obtain ⟨β, h⟩ := h
  refine ⟨β, { size := h.size, oth := h.oth, frv := fun s v hv => RepV.kill (Move.refl _ _) (fun _ _ => rfl) (h.frv s v hv), hp := fun j r hj => ?_, dom := fun j hj => ?_, inj := h.inj, own := h.own, keeps := h.keeps, okb := h.okb, hbb := h.hbb, fix := h.fix, fxm := h.fxm }⟩
  · change (st.H j).map (killR f) = some r at hj
    cases hx : st.H j with
    | none => rw [hx] at hj; cases hj
    | some x =>
      rw [hx] at hj
      cases hj
      obtain ⟨ra, h1, h2⟩ := h.hp j x hx
      exact ⟨ra, h1, RepRow.kill (Move.refl _ _) (fun _ _ => rfl) (fun _ _ _ _ _ => rfl) h2⟩
  · change (st.H j).map (killR f) = none at hj
    refine h.dom j ?_
    cases hx : st.H j with
    | none => rfl
    | some x => rw [hx] at hj; cases hj
theorem Rep.preKill : ∀ {l : List Oper} {st : St}, Rep Γ E st a w → Rep Γ E (preKill Γ l st) a w
  | [], _, h => h
  | o :: r, st, h => by
    refine Rep.preKill (l := r) ?_
    cases freshOf Γ o with
    | none => exact h
    | some f => exact h.kill f

theorem kill_has {g f : Nat} {p : PV} (h : has f p = false) : has f (kill g p) = false := by
  unfold kill
  cases has g p with
  | true => rfl
  | false => exact h
theorem NF.killed {st : St} {f g : Nat} (h : NF st f) : NF (st.kill g) f := by
  refine ⟨fun s => kill_has (h.1 s), fun j cs hj => ?_⟩
  change (st.H j).map (killR g) = some (.cell cs) at hj
  cases hx : st.H j with
  | none => rw [hx] at hj; cases hj
  | some x =>
    rw [hx] at hj
    cases x with
    | row sz es => cases hj
    | cell ds =>
      cases hj
      have h3 := h.2 j ds hx
      rw [List.any_eq_false] at h3 ⊢
      intro c hc
      obtain ⟨d, hd, rfl⟩ := List.mem_map.1 hc
      have := h3 d hd
      unfold kill1
      cases has1 g d with
      | true => simp [has1, has0]
      | false => exact this
theorem NF.of_kill (st : St) (f : Nat) : NF (st.kill f) f := by
  refine ⟨fun s => ?_, fun j cs hj => ?_⟩
  · show has f (Vai.kill f (st.fr s)) = false
    unfold Vai.kill
    cases hh : has f (st.fr s) with
    | true => rfl
    | false => exact hh
  · change (st.H j).map (killR f) = some (.cell cs) at hj
    cases hx : st.H j with
    | none => rw [hx] at hj; cases hj
    | some x =>
      rw [hx] at hj
      cases x with
      | row sz es => cases hj
      | cell ds =>
        cases hj
        rw [List.any_eq_false]
        intro c hc
        obtain ⟨d, hd, rfl⟩ := List.mem_map.1 hc
        unfold kill1
        cases hh : has1 f d with
        | true => simp [has1, has0]
        | false => simp [hh]
theorem preKill_keeps {f : Nat} : ∀ {l : List Oper} {st : St}, NF st f → NF (preKill Γ l st) f
  | [], _, h => h
  | o :: r, st, h => by
    refine preKill_keeps (l := r) ?_
    cases freshOf Γ o with
    | none => exact h
    | some g => exact h.killed
theorem preKill_NF {f : Nat} : ∀ {l : List Oper} {st : St} {o : Oper}, o ∈ l → freshOf Γ o = some f → NF (preKill Γ l st) f
  | [], _, _, h, _ => by cases h
  | x :: r, st, o, h, hf => by
    rw [preKill]
    rcases List.mem_cons.1 h with rfl | h
    · rw [hf]
      exact preKill_keeps (NF.of_kill st f)
    · exact preKill_NF h hf

theorem partB_ok {all : List Oper} {i : Nat} {d : Option Nat} {k : St → Prop} (h : partB all i d st k) : k st := by
  unfold partB at h
  split at h
  · exact h
  · split at h
    · exact h
    · rename_i d
      split at h
      · rename_i b hb
        rw [brP_eq] at h
        have e : ∀ b', b' = b → (⟨upd st.fr d (bv b'), st.H⟩ : St) = st := fun b' e => by
          subst e
          rw [upd_self hb]
        cases b with
        | true => rw [if_pos rfl, e true rfl] at h; exact h
        | false => rw [if_neg (by simp), e false rfl] at h; exact h
      · exact h

theorem op1_wp {rd : Option Nat} (hΓ : Γ.Ok) (hok : ops.toList.all (okO Γ.N) = true) {i : Nat} {o : Oper} (ho : ops[i]? = some o) {kt kf : St → Prop} {K : Act → World → Prop} (h : Rep Γ E st a w)
    (hw : guardW ops.toList o st fun on => match on with | true => opW Γ o st kt | false => kf (st.put o.dst (.tup [])))
    (ht : ∀ st' a' w', Rep Γ E st' a' w' → kt st' → K a' w') (hf : ∀ st' a' w', Rep Γ E st' a' w' → kf st' → K a' w') : wpOpIn (FR rd) 0 Γ.P ops Q i K a w := by
  have hoo : okO Γ.N o = true := List.all_eq_true.1 hok o (List.mem_of_getElem? (by simpa using ho))
  unfold wpOpIn
  rw [ho]
  dsimp only
  have key : ∀ on : Bool, Region.wanted o (yielded ops a.tmps) = on → (match on with | true => opW Γ o st kt | false => kf (st.put o.dst (.tup []))) →
      (if Region.wanted o (yielded ops a.tmps) = true then o.wpIn (FR rd) 0 Γ.P a w K Q else (∀ f, o.about Γ.P w a.eval = some f → (FR rd).fn f) ∧ K (a.put o.dst undef) w) := by
    intro on hon hw
    cases on with
    | true =>
      rw [if_pos hon]
      exact opIn (opW_sound hΓ hoo h hw ht) (fun c e => by unfold opW at hw; rw [e] at hw; exact hw)
    | false =>
      rw [if_neg (by rw [hon]; simp)]
      obtain ⟨β, h⟩ := h
      exact ⟨fun _ _ => trivial, hf _ _ _ ⟨β, h.put (d := o.dst) (p := .tup []) (v := undef) ⟨[], rfl, rfl, fun i c u hc => by simp at hc⟩ (okO_dst hoo)⟩ hw⟩
  unfold guardW at hw
  split at hw
  · rename_i hg
    exact key true (wanted_none hg _) hw
  · rename_i j want hg
    split at hw
    case h_1 => exact hw.elim
    rename_i d hd
    have hd' : (ops[j]?).bind (·.dst) = some d := by simpa using hd
    have hdN : d < Γ.N := by
      cases hj : ops[j]? with
      | none => rw [hj] at hd'; cases hd'
      | some oj =>
        rw [hj] at hd'
        have hd' : oj.dst = some d := hd'
        have h1 := List.all_eq_true.1 hok oj (List.mem_of_getElem? (by simpa using hj))
        rw [okO, Bool.and_eq_true, Bool.and_eq_true, hd'] at h1
        have h2 := h1.1.2
        exact Nat.le_of_ble_eq_true h2
    obtain ⟨β, hh⟩ := h
    obtain ⟨v, hv⟩ : ∃ v, a.tmps[d]? = some v := ⟨_, Array.getElem?_eq_getElem (by rw [hh.size]; exact hdN)⟩
    have hfr := hh.fr d v hv
    have hy : yielded ops a.tmps j = boolOf v := by
      unfold yielded
      rw [hd']
      simp only [Option.bind_some]
      rw [hv]
      cases v <;> rfl
    have hwt : ∀ b, yielded ops a.tmps j = b → Region.wanted o (yielded ops a.tmps) = (b == some want) := fun b hb => by simp [Region.wanted, hg, hb]
    split at hw
    · rename_i b hb
      rw [hb] at hfr
      have hvb := repV_bool hfr
      rw [hvb] at hy
      have h1 := hwt _ hy
      cases b <;> cases want
      · exact key true (by rw [h1]; rfl) hw
      · exact key false (by rw [h1]; rfl) hw
      · exact key false (by rw [h1]; rfl) hw
      · exact key true (by rw [h1]; rfl) hw
    · rename_i hb
      rw [hb] at hfr
      obtain ⟨us, h1, h2, _⟩ := hfr
      rw [h1] at hy
      exact key false (by rw [hwt _ hy]; cases want <;> rfl) hw
    · exact hw.elim

theorem countP_lt {p p' : Nat → Bool} : ∀ {l : List Nat} {i : Nat}, i ∈ l → (∀ x, p' x = true → p x = true) → p i = true → p' i = false → l.countP p' < l.countP p
  | [], _, h, _, _, _ => by cases h
  | x :: r, i, h, hpp, hp, hp' => by
    have mono : ∀ l : List Nat, l.countP p' ≤ l.countP p := fun l => List.countP_mono_left fun x _ => hpp x
    rw [List.countP_cons, List.countP_cons]
    rcases List.mem_cons.1 h with rfl | h
    · rw [hp, hp']
      have := mono r
      simp; omega
    · have := countP_lt h hpp hp hp'
      cases h1 : p' x with
      | true => rw [hpp x h1]; simp; omega
      | false => simp; split <;> omega

theorem least_false {L : Nat → Bool} : ∀ {i : Nat}, L i = false → ∃ j, j ≤ i ∧ L j = false ∧ ∀ x, x < j → L x = true := by
  intro i
  induction i using Nat.strongRecOn with
  | _ i ih =>
    intro h
    by_cases hx : ∃ x, x < i ∧ L x = false
    · obtain ⟨x, h1, h2⟩ := hx
      obtain ⟨j, h3, h4, h5⟩ := ih x h1 h2
      exact ⟨j, by omega, h4, h5⟩
    · refine ⟨i, Nat.le_refl _, h, fun x hxi => ?_⟩
      cases hL : L x with
      | true => rfl
      | false => exact absurd ⟨x, hxi, hL⟩ hx

end
end Go.Vai

/- Regions whose order is drawn: the rule, joined. No condition. -/
namespace Go.Vai

section
variable {Γ : Ctx} {E : Env} {ops : Array Oper} {Q : Exit → Act → World → Prop} {k : St → Prop}

def listL (listed : Array Bool) (i : Nat) : Bool := listed.getD i false
def cnt (n : Nat) (L : Nat → Bool) : Nat := (List.range n).countP fun i => !L i

/-- Where a run of a drawn region may stand: between two segments, or amid one. -/
inductive Here (Γ : Ctx) (E : Env) (ops : Array Oper) (k : St → Prop) (L : Nat → Bool) (a : Act) (w : World) : Prop where
  | cut (b : Nat) (lens : List Nat) (st : St) (hb : b ≤ ops.size) (hL : ∀ i, i < ops.size → (L i = true ↔ i < b)) (hr : Rep Γ E st a w) (hk : regD Γ ops (befs ops.toList []) lens b (ops.toList.drop b) st k) (hc : cutOk (befs ops.toList []) ops.size lens b = true)
  | mid (b : Nat) (lens : List Nat) (st0 : St) (ents : List Ent) (hsz : b + ents.length ≤ ops.size) (hi : ∀ (q : Nat) e, ents[q]? = some e → e.i = b + q) (hrun : Run Γ ops ents st0)
      (hp : ∀ (p q : Nat) x y, p < q → ents[p]? = some x → ents[q]? = some y → pairOk Γ ops (bitOf ((befs ops.toList []).getD y.i 0) x.i) x y = true)
      (hf : ∀ e ∈ ents, ∀ f, freshOf Γ e.o = some f → NF st0 f) (hlo : ∀ i, i < b → L i = true) (hhi : ∀ i, i < ops.size → b + ents.length ≤ i → L i = false) (hcl : Closed ops.toList L) (hun : ∃ i, b ≤ i ∧ i < b + ents.length ∧ L i = false)
      (hcut : ∀ i, i < ops.size → b + ents.length ≤ i → lowAll ((befs ops.toList []).getD i 0) (b + ents.length) = true)
      (hr : Rep Γ E (stS L ents st0) a w) (hk : regD Γ ops (befs ops.toList []) lens (b + ents.length) (ops.toList.drop (b + ents.length)) (runTo ents st0) k) (hc : cutOk (befs ops.toList []) ops.size lens (b + ents.length) = true)

theorem befs_bef {i m j : Nat} (h : (befs ops.toList [])[i]? = some m) (hj : m.testBit j = true) : Bef ops.toList i j :=
  befs_ok ops.toList [] (fun j => by simp) (fun i m h => by simp at h) i m h j hj
theorem bit_bef {i j : Nat} (hj : ((befs ops.toList []).getD i 0).testBit j = true) : Bef ops.toList i j := by
  cases h : (befs ops.toList [])[i]? with
  | none => rw [List.getD_eq_getElem?_getD, h] at hj; simp at hj
  | some m => rw [List.getD_eq_getElem?_getD, h] at hj; exact befs_bef h hj

theorem mem_ready {listed : Array Bool} (hs : listed.size = ops.size) {i : Nat} : i ∈ Region.ready .any ops listed ↔ ∃ o, ops[i]? = some o ∧ listL listed i = false ∧ ∀ e ∈ deps o, listL listed e = true := by
  have hd : ∀ o : Oper, (o.after.all fun e => !Region.binds .any e || listed.getD e.on false) = true ↔ ∀ e ∈ deps o, listL listed e = true := by
    intro o
    rw [← Array.all_toList, List.all_eq_true]
    constructor
    · intro h e he
      obtain ⟨x, hx, rfl⟩ := List.mem_map.1 he
      rw [List.mem_filter] at hx
      have := h x hx.1
      rw [hx.2] at this
      exact this
    · intro h x hx
      cases hb : Region.binds .any x with
      | false => rfl
      | true => exact h x.on (List.mem_map.2 ⟨x, List.mem_filter.2 ⟨hx, hb⟩, rfl⟩)
  unfold Region.ready
  rw [List.mem_filter, List.mem_range]
  constructor
  · rintro ⟨h1, h2⟩
    rw [Bool.and_eq_true] at h2
    cases ho : ops[i]? with
    | none => rw [ho] at h2; cases h2.2
    | some o =>
      rw [ho] at h2
      refine ⟨o, rfl, ?_, (hd o).1 h2.2⟩
      have h3 := h2.1
      have h4 : i < listed.size := by omega
      simp [Array.getD, h4] at h3
      simp [listL, Array.getD, h4, h3]
  · rintro ⟨o, ho, h1, h2⟩
    have hi : i < ops.size := (Array.getElem?_eq_some_iff.1 ho).1
    refine ⟨hi, ?_⟩
    rw [Bool.and_eq_true, ho]
    refine ⟨?_, (hd o).2 h2⟩
    have h4 : i < listed.size := by omega
    simp [listL, Array.getD, h4] at h1
    simp [Array.getD, h4, h1]

theorem listL_set {listed : Array Bool} {i : Nat} (hi : i < listed.size) (j : Nat) : listL (listed.setIfInBounds i true) j = if j = i then true else listL listed j := by
  unfold listL
  rw [Array.getD_eq_getD_getElem?, Array.getD_eq_getD_getElem?, Array.getElem?_setIfInBounds]
  by_cases h : i = j
  · subst h; simp [hi]
  · have : ¬ j = i := fun e => h e.symm
    simp [h, this]

theorem here_ok {rd : Option Nat} (hΓ : Γ.Ok) (hok : ops.toList.all (okO Γ.N) = true) (hdeps : depsOk ops.toList 0 = true) (hQ : ∀ st' a' w', Rep Γ E st' a' w' → k st' → Q .normal a' w') :
    ∀ (fuel : Nat) (listed : Array Bool) (a : Act) (w : World), listed.size = ops.size → cnt ops.size (listL listed) ≤ fuel → Here Γ E ops k (listL listed) a w → wpAnyIn (FR rd) 0 Γ.P .any ops Q fuel listed a w := by
  intro fuel
  induction fuel with
  | zero =>
    intro listed a w hsz hc h
    have all : ∀ i, i < ops.size → listL listed i = true := by
      intro i hi
      cases hL : listL listed i with
      | true => rfl
      | false =>
        have : 0 < cnt ops.size (listL listed) := by
          unfold cnt
          rw [List.countP_pos_iff]
          exact ⟨i, by simpa using hi, by rw [hL]; rfl⟩
        omega
    have hnil : Region.ready .any ops listed = [] := by
      rw [List.eq_nil_iff_forall_not_mem]
      intro i hi
      obtain ⟨o, ho, h1, _⟩ := (mem_ready hsz).1 hi
      rw [all i (Array.getElem?_eq_some_iff.1 ho).1] at h1
      cases h1
    refine ⟨hnil, ?_⟩
    cases h with
    | cut b lens st hb hL hr hk hc =>
      have hbn : b = ops.size := by
        rcases Nat.lt_or_ge b ops.size with h1 | h1
        · exact absurd ((hL b h1).1 (all b h1)) (Nat.lt_irrefl _)
        · omega
      have hdrop : ops.toList.drop b = [] := by rw [hbn]; simp
      rw [hdrop] at hk
      cases lens with
      | nil => exact hQ _ _ _ hr hk
      | cons n lens =>
        match n, hk with
        | 0, hk => exact hk.elim
        | 1, hk => exact hk.elim
        | m + 2, hk => exact (show False from hk).elim
    | mid b lens st0 ents hsz' hi hrun hp hf hlo hhi hcl hun hcut hr hk hc =>
      obtain ⟨i, h1, h2, h3⟩ := hun
      rw [all i (by omega)] at h3
      cases h3
  | succ fuel ih =>
    intro listed a w hsz hcn h
    have next : ∀ i, i < ops.size → listL listed i = false → cnt ops.size (listL (listed.setIfInBounds i true)) ≤ fuel := by
      intro i hi hL
      have : cnt ops.size (listL (listed.setIfInBounds i true)) < cnt ops.size (listL listed) := by
        refine countP_lt (i := i) (by simpa using hi) (fun x hx => ?_) (by simp [hL]) ?_
        · rw [listL_set (by omega)] at hx
          by_cases e : x = i
          · rw [if_pos e] at hx; cases hx
          · rw [if_neg e] at hx; exact hx
        · rw [listL_set (by omega), if_pos rfl]; rfl
      omega
    have prog : (∃ i, i < ops.size ∧ listL listed i = false) → Region.ready .any ops listed ≠ [] := by
      rintro ⟨i, hi, hL⟩ hnil
      obtain ⟨j, h1, h2, h3⟩ := least_false hL
      have hj : j < ops.size := by omega
      have : j ∈ Region.ready .any ops listed := (mem_ready hsz).2 ⟨ops[j], Array.getElem?_eq_getElem hj, h2, fun e he => h3 e (by
        have := depsOk_ok hdeps j ops[j] (by simp [hj]) e he
        omega)⟩
      rw [hnil] at this
      cases this
    have midcase : ∀ (b : Nat) (lens : List Nat) (st0 : St) (ents : List Ent) (hsz' : b + ents.length ≤ ops.size) (hi : ∀ (q : Nat) e, ents[q]? = some e → e.i = b + q) (hrun : Run Γ ops ents st0)
      (hp : ∀ (p q : Nat) x y, p < q → ents[p]? = some x → ents[q]? = some y → pairOk Γ ops (bitOf ((befs ops.toList []).getD y.i 0) x.i) x y = true)
      (hf : ∀ e ∈ ents, ∀ f, freshOf Γ e.o = some f → NF st0 f) (hlo : ∀ i, i < b → listL listed i = true) (hhi : ∀ i, i < ops.size → b + ents.length ≤ i → listL listed i = false) (hcl : Closed ops.toList (listL listed)) (hun : ∃ i, b ≤ i ∧ i < b + ents.length ∧ listL listed i = false)
      (hcut : ∀ i, i < ops.size → b + ents.length ≤ i → lowAll ((befs ops.toList []).getD i 0) (b + ents.length) = true)
      (hr : Rep Γ E (stS (listL listed) ents st0) a w) (hk : regD Γ ops (befs ops.toList []) lens (b + ents.length) (ops.toList.drop (b + ents.length)) (runTo ents st0) k) (hc : cutOk (befs ops.toList []) ops.size lens (b + ents.length) = true),
      wpAnyIn (FR rd) 0 Γ.P .any ops Q (fuel + 1) listed a w := by
      intro b lens st0 ents hsz' hi hrun hp hf hlo hhi hcl hun hcut hr hk hc
      obtain ⟨u, hu1, hu2, hu3⟩ := hun
      refine ⟨fun hnil => absurd hnil (prog ⟨u, by omega, hu3⟩), fun i hir => ?_⟩
      obtain ⟨o, ho, hLi, hdl⟩ := (mem_ready hsz).1 hir
      have hin : i < ops.size := (Array.getElem?_eq_some_iff.1 ho).1
      have hbi : b ≤ i := by
        rcases Nat.lt_or_ge i b with h1 | h1
        · rw [hlo i h1] at hLi; cases hLi
        · exact h1
      have hol : ops.toList[i]? = some o := by simpa using ho
      have hdl' : ∀ o', ops.toList[i]? = some o' → ∀ e ∈ deps o', listL listed e = true := fun o' h1 e he => by
        rw [hol] at h1
        cases h1
        exact hdl e he
      have hie : i < b + ents.length := by
        rcases Nat.lt_or_ge i (b + ents.length) with h1 | h1
        · exact h1
        · have h2 := lowAll_ok (hcut i hin h1) hu2
          have := hcl.bef (bit_bef h2) hdl'
          rw [hu3] at this
          cases this
      obtain ⟨q, rfl⟩ : ∃ q, i = b + q := ⟨i - b, by omega⟩
      have hq : q < ents.length := by omega
      have heq : ents[q]? = some ents[q] := List.getElem?_eq_getElem hq
      have hei : ents[q].i = b + q := hi q _ heq
      have hsplit : ents = ents.take q ++ ents[q] :: ents.drop (q + 1) := by
        rw [← List.drop_eq_getElem_cons hq, List.take_append_drop]
      have t1 : ∀ x ∈ ents.take q, ∃ p, p < q ∧ ents[p]? = some x := fun x hx => by
        obtain ⟨p, hp1, hp2⟩ := List.mem_iff_getElem.1 hx
        simp at hp1
        refine ⟨p, by omega, ?_⟩
        rw [← hp2]
        simp <;> omega
      have t2 : ∀ x ∈ ents.drop (q + 1), ∃ p, q < p ∧ ents[p]? = some x := fun x hx => by
        obtain ⟨p, hp1, hp2⟩ := List.mem_iff_getElem.1 hx
        simp at hp1
        refine ⟨q + 1 + p, by omega, ?_⟩
        rw [← hp2]
        simp <;> omega
      have heo : ents[q].o = o := by
        have hF : Fact Γ ops ents[q] (runTo (ents.take q) st0) := run_at (l1 := ents.take q) (l2 := ents.drop (q + 1)) (by rw [← hsplit]; exact hrun)
        have := hF.ho
        rw [hei, ho] at this
        exact (Option.some.inj this).symm
      have hS : ∀ j, listL (listed.setIfInBounds (b + q) true) j = if j = ents[q].i then true else listL listed j := fun j => by rw [hei]; exact listL_set (by omega) j
      have hex : op1 Γ ops.toList ents[q].o (stS (listL listed) ents st0) (· = stS (listL (listed.setIfInBounds (b + q) true)) ents st0) := by
        have := seg_exec (S := listL listed) (S' := listL (listed.setIfInBounds (b + q) true)) (l1 := ents.take q) (e := ents[q]) (l2 := ents.drop (q + 1)) (st0 := st0) (ord := fun x y => bitOf ((befs ops.toList []).getD y 0) x) (by rw [← hsplit]; exact hrun)
          (fun x hx => by obtain ⟨p, hp1, hp2⟩ := t1 x hx; rw [hi p x hp2, hei]; omega) (fun x hx => by obtain ⟨p, hp1, hp2⟩ := t2 x hx; rw [hi p x hp2, hei]; omega) (by rw [hei]; exact hLi)
          (fun x hx => by obtain ⟨p, hp1, hp2⟩ := t1 x hx; exact hp p q x _ hp1 hp2 heq) (fun x hx => by obtain ⟨p, hp1, hp2⟩ := t2 x hx; exact hp q p _ x hp1 heq hp2)
          (fun x hx hbit => by
            have := bit_bef (by rw [← bitOf_eq]; exact hbit)
            rw [hei] at this
            exact hcl.bef this hdl')
          (fun x hx hbit => by
            obtain ⟨p, hp1, hp2⟩ := t2 x hx
            have hb := bit_bef (by rw [← bitOf_eq]; exact hbit)
            cases hLx : listL listed x.i with
            | false => rfl
            | true =>
              have := hcl.bef hb (fun o' h1 e he => hcl _ o' hLx h1 e he)
              rw [hei, hLi] at this
              cases this)
          (hf _ (List.mem_of_getElem? heq)) hS (fun _ _ => trivial)
        rwa [← hsplit] at this
      rw [heo] at hex
      refine op1_wp (kt := fun x => x = stS (listL (listed.setIfInBounds (b + q) true)) ents st0) (kf := fun x => x = stS (listL (listed.setIfInBounds (b + q) true)) ents st0) hΓ hok ho hr hex ?_ ?_ <;>
      · intro st' a' w' hr' hst
        subst hst
        refine ih _ _ _ (by simpa using hsz) (next _ hin hLi) ?_
        have hcl' : Closed ops.toList (listL (listed.setIfInBounds (b + q) true)) := by
          intro j o' hj ho' e he
          rw [listL_set (by omega)] at hj ⊢
          by_cases h1 : e = b + q
          · rw [if_pos h1]
          · rw [if_neg h1]
            by_cases h2 : j = b + q
            · subst h2
              exact hdl' o' ho' e he
            · rw [if_neg h2] at hj
              exact hcl j o' hj ho' e he
        have hlo' : ∀ j, j < b → listL (listed.setIfInBounds (b + q) true) j = true := fun j hj => by
          rw [listL_set (by omega)]
          split
          · rfl
          · exact hlo j hj
        have hhi' : ∀ j, j < ops.size → b + ents.length ≤ j → listL (listed.setIfInBounds (b + q) true) j = false := fun j hj hje => by
          rw [listL_set (by omega), if_neg (by omega)]
          exact hhi j hj hje
        by_cases hall : ∃ j, b ≤ j ∧ j < b + ents.length ∧ listL (listed.setIfInBounds (b + q) true) j = false
        · exact .mid b lens st0 ents hsz' hi hrun hp hf hlo' hhi' hcl' hall hcut hr' hk hc
        · have hfull : ∀ j, b ≤ j → j < b + ents.length → listL (listed.setIfInBounds (b + q) true) j = true := fun j h1 h2 => by
            cases hL : listL (listed.setIfInBounds (b + q) true) j with
            | true => rfl
            | false => exact absurd ⟨j, h1, h2, hL⟩ hall
          rw [stS_all (fun e he => by
            obtain ⟨p, hp1, hp2⟩ := List.mem_iff_getElem.1 he
            have := hi p e (by rw [← hp2]; exact List.getElem?_eq_getElem hp1)
            rw [this]
            exact hfull _ (by omega) (by omega))] at hr'
          refine .cut (b + ents.length) lens _ hsz' (fun j hj => ⟨fun hL => ?_, fun hlt => ?_⟩) hr' hk hc
          · rcases Nat.lt_or_ge j (b + ents.length) with h1 | h1
            · exact h1
            · rw [hhi' j hj h1] at hL; cases hL
          · rcases Nat.lt_or_ge j b with h1 | h1
            · exact hlo' j h1
            · exact hfull j h1 hlt
    cases h with
    | mid b lens st0 ents hsz' hi hrun hp hf hlo hhi hcl hun hcut hr hk hc => exact midcase b lens st0 ents hsz' hi hrun hp hf hlo hhi hcl hun hcut hr hk hc
    | cut b lens st hb hL hr hk hc =>
      have hcl : Closed ops.toList (listL listed) := by
        intro j o' hj ho' e he
        have hjn : j < ops.size := by have := (List.getElem?_eq_some_iff.1 ho').1; simpa using this
        have := depsOk_ok hdeps j o' ho' e he
        have hjb := (hL j hjn).1 hj
        exact (hL e (by omega)).2 (by omega)
      cases lens with
      | nil =>
        have hbn : b = ops.size := by
          rcases Nat.lt_or_ge b ops.size with h1 | h1
          · exfalso
            have : ops.toList.drop b ≠ [] := by simp; omega
            cases hd : ops.toList.drop b with
            | nil => exact this hd
            | cons _ _ => rw [hd] at hk; exact hk
          · omega
        have hdrop : ops.toList.drop b = [] := by rw [hbn]; simp
        rw [hdrop] at hk
        refine ⟨fun _ => hQ _ _ _ hr hk, fun i hir => ?_⟩
        obtain ⟨o, ho, hLi, _⟩ := (mem_ready hsz).1 hir
        have hin : i < ops.size := (Array.getElem?_eq_some_iff.1 ho).1
        rw [(hL i hin).2 (by omega)] at hLi
        cases hLi
      | cons n lens =>
        rw [cutOk, Bool.and_eq_true] at hc
        obtain ⟨hc1, hc2⟩ := hc
        have hcut : ∀ i, i < ops.size → b + n ≤ i → lowAll ((befs ops.toList []).getD i 0) (b + n) = true := fun i hi hbi => by
          have := List.all_eq_true.1 hc1 i (by simpa using hi)
          rw [Bool.or_eq_true] at this
          rcases this with h1 | h1
          · have := Nat.le_of_ble_eq_true h1; omega
          · exact h1
        match n, hk with
        | 0, hk => exact hk.elim
        | 1, hk =>
          cases hd : ops.toList.drop b with
          | nil => rw [hd] at hk; exact hk.elim
          | cons o r =>
            rw [hd] at hk
            have hob : ops[b]? = some o := by
              have : (ops.toList.drop b)[0]? = some o := by rw [hd]; rfl
              simpa using this
            have hbn : b < ops.size := (Array.getElem?_eq_some_iff.1 hob).1
            have hr1 : r = ops.toList.drop (b + 1) := by
              have : (ops.toList.drop b).drop 1 = r := by rw [hd]; rfl
              rw [← this, List.drop_drop]
            have hLb : listL listed b = false := by
              cases h1 : listL listed b with
              | false => rfl
              | true => exact absurd ((hL b hbn).1 h1) (Nat.lt_irrefl _)
            refine ⟨fun hnil => absurd hnil (prog ⟨b, hbn, hLb⟩), fun i hir => ?_⟩
            obtain ⟨o', ho, hLi, hdl⟩ := (mem_ready hsz).1 hir
            have hin : i < ops.size := (Array.getElem?_eq_some_iff.1 ho).1
            have hib : i = b := by
              rcases Nat.lt_or_ge i (b + 1) with h1 | h1
              · rcases Nat.lt_or_ge i b with h2 | h2
                · rw [(hL i hin).2 h2] at hLi; cases hLi
                · omega
              · have h2 := lowAll_ok (hcut i hin h1) (Nat.lt_succ_self b)
                have := hcl.bef (bit_bef h2) (fun o2 h3 e he => by
                  have : ops.toList[i]? = some o' := by simpa using ho
                  rw [this] at h3
                  cases h3
                  exact hdl e he)
                rw [hLb] at this
                cases this
            subst hib
            have go : ∀ st' a' w', Rep Γ E st' a' w' → regD Γ ops (befs ops.toList []) lens (i + 1) r st' k → wpAnyIn (FR rd) 0 Γ.P .any ops Q fuel (listed.setIfInBounds i true) a' w' := by
              intro st' a' w' hr' hk'
              refine ih _ _ _ (by simpa using hsz) (next _ hin hLi) (.cut (i + 1) lens st' (by omega) (fun j hj => ?_) hr' (by rw [← hr1]; exact hk') hc2)
              rw [listL_set (by omega)]
              by_cases h1 : j = i
              · subst h1; simp
              · rw [if_neg h1, hL j hj]; omega
            exact op1_wp (kt := fun st2 => partB ops.toList i o.dst st2 fun st3 => regD Γ ops (befs ops.toList []) lens (i + 1) r st3 k) (kf := fun st3 => regD Γ ops (befs ops.toList []) lens (i + 1) r st3 k) hΓ hok hob hr hk (fun st' a' w' hr' hk' => go st' a' w' hr' (partB_ok hk')) go
        | m + 2, hk =>
          have hk : (match Nat.ble (m + 2) (ops.toList.drop b).length with
              | true => segW Γ ops (befs ops.toList []) ((ops.toList.drop b).take (m + 2)) b (preKill Γ ((ops.toList.drop b).take (m + 2)) st) [] fun st' => regD Γ ops (befs ops.toList []) lens (b + (m + 2)) ((ops.toList.drop b).drop (m + 2)) st' k
              | false => False) := hk
          split at hk
          case h_2 => exact hk.elim
          rename_i hlen
          have hlen := Nat.le_of_ble_eq_true hlen
          simp at hlen
          obtain ⟨ents, e1, e2, e3, e4, _, e6⟩ := segW_run _ b _ [] _ (fun j o hj => by
            rw [List.getElem?_take] at hj
            split at hj
            · rw [List.getElem?_drop] at hj
              simpa using hj
            · cases hj) hk
          have hel : ents.length = m + 2 := by rw [e1]; simp; omega
          have hLfalse : ∀ i, i < ops.size → b ≤ i → listL listed i = false := fun i hi hbi => by
            cases h1 : listL listed i with
            | false => rfl
            | true => have := (hL i hi).1 h1; omega
          rw [List.drop_drop] at e4
          refine midcase b lens (preKill Γ ((ops.toList.drop b).take (m + 2)) st) ents (by omega) e2 e3 e6 (fun e he f hf => ?_) (fun i hi => (hL i (by omega)).2 hi) (fun i hi hbi => hLfalse i hi (by omega)) hcl ⟨b, Nat.le_refl _, by omega, hLfalse b (by omega) (Nat.le_refl _)⟩ (by rw [hel]; exact hcut) ?_ (by rw [hel]; exact e4) (by rw [hel]; exact hc2)
          · refine preKill_NF (o := e.o) ?_ hf
            obtain ⟨q, hq1, hq2⟩ := List.mem_iff_getElem.1 he
            have heq : ents[q]? = some e := by rw [← hq2]; exact List.getElem?_eq_getElem hq1
            have hsplit : ents = ents.take q ++ e :: ents.drop (q + 1) := by
              rw [← hq2, ← List.drop_eq_getElem_cons hq1, List.take_append_drop]
            have hF : Fact Γ ops e _ := run_at (l1 := ents.take q) (l2 := ents.drop (q + 1)) (by rw [← hsplit]; exact e3)
            have := hF.ho
            rw [e2 q e heq] at this
            refine List.mem_of_getElem? (i := q) ?_
            rw [List.getElem?_take, if_pos (by omega), List.getElem?_drop]
            simpa using this
          · rw [stS_none (fun e he => by
              obtain ⟨q, hq1, hq2⟩ := List.mem_iff_getElem.1 he
              rw [e2 q e (by rw [← hq2]; exact List.getElem?_eq_getElem hq1)]
              exact hLfalse _ (by omega) (by omega))]
            exact hr.preKill

end

def eqL : List Nat → List Nat → Bool
  | [], [] => true
  | a :: r, b :: s => Nat.beq a b && eqL r s
  | _, _ => false
theorem eqL_ok : ∀ {l m : List Nat}, eqL l m = true → l = m
  | [], [], _ => rfl
  | [], _ :: _, h => by cases h
  | _ :: _, [], h => by cases h
  | a :: r, b :: s, h => by
    rw [eqL, Bool.and_eq_true] at h
    rw [Nat.eq_of_beq_eq_true h.1, eqL_ok h.2]

/-- A region whose order is drawn: its segments, in the text's order. ms: what must come before each operation, as bits; lens: the segments' lengths. -/
theorem AWP.draw {Γ : Ctx} {st : St} {Qa : Out → Prop} (hΓ : Γ.Ok) (hP : Γ.P.follows .mixedOrders = true) {id : Nat} {ops : Array Oper} (ms lens : List Nat) (hms : eqL (befs ops.toList []) ms = true) (hok : drawOk Γ.N ops lens = true)
    (h : regD Γ ops ms lens 0 ops.toList st fun st => Qa (.normal st)) : AWP Γ (.region id ops true) st Qa := by
  refine ⟨fun rd hrd E a w Q hr hk => ?_⟩
  rw [← eqL_ok hms] at h
  rw [drawOk, Bool.and_eq_true, Bool.and_eq_true] at hok
  refine wpIn_region_any hP ?_
  obtain ⟨β, hr⟩ := hr
  refine here_ok (E := E) (k := fun st => Qa (.normal st)) hΓ hok.1 hok.2.1 (fun st' a' w' h1 h2 => hk (.normal st') a' w' h1 h2) ops.size _ _ _ (by simp) ?_ (.cut 0 lens st (Nat.zero_le _) (fun i hi => ?_) ⟨β, hr.drew (w.drawn + 1)⟩ (by simpa using h) hok.2.2)
  · unfold cnt
    exact Nat.le_trans List.countP_le_length (by simp)
  · simp [listL, Array.getD, hi]

end Go.Vai

/- Scopes with a label to which the run jumps back. No condition. -/
namespace Go.Vai

section
variable {P : Program} {b : Frame} {a : Act} {k : List Item} {cs : List Frame} {w : World}
theorem stepR_scope {c : Code} : step P (lone (b.atR a (.code (.scope c) :: k)) cs w) = .next (lone (b.atR a (.code c :: .inScope c :: k)) cs w) :=
  step_lone_go (by simp [stepG, stepG.exec, Frame.atR])
theorem stepR_inScope {c : Code} : step P (lone (b.atR a (.inScope c :: k)) cs w) = .next (lone (b.atR a k) cs w) :=
  step_lone_go (by simp [stepG, stepG.exec, Frame.atR])
end

def jumpQ (l : Nat) (J : St → Prop) (Qa : Out → Prop) : Out → Prop
  | .normal st => Qa (.normal st)
  | .exit i st => Qa (.exit i st)
  | .ret st => Qa (.ret st)
  | .goto l' st => (match Nat.beq l' l with | true => J st | false => False)

theorem AWP.scope {Γ : Ctx} {st : St} {Qa : Out → Prop} {c rest : Code} (l : Nat) (J : Nat → St → Prop) (hf : findLabel c l = some rest)
    (first : AWP Γ c st (jumpQ l (fun st => ∃ m, J m st) Qa)) (pass : ∀ m st, J m st → AWP Γ rest st (jumpQ l (fun st' => ∃ m', m' < m ∧ J m' st') Qa)) : AWP Γ (.scope c) st Qa := by
  refine ⟨fun rd hrd E a w Q hr hk => ?_⟩
  intro b k cs hro hb hroom
  have hg : gotoIn l (.inScope c :: k) = some (.code rest :: .inScope c :: k) := by simp [gotoIn, hf]
  have key : ∀ n st a w, J n st → Rep Γ E st a w → ∃ e a' w', Q e a' w' ∧ ArrivesIn (Machine.fenced Γ.P (FR rd)) Γ.P (lone (b.atR a (.code rest :: .inScope c :: k)) cs w) b k cs e a' w' := by
    intro n
    induction n using Nat.strongRecOn with
    | _ n ih =>
      intro st a w hJ hr
      obtain ⟨e, a₁, w₁, hq, harr⟩ := (pass n st hJ).wp rd hrd E a w (fun e a' w' => match e with | .goto l' => l' = l ∧ ∃ m' st', m' < n ∧ J m' st' ∧ Rep Γ E st' a' w' | e => Q e a' w') hr (fun o a' w' h1 h2 => by
        cases o with
        | normal st' => exact hk (.normal st') a' w' h1 h2
        | exit i st' => exact hk (.exit i st') a' w' h1 h2
        | ret st' => exact hk (.ret st') a' w' h1 h2
        | goto l' st' =>
          have h2 : (match Nat.beq l' l with | true => ∃ m', m' < n ∧ J m' st' | false => False) := h2
          split at h2
          · rename_i hb
            obtain ⟨m', h3, h4⟩ := h2
            exact ⟨Nat.eq_of_beq_eq_true hb, m', st', h3, h4, h1⟩
          · exact h2.elim) b (.inScope c :: k) cs hro hb hroom
      cases e with
      | normal => exact ⟨.normal, a₁, w₁, hq, StepsIn.trans harr (.one (fenced_calm hb hroom rfl) stepR_inScope)⟩
      | exit id => exact ⟨.exit id, a₁, w₁, hq, fun k' hk => harr.1 k' (by simp [exitTo, hk]), fun hrd hk => harr.2 hrd (by simp [exitTo, hk])⟩
      | goto l' =>
        obtain ⟨rfl, m', st', hlt, hJ', hr'⟩ := hq
        obtain ⟨e₂, a₂, w₂, hq₂, harr₂⟩ := ih m' hlt st' a₁ w₁ hJ' hr'
        exact ⟨e₂, a₂, w₂, hq₂, .of_steps (harr.1 _ hg) harr₂⟩
      | ret => exact ⟨_, a₁, w₁, hq, harr⟩
      | panic ch => exact ⟨_, a₁, w₁, hq, harr⟩
      | outgrown => exact ⟨_, a₁, w₁, hq, harr⟩
  obtain ⟨e, a₁, w₁, hq, harr⟩ := first.wp rd hrd E a w (fun e a' w' => match e with | .goto l' => l' = l ∧ ∃ m' st', J m' st' ∧ Rep Γ E st' a' w' | e => Q e a' w') hr (fun o a' w' h1 h2 => by
    cases o with
    | normal st' => exact hk (.normal st') a' w' h1 h2
    | exit i st' => exact hk (.exit i st') a' w' h1 h2
    | ret st' => exact hk (.ret st') a' w' h1 h2
    | goto l' st' =>
      have h2 : (match Nat.beq l' l with | true => ∃ m', J m' st' | false => False) := h2
      split at h2
      · rename_i hb
        obtain ⟨m', h4⟩ := h2
        exact ⟨Nat.eq_of_beq_eq_true hb, m', st', h4, h1⟩
      · exact h2.elim) b (.inScope c :: k) cs hro hb hroom
  have h0 : StepsIn (Machine.fenced Γ.P (FR rd)) Γ.P (lone (b.atR a (.code (.scope c) :: k)) cs w) (lone (b.atR a (.code c :: .inScope c :: k)) cs w) := .one (fenced_calm hb hroom rfl) stepR_scope
  cases e with
  | normal => exact ⟨.normal, a₁, w₁, hq, .of_steps h0 (StepsIn.trans harr (.one (fenced_calm hb hroom rfl) stepR_inScope))⟩
  | exit id => exact ⟨.exit id, a₁, w₁, hq, .of_steps h0 ⟨fun k' hk => harr.1 k' (by simp [exitTo, hk]), fun hrd hk => harr.2 hrd (by simp [exitTo, hk])⟩⟩
  | goto l' =>
    obtain ⟨rfl, m', st', hJ', hr'⟩ := hq
    obtain ⟨e₂, a₂, w₂, hq₂, harr₂⟩ := key m' st' a₁ w₁ hJ' hr'
    exact ⟨e₂, a₂, w₂, hq₂, .of_steps (StepsIn.trans h0 (harr.1 _ hg)) harr₂⟩
  | ret => exact ⟨_, a₁, w₁, hq, .of_steps h0 harr⟩
  | panic ch => exact ⟨_, a₁, w₁, hq, .of_steps h0 harr⟩
  | outgrown => exact ⟨_, a₁, w₁, hq, .of_steps h0 harr⟩

/-- The same, where the way to the label is walked alone. -/
theorem AWP.scope1 {Γ : Ctx} {st : St} {Qa : Out → Prop} {c B : Code} (l : Nat) (J : Nat → St → Prop) (hf : findLabel c l = some (.seq .skip B))
    (lead : ∀ Qb : Out → Prop, (∀ m st, J m st → AWP Γ B st Qb) → AWP Γ c st Qb) (pass : ∀ m st, J m st → AWP Γ B st (jumpQ l (fun st' => ∃ m', m' < m ∧ J m' st') Qa)) : AWP Γ (.scope c) st Qa :=
  AWP.scope l J hf (lead _ fun m st h => (pass m st h).mono fun o h1 => by
    cases o with
    | goto l' st' =>
      have h1 : (match Nat.beq l' l with | true => ∃ m', m' < m ∧ J m' st' | false => False) := h1
      show (match Nat.beq l' l with | true => ∃ m, J m st' | false => False)
      cases hb : Nat.beq l' l with
      | true => rw [hb] at h1; obtain ⟨m', _, h2⟩ := h1; exact ⟨m', h2⟩
      | false => rw [hb] at h1; exact h1.elim
    | _ => exact h1) (fun m st h => AWP.seq (AWP.skip (pass m st h)))

theorem AWP.scope2 {Γ : Ctx} {st : St} {Qa : Out → Prop} {B : Code} {l : Nat} (J : Nat → St → Prop) (m : Nat) (h0 : J m st) (pass : ∀ m st, J m st → AWP Γ B st (jumpQ l (fun st' => ∃ m', m' < m ∧ J m' st') Qa)) : AWP Γ (.scope (.seq (.label l) B)) st Qa :=
  AWP.scope1 l J (by simp [findLabel]) (fun Qb hb => AWP.seq (AWP.label (hb m st h0))) pass

def endQ (k : St → Prop) : Out → Prop
  | .normal st => k st
  | _ => False
theorem AWP.scope3 {Γ : Ctx} {st : St} {Qa : Out → Prop} {A B : Code} {l : Nat} (J : Nat → St → Prop) (hA : findLabel A l = none) (lead : AWP Γ A st (endQ fun st => ∃ m, J m st))
    (pass : ∀ m st, J m st → AWP Γ B st (jumpQ l (fun st' => ∃ m', m' < m ∧ J m' st') Qa)) : AWP Γ (.scope (.seq A (.seq (.label l) B))) st Qa :=
  AWP.scope1 l J (by simp [findLabel, hA]) (fun Qb hb => AWP.seq (lead.mono fun o h => by
    cases o with
    | normal st' => obtain ⟨m, hm⟩ := h; exact AWP.seq (AWP.label (hb m st' hm))
    | _ => exact h.elim)) pass

end Go.Vai
