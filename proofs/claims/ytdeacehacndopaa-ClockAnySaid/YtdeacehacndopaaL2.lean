/- A statement whose order Go leaves open: one order serves for all. The check of an order by numbers, and the steps of a walk in such an order. A statement whose order Go leaves open, walked along a tree: where makers of memory, or stores, may come in several orders, each order is walked. No conditions beyond those that the theorems name. Records put together, arrays, and answers that lie in a variable. No conditions beyond those that each theorem names. -/
import Derived.Test.YtdeacehacndopaaL1
import Derived.Orders
namespace Go.Proofs.Ytdeacehacndopaa
open Go.RowKit

section
variable {P : Program} {C : Cx} {ops : Array Oper} {Q : Exit → Act → World → Prop}

/-- j must be ahead of i -/
inductive Anc (ops : Array Oper) : Nat → Nat → Prop
  | one {i : Nat} {o : Oper} {e : Edge} (h : ops[i]? = some o) (he : e ∈ o.after) (hb : Region.binds .any e = true) : Anc ops i e.on
  | more {i : Nat} {o : Oper} {e : Edge} {k : Nat} (h : ops[i]? = some o) (he : e ∈ o.after) (hb : Region.binds .any e = true) (hk : Anc ops e.on k) : Anc ops i k

def Closed (ops : Array Oper) (listed : Array Bool) : Prop :=
  ∀ i o, ops[i]? = some o → listed.getD i false = true → ∀ e ∈ o.after, Region.binds .any e = true → listed.getD e.on false = true

theorem Anc.listed {listed : Array Bool} (hc : Closed ops listed) {i k : Nat} (h : Anc ops i k) :
    (∀ o, ops[i]? = some o → ∀ e ∈ o.after, Region.binds .any e = true → listed.getD e.on false = true) → listed.getD k false = true := by
  induction h with
  | one h he hb => intro hp; exact hp _ h _ he hb
  | more h he hb hk ih => intro hp; exact ih fun o ho => hc _ _ ho (hp _ h _ he hb)

/-- what an operation answers, or that it is passed over -/
def OpW (P : Program) (C : Cx) (ops : Array Oper) (E : Env) (W : List Ent) (R : List RF) (o : Oper) (v : Value) : Prop :=
  ∀ a w, St C E W R a w → (Region.wanted o (yielded ops a.tmps) = true ∧ ResX P ((execOp a.eval o).run P w) (fun v' w' => v' = v ∧ Ext w w')) ∨ (Region.wanted o (yielded ops a.tmps) = false ∧ v = undef)

/-- one order of the operations, up to those that come behind all of them -/
def Can (P : Program) (C : Cx) (ops : Array Oper) (Q : Exit → Act → World → Prop) (m : Nat) (ws : List Nat) : List Nat → Env → List Ent → List RF → Prop
  | [], E, W, R => GoL P C ops E W R (ops.toList.drop m) Q
  | i :: r, E, W, R => ∃ o d, ops[i]? = some o ∧ o.dst = some d ∧ Nat.blt d C.n = true ∧
      ((ws.contains i = false ∧ ∃ v, OpW P C ops E W R o v ∧ Can P C ops Q m ws r ((d, v) :: E) W R) ∨
       (ws.contains i = true ∧ Wn ops E o ∧ ∀ a w, St C E W R a w → ResX P ((execOp a.eval o).run P w) fun v w' => ∃ W' R', Holds C W' R' w' ∧ Ext w w' ∧ Can P C ops Q m ws r ((d, v) :: E) W' R'))

/-- the check of an order: by numbers alone -/
structure Fit (ops : Array Oper) (m : Nat) (ws ord : List Nat) : Prop where
  perm : ∀ i, i < m → i ∈ ord
  lt : ∀ i ∈ ord, i < m
  nodup : ord.Nodup
  le : m ≤ ops.size
  dst : ∀ i ∈ ord, ∀ j ∈ ord, i ≠ j → ∀ oi oj d, ops[i]? = some oi → ops[j]? = some oj → oi.dst = some d → oj.dst ≠ some d
  look : ∀ l i r, ord = l ++ i :: r → ∀ j ∈ ord, j ≠ i → ∀ oi oj d, ops[i]? = some oi → ops[j]? = some oj → oj.dst = some d → d ∈ oi.looksAt ops → (j ∈ l ∧ Anc ops i j) ∨ (j ∉ l ∧ Anc ops j i)
  self : ∀ i ∈ ord, ∀ oi d, ops[i]? = some oi → oi.dst = some d → d ∉ oi.looksAt ops
  wc : ∀ l i r, ord = l ++ i :: r → ∀ k ∈ l, ws.contains k = true → Anc ops i k
  tail : ∀ t, m ≤ t → t < ops.size → ∀ j, j < t → Anc ops t j
  edges : ∀ (i : Nat) (o : Oper) e, ops[i]? = some o → e ∈ o.after → Region.binds .any e = true → e.on < i
  noSel : ∀ (i : Nat) (o : Oper) cs b, ops[i]? = some o → o.op ≠ .select cs b

theorem fill_act {n : Nat} {E : Env} {a : Act} (hs : a.tmps.size = n) (hk : ∀ t v, look E t = some v → t < n) :
    ∃ a', FrE n E a' ∧ ∀ t, (∀ u, look E t = some u → a.tmps[t]? = some u) → a'.tmps[t]? = a.tmps[t]? := by
  refine ⟨{ tmps := Array.ofFn (n := n) fun t => (look E t).getD (a.tmps.getD t undef), defers := [] }, ⟨by simp, rfl, fun t v h => ?_⟩, fun t h => ?_⟩
  · have hlt := hk t v h
    simp [hlt, h]
  · simp only [Array.getElem?_ofFn]
    by_cases hlt : t < n
    · simp only [hlt, dif_pos]
      cases hl : look E t with
      | none => simp [hs, hlt]
      | some u => rw [h u hl]; simp
    · simp only [hlt, dif_neg, not_false_eq_true]
      rw [Array.getElem?_eq_none (by omega)]

theorem eval_same {a a' : Act} {o : Oper} (h : ∀ t ∈ o.looksAt ops, a'.tmps[t]? = a.tmps[t]?) (hsel : ∀ cs b, o.op ≠ .select cs b) :
    execOp a'.eval o = execOp a.eval o ∧ Region.wanted o (yielded ops a'.tmps) = Region.wanted o (yielded ops a.tmps) := by
  constructor
  · refine execOp_congr o hsel fun x hx => ?_
    cases x with
    | tmp t =>
      have := h t (List.mem_append_left _ (List.mem_filterMap.2 ⟨.tmp t, by simpa using hx, rfl⟩))
      simp [Act.eval, Array.getD_eq_getD_getElem?, this]
    | _ => rfl
  · unfold Region.wanted
    cases hg : o.guard with
    | none => rfl
    | some gw =>
      obtain ⟨g, wt⟩ := gw
      have : yielded ops a'.tmps g = yielded ops a.tmps g := by
        unfold yielded
        cases ht : (ops[g]?).bind (·.dst) with
        | none => rfl
        | some t =>
          have := h t (by simp [Oper.looksAt, hg, ht])
          simp [this]
      simp only [this]

/-- an operation of the order that has not been carried out yet, its answer known -/
structure Pend (P : Program) (C : Cx) (ops : Array Oper) (ord pd : List Nat) (E : Env) (a : Act) (w : World) (i : Nat) : Prop where
  ex : ∃ o d v E' W' R', ops[i]? = some o ∧ o.dst = some d ∧ look E d = some v ∧ OpW P C ops E' W' R' o v ∧ Holds C W' R' w ∧
    (∀ t u, look E' t = some u → t < C.n) ∧ (∀ t ∈ o.looksAt ops, ∀ u, look E' t = some u → (look E t = some u ∧ ∀ k ∈ pd, ∀ ok : Oper, ops[k]? = some ok → ok.dst = some t → Anc ops i k) ∨ (a.tmps[t]? = some u ∧ ∃ j ∈ ord, ∃ oj : Oper, ops[j]? = some oj ∧ oj.dst = some t ∧ Anc ops j i))

structure Inv (P : Program) (C : Cx) (ops : Array Oper) (m : Nat) (ord done r : List Nat) (pd : List Nat) (listed : Array Bool) (E : Env) (W : List Ent) (R : List RF) (a : Act) (w : World) : Prop where
  size : listed.size = ops.size
  closed : Closed ops listed
  parts : ord = done ++ r
  fin : ∀ i ∈ done, i ∈ pd ∨ listed.getD i true = true
  pend : ∀ i ∈ pd, i ∈ done ∧ listed.getD i true = false ∧ Pend P C ops ord pd E a w i
  rest : ∀ i ∈ r, listed.getD i true = false
  tail : ∀ t, m ≤ t → t < ops.size → listed.getD t true = false
  asz : a.tmps.size = C.n
  dfr : a.defers = []
  keys : ∀ t v, look E t = some v → t < C.n
  val : ∀ t v, look E t = some v → (∀ i ∈ pd, ∀ o : Oper, ops[i]? = some o → o.dst ≠ some t) → a.tmps[t]? = some v
  mem : Holds C W R w

theorem getD_tf {listed : Array Bool} {i : Nat} (h : listed.getD i true = false) : listed.getD i false = false := by
  rcases Nat.lt_or_ge i listed.size with h' | h'
  · simp [h'] at h ⊢; exact h
  · simp [Array.getElem?_eq_none h'] at h
theorem getD_ft {listed : Array Bool} {i : Nat} (hi : i < listed.size) (h : listed.getD i false = false) : listed.getD i true = false := by
  simp [hi] at h ⊢; exact h

theorem getD_set_true' {listed : Array Bool} {i j : Nat} (h : listed.getD j true = true) : (listed.setIfInBounds i true).getD j true = true := by
  by_cases hij : i = j
  · subst hij
    simp only [Array.getD_eq_getD_getElem?, Array.getElem?_setIfInBounds]
    by_cases h' : i < listed.size <;> simp [h']
  · rw [getD_set_ne true hij]; exact h

theorem Pend.ext {ord pd : List Nat} {E : Env} {a : Act} {w w' : World} {i : Nat} (h : Pend P C ops ord pd E a w i) (he : Ext w w') : Pend P C ops ord pd E a w' i := by
  obtain ⟨o, d, v, E', W', R', h1, h2, h3, h4, h5, h6, h7⟩ := h.ex
  exact ⟨o, d, v, E', W', R', h1, h2, h3, h4, h5.ext he, h6, h7⟩

theorem look_cons_ne {E : Env} {s t : Nat} {v : Value} (h : t ≠ s) : look ((s, v) :: E) t = look E t := by
  have : Nat.beq t s = false := by
    cases hb : Nat.beq t s with
    | false => rfl
    | true => exact absurd (Nat.eq_of_beq_eq_true hb) h
  simp [look, this]
theorem look_cons_same {E : Env} {s : Nat} {v : Value} : look ((s, v) :: E) s = some v := by simp [look]

/-- one more of the order is laid by: its answer is known -/
theorem Inv.absorb {m : Nat} {ws ord done r pd : List Nat} {i : Nat} {listed : Array Bool} {E : Env} {W : List Ent} {R : List RF} {a : Act} {w : World} (hF : Fit ops m ws ord)
    (h : Inv P C ops m ord done (i :: r) pd listed E W R a w) {o : Oper} {d : Nat} {v : Value} (ho : ops[i]? = some o) (hd : o.dst = some d) (hn : Nat.blt d C.n = true) (hv : OpW P C ops E W R o v) :
    Inv P C ops m ord (done ++ [i]) r (i :: pd) listed ((d, v) :: E) W R a w := by
  have hio : i ∈ ord := by rw [h.parts]; simp
  have hpd : ∀ j ∈ pd, j ∈ ord := fun j hj => by rw [h.parts]; exact List.mem_append_left _ (h.pend j hj).1
  have hnd : ∀ j ∈ pd, j ≠ i := fun j hj e => by
    subst e
    have := hF.nodup
    rw [h.parts, List.nodup_append] at this
    exact this.2.2 j (h.pend j hj).1 j (by simp) rfl
  refine ⟨h.size, h.closed, by rw [h.parts]; simp, ?_, ?_, fun j hj => h.rest j (List.mem_cons_of_mem _ hj), h.tail, h.asz, h.dfr, ?_, ?_, h.mem⟩
  · intro j hj
    rcases List.mem_append.1 hj with hj | hj
    · exact (h.fin j hj).imp (List.mem_cons_of_mem _) id
    · simp at hj; subst hj; exact .inl (.head _)
  · intro j hj
    rcases List.mem_cons.1 hj with rfl | hj
    · refine ⟨by simp, h.rest j (.head _), ⟨o, d, v, E, W, R, ho, hd, look_cons_same, hv, h.mem, h.keys, fun t ht u hu => ?_⟩⟩
      by_cases e : t = d
      · -- it looks at its own slot: then it would stand behind itself
        subst e
        exact absurd ht (hF.self j hio o t ho hd)
      · refine .inl ⟨by rw [look_cons_ne e]; exact hu, fun k hk ok hok hdk => ?_⟩
        rcases List.mem_cons.1 hk with rfl | hk
        · have : ok = o := Option.some.inj (hok.symm.trans ho)
          subst this
          rw [hd] at hdk
          exact absurd (Option.some.inj hdk).symm e
        · rcases hF.look done j r h.parts k (hpd k hk) (hnd k hk) o ok t ho hok hdk ht with ⟨_, h5⟩ | ⟨h5, _⟩
          · exact h5
          · exact absurd (h.pend k hk).1 h5
    · obtain ⟨h1, h2, oj, dj, vj, E', W', R', g1, g2, g3, g4, g5, g6, g7⟩ := h.pend j hj
      have hne := hnd j hj
      have hdd : dj ≠ d := fun e => hF.dst i hio j (hpd j hj) (Ne.symm hne) o oj d ho g1 hd (by rw [g2, e])
      refine ⟨List.mem_append_left _ h1, h2, oj, dj, vj, E', W', R', g1, g2, by rw [look_cons_ne hdd]; exact g3, g4, g5, g6, fun t ht u hu => ?_⟩
      rcases g7 t ht u hu with ⟨hA, hA2⟩ | hB
      · by_cases e : t = d
        · subst e
          obtain ⟨l1, l2, hl⟩ := List.append_of_mem h1
          rcases hF.look l1 j (l2 ++ i :: r) (by rw [h.parts, hl]; simp) i hio (Ne.symm hne) oj o t g1 ho hd ht with ⟨this, _⟩ | ⟨_, h5⟩
          · have hnd2 := hF.nodup
            rw [h.parts, List.nodup_append] at hnd2
            exact absurd rfl (hnd2.2.2 i (by rw [hl]; exact List.mem_append_left _ this) i (by simp))
          · refine .inr ⟨h.val t u hA fun k hk ok hok hdk => ?_, i, hio, o, ho, hd, h5⟩
            exact hF.dst i hio k (hpd k hk) (Ne.symm (hnd k hk)) o ok t ho hok hd hdk
        · refine .inl ⟨by rw [look_cons_ne e]; exact hA, fun k hk ok hok hdk => ?_⟩
          rcases List.mem_cons.1 hk with rfl | hk
          · have : ok = o := Option.some.inj (hok.symm.trans ho)
            subst this
            rw [hd] at hdk
            exact absurd (Option.some.inj hdk).symm e
          · exact hA2 k hk ok hok hdk
      · exact .inr hB
  · intro t u hu
    by_cases e : t = d
    · subst e; simp [Nat.blt] at hn; omega
    · rw [look_cons_ne e] at hu; exact h.keys t u hu
  · intro t u hu hp
    have e : t ≠ d := fun e => hp i (.head _) o ho (by rw [hd, e])
    rw [look_cons_ne e] at hu
    exact h.val t u hu fun j hj => hp j (List.mem_cons_of_mem _ hj)

theorem ready_spec {listed : Array Bool} {i : Nat} (h : i ∈ Region.ready .any ops listed) : listed.getD i true = false ∧ ∃ o, ops[i]? = some o ∧ ∀ e ∈ o.after, Region.binds .any e = true → listed.getD e.on false = true :=
  mem_ready.1 h

theorem Inv.anc {m : Nat} {ord done r pd : List Nat} {i k : Nat} {listed : Array Bool} {E : Env} {W : List Ent} {R : List RF} {a : Act} {w : World}
    (h : Inv P C ops m ord done r pd listed E W R a w) (hr : i ∈ Region.ready .any ops listed) (ha : Anc ops i k) : listed.getD k false = true := by
  obtain ⟨_, o, ho, hall⟩ := ready_spec hr
  exact ha.listed h.closed fun o' ho' => by
    have : o' = o := Option.some.inj (ho'.symm.trans ho)
    subst this
    exact hall

theorem closed_set {listed : Array Bool} {i : Nat} (hc : Closed ops listed) (hr : i ∈ Region.ready .any ops listed) : Closed ops (listed.setIfInBounds i true) := by
  obtain ⟨_, oi, hoi, hall⟩ := ready_spec hr
  intro j oj hj hl e he hb
  by_cases hij : i = j
  · subst hij
    have : oj = oi := Option.some.inj (hj.symm.trans hoi)
    subst this
    exact getD_set_true (hall e he hb)
  · rw [getD_set_ne false hij] at hl
    exact getD_set_true (hc j oj hj hl e he hb)

/-- the operation that comes next in the run, its answer known: it has been carried out -/
theorem Inv.exec {m : Nat} {ws ord done r pd : List Nat} {i : Nat} {listed : Array Bool} {E : Env} {W : List Ent} {R : List RF} {a : Act} {w : World} (hF : Fit ops m ws ord)
    (h : Inv P C ops m ord done r pd listed E W R a w) (hp : i ∈ pd) (hr : i ∈ Region.ready .any ops listed) {K : Act → World → Prop}
    (hK : ∀ a' w', Inv P C ops m ord done r (pd.filter (fun j => !(Nat.beq j i))) (listed.setIfInBounds i true) E W R a' w' → K a' w') : wpOp P ops Q i K a w := by
  obtain ⟨h1, h2, o, d, v, E', W', R', g1, g2, g3, g4, g5, g6, g7⟩ := h.pend i hp
  have hio : i ∈ ord := by rw [h.parts]; exact List.mem_append_left _ h1
  have hi : i < listed.size := by rw [h.size]; exact (Array.getElem?_eq_some_iff.1 g1).1
  have hlook : ∀ t ∈ o.looksAt ops, ∀ u, look E' t = some u → a.tmps[t]? = some u := by
    intro t ht u hu
    rcases g7 t ht u hu with ⟨hA, hA2⟩ | ⟨hB, _⟩
    · refine h.val t u hA fun j hj oj hoj hd => ?_
      by_cases hji : j = i
      · subst hji
        have : oj = o := Option.some.inj (hoj.symm.trans g1)
        subst this
        exact hF.self j hio oj t hoj hd ht
      · have := h.anc hr (hA2 j hj oj hoj hd)
        rw [getD_tf (h.pend j hj).2.1] at this
        cases this
    · exact hB
  obtain ⟨a', hfr, hsame⟩ := fill_act (E := E') h.asz g6
  obtain ⟨he, hw⟩ := eval_same (ops := ops) (a := a) (a' := a') (o := o) (fun t ht => hsame t fun u hu => hlook t ht u hu) (fun cs b => hF.noSel i o cs b g1)
  have hmemf : ∀ j, j ∈ pd.filter (fun j => !(Nat.beq j i)) ↔ j ∈ pd ∧ j ≠ i := by
    intro j
    simp only [List.mem_filter, Bool.not_eq_true']
    refine and_congr_right fun _ => ⟨fun hb e => by subst e; simp at hb, fun hne => ?_⟩
    exact beqF fun hb => hne (Nat.eq_of_beq_eq_true hb)
  have next : ∀ w', Ext w w' → Inv P C ops m ord done r (pd.filter (fun j => !(Nat.beq j i))) (listed.setIfInBounds i true) E W R (a.put o.dst v) w' := by
    intro w' hx
    refine ⟨by simp [h.size], closed_set h.closed hr, h.parts, ?_, ?_, ?_, ?_, by simp [g2, Act.put, h.asz], by rw [g2]; exact h.dfr, h.keys, ?_, h.mem.ext hx⟩
    · intro j hj
      by_cases hji : j = i
      · subst hji; right
        simp [hi]
      · rcases h.fin j hj with hj | hj
        · exact .inl ((hmemf j).2 ⟨hj, hji⟩)
        · exact .inr (getD_set_true' hj)
    · intro j hj
      obtain ⟨hj, hji⟩ := (hmemf j).1 hj
      obtain ⟨k1, k2, k3⟩ := h.pend j hj
      refine ⟨k1, by rw [getD_set_ne true (Ne.symm hji)]; exact k2, ?_⟩
      obtain ⟨oj, dj, vj, E', W1, R1, q1, q2, q3, q4, q5, q6, q7⟩ := (k3.ext hx).ex
      refine ⟨oj, dj, vj, E', W1, R1, q1, q2, q3, q4, q5, q6, fun t ht u hu => ?_⟩
      rcases q7 t ht u hu with ⟨hA, hA2⟩ | ⟨hB, j', hj', oj', hoj', hd', ha'⟩
      · exact .inl ⟨hA, fun k hk => hA2 k ((hmemf k).1 hk).1⟩
      · refine .inr ⟨?_, j', hj', oj', hoj', hd', ha'⟩
        rw [g2]
        simp only [Act.put, Array.getElem?_setIfInBounds]
        rw [if_neg]
        · exact hB
        · intro e
          subst e
          by_cases hji' : j' = i
          · subst hji'
            have := h.anc hr ha'
            rw [getD_tf k2] at this
            cases this
          · exact hF.dst i hio j' hj' (Ne.symm hji') o oj' d g1 hoj' g2 hd'
    · intro j hj
      have hji : j ≠ i := fun e => by
        subst e
        have := hF.nodup
        rw [h.parts, List.nodup_append] at this
        exact this.2.2 j h1 j hj rfl
      rw [getD_set_ne true (Ne.symm hji)]; exact h.rest j hj
    · intro t ht ht2
      have : t ≠ i := fun e => by have := hF.lt i hio; omega
      rw [getD_set_ne true (Ne.symm this)]; exact h.tail t ht ht2
    · intro t u hu hpn
      rw [g2]
      simp only [Act.put, Array.getElem?_setIfInBounds]
      by_cases e : d = t
      · subst e
        rw [g3] at hu; cases hu
        have := h.keys d v g3
        simp [h.asz, this]
      · rw [if_neg e]
        refine h.val t u hu fun j hj oj hoj hdj => ?_
        by_cases hji : j = i
        · subst hji
          have : oj = o := Option.some.inj (hoj.symm.trans g1)
          subst this
          rw [g2] at hdj
          exact e (Option.some.inj hdj)
        · exact hpn j ((hmemf j).2 ⟨hj, hji⟩) oj hoj hdj
  unfold wpOp
  simp only [g1]
  rcases g4 a' w ⟨hfr, g5⟩ with ⟨hwt, hres⟩ | ⟨hwt, rfl⟩
  · rw [hw] at hwt
    simp only [hwt, if_true]
    rw [he] at hres
    exact .inl (hres.wp fun v' w' ⟨hv, hx⟩ => by subst hv; exact hK _ _ (next w' hx))
  · rw [hw] at hwt
    simp only [hwt, Bool.false_eq_true, if_false]
    exact hK _ _ (next w (Keep.refl _ _))

/-- the operation that comes next in the run is the next of the order, and makes memory -/
theorem Inv.execW {m : Nat} {ws ord done r pd : List Nat} {i : Nat} {listed : Array Bool} {E : Env} {W : List Ent} {R : List RF} {a : Act} {w : World} (hF : Fit ops m ws ord)
    (h : Inv P C ops m ord done (i :: r) pd listed E W R a w) (hr : i ∈ Region.ready .any ops listed) {o : Oper} {d : Nat} (g1 : ops[i]? = some o) (g2 : o.dst = some d) (hn : Nat.blt d C.n = true)
    (hw : Wn ops E o) {Φ : Value → List Ent → List RF → Prop} (hx : ∀ a w, St C E W R a w → ResX P ((execOp a.eval o).run P w) fun v w' => ∃ W' R', Holds C W' R' w' ∧ Ext w w' ∧ Φ v W' R')
    {K : Act → World → Prop}
    (hK : ∀ v W' R' a' w', Φ v W' R' → Inv P C ops m ord (done ++ [i]) r pd (listed.setIfInBounds i true) ((d, v) :: E) W' R' a' w' → K a' w') : wpOp P ops Q i K a w := by
  have hio : i ∈ ord := by rw [h.parts]; simp
  have hnd : i ∉ done := fun hd => by
    have := hF.nodup
    rw [h.parts, List.nodup_append] at this
    exact this.2.2 i hd i (by simp) rfl
  have hnr : i ∉ r := fun hd => by
    have := hF.nodup
    rw [h.parts, List.nodup_append, List.nodup_cons] at this
    exact this.2.1.1 hd
  have hpi : ∀ j ∈ pd, j ≠ i := fun j hj e => by subst e; exact hnd (h.pend j hj).1
  have hi : i < listed.size := by rw [h.size]; exact (Array.getElem?_eq_some_iff.1 g1).1
  have hlook : ∀ t ∈ o.looksAt ops, ∀ u, look E t = some u → a.tmps[t]? = some u := by
    intro t ht u hu
    refine h.val t u hu fun j hj oj hoj hd => ?_
    have hjo : j ∈ ord := by rw [h.parts]; exact List.mem_append_left _ (h.pend j hj).1
    rcases hF.look done i r h.parts j hjo (hpi j hj) o oj t g1 hoj hd ht with ⟨_, ha⟩ | ⟨hn', _⟩
    · have := h.anc hr ha
      rw [getD_tf (h.pend j hj).2.1] at this
      cases this
    · exact hn' (h.pend j hj).1
  obtain ⟨a', hfr, hsame⟩ := fill_act (E := E) h.asz h.keys
  obtain ⟨he, hwd⟩ := eval_same (ops := ops) (a := a) (a' := a') (o := o) (fun t ht => hsame t fun u hu => hlook t ht u hu) (fun cs b => hF.noSel i o cs b g1)
  have next : ∀ v W' R' w', Ext w w' → Holds C W' R' w' → Inv P C ops m ord (done ++ [i]) r pd (listed.setIfInBounds i true) ((d, v) :: E) W' R' (a.put o.dst v) w' := by
    intro v W' R' w' hxt hm
    refine ⟨by simp [h.size], closed_set h.closed hr, by rw [h.parts]; simp, ?_, ?_, ?_, ?_, by simp [g2, Act.put, h.asz], by rw [g2]; exact h.dfr, ?_, ?_, hm⟩
    · intro j hj
      rcases List.mem_append.1 hj with hj | hj
      · exact (h.fin j hj).imp id getD_set_true'
      · simp at hj; subst hj; right; simp [hi]
    · intro j hj
      obtain ⟨k1, k2, k3⟩ := h.pend j hj
      have hne := hpi j hj
      refine ⟨List.mem_append_left _ k1, by rw [getD_set_ne true (Ne.symm hne)]; exact k2, ?_⟩
      obtain ⟨oj, dj, vj, E', W1, R1, q1, q2, q3, q4, q5, q6, q7⟩ := (k3.ext hxt).ex
      have hjo : j ∈ ord := by rw [h.parts]; exact List.mem_append_left _ k1
      have hdd : dj ≠ d := fun e => hF.dst i hio j hjo (Ne.symm hne) o oj d g1 q1 g2 (by rw [q2, e])
      refine ⟨oj, dj, vj, E', W1, R1, q1, q2, by rw [look_cons_ne hdd]; exact q3, q4, q5, q6, fun t ht u hu => ?_⟩
      have hnai : ¬ Anc ops i j := fun ha => by
        have := h.anc hr ha
        rw [getD_tf k2] at this
        cases this
      rcases q7 t ht u hu with ⟨hA, hA2⟩ | ⟨hB, j', hj', oj', hoj', hd', ha'⟩
      · by_cases e : t = d
        · subst e
          obtain ⟨l1, l2, hl⟩ := List.append_of_mem k1
          rcases hF.look l1 j (l2 ++ i :: r) (by rw [h.parts, hl]; simp) i hio (Ne.symm hne) oj o t q1 g1 g2 ht with ⟨this, _⟩ | ⟨_, h5⟩
          · exact absurd (by rw [hl]; exact List.mem_append_left _ this) hnd
          · exact absurd h5 hnai
        · exact .inl ⟨by rw [look_cons_ne e]; exact hA, hA2⟩
      · refine .inr ⟨?_, j', hj', oj', hoj', hd', ha'⟩
        rw [g2]
        simp only [Act.put, Array.getElem?_setIfInBounds]
        rw [if_neg]
        · exact hB
        · intro e
          subst e
          by_cases hji' : j' = i
          · subst hji'
            exact hnai ha'
          · exact hF.dst i hio j' hj' (Ne.symm hji') o oj' d g1 hoj' g2 hd'
    · intro j hj
      have hji : j ≠ i := fun e => by subst e; exact hnr hj
      rw [getD_set_ne true (Ne.symm hji)]; exact h.rest j (List.mem_cons_of_mem _ hj)
    · intro t ht ht2
      have : t ≠ i := fun e => by have := hF.lt i hio; omega
      rw [getD_set_ne true (Ne.symm this)]; exact h.tail t ht ht2
    · intro t u hu
      by_cases e : t = d
      · subst e; simp [Nat.blt] at hn; omega
      · rw [look_cons_ne e] at hu; exact h.keys t u hu
    · intro t u hu hpn
      rw [g2]
      simp only [Act.put, Array.getElem?_setIfInBounds]
      by_cases e : t = d
      · subst e
        rw [look_cons_same] at hu; cases hu
        simp [Nat.blt] at hn
        have : t < C.n := by omega
        simp [h.asz, this]
      · rw [if_neg (fun e' => e e'.symm)]
        rw [look_cons_ne e] at hu
        exact h.val t u hu hpn
  unfold wpOp
  have hwt := hw _ _ hfr
  rw [hwd] at hwt
  simp only [g1, hwt, if_true]
  have hres := hx a' w ⟨hfr, h.mem⟩
  rw [he] at hres
  exact .inl (hres.wp fun v w' ⟨W', R', hm, hxt, hp⟩ => hK v W' R' _ _ hp (next v W' R' w' hxt hm))

/-- how many are still to come -/
def left (ops : Array Oper) (listed : Array Bool) : Nat := ((List.range ops.size).filter fun i => !listed.getD i true).length

theorem left_set {listed : Array Bool} {i : Nat} (hs : listed.size = ops.size) (h : listed.getD i true = false) : left ops (listed.setIfInBounds i true) + 1 = left ops listed := by
  have hi : i < listed.size := by
    rcases Nat.lt_or_ge i listed.size with h' | h'
    · exact h'
    · simp [Array.getElem?_eq_none h'] at h
  have key : ∀ (l : List Nat), l.Nodup → (l.filter fun j => !(listed.setIfInBounds i true).getD j true).length + (if i ∈ l then 1 else 0) = (l.filter fun j => !listed.getD j true).length := by
    intro l
    induction l with
    | nil => intro _; simp
    | cons j l ih =>
      intro hn
      rw [List.nodup_cons] at hn
      have ih' := ih hn.2
      by_cases hji : j = i
      · subst hji
        have e1 : (listed.setIfInBounds j true).getD j true = true := by simp [hi]
        simp only [List.filter_cons, e1, h, List.mem_cons, true_or, if_true]
        rw [if_neg hn.1] at ih'
        simp
        simpa using ih'
      · rw [List.filter_cons, List.filter_cons, getD_set_ne true (Ne.symm hji)]
        have e2 : (if i ∈ j :: l then 1 else 0) = (if i ∈ l then 1 else 0) := by simp [Ne.symm hji]
        rw [e2]
        cases listed.getD j true
        · simp only [Bool.not_false, if_true, List.length_cons]; omega
        · simp only [Bool.not_true, Bool.false_eq_true, if_false]; exact ih'
  have := key (List.range ops.size) List.nodup_range
  rw [if_pos (by simp; omega)] at this
  exact this

/-- those that come behind all others -/
theorem tail_run {m : Nat} {ws ord : List Nat} (hF : Fit ops m ws ord) : ∀ (f k : Nat) (listed : Array Bool) (a : Act) (w : World), ops.size - k = f → m ≤ k → k ≤ ops.size → listed.size = ops.size → Closed ops listed →
    (∀ j, j < k → listed.getD j true = true) → (∀ j, k ≤ j → j < ops.size → listed.getD j true = false) → wpList P ops Q (ops.toList.drop k) a w → wpAny P .any ops Q f listed a w := by
  intro f
  induction f with
  | zero =>
    intro k listed a w hf hm hk hs hc h1 h2 hw
    have : k = ops.size := by omega
    subst this
    have hr : Region.ready .any ops listed = [] := by
      rw [List.eq_nil_iff_forall_not_mem]
      intro i hi
      obtain ⟨hu, o, ho, _⟩ := ready_spec hi
      rw [h1 i (Array.getElem?_eq_some_iff.1 ho).1] at hu
      cases hu
    rw [List.drop_of_length_le (by simp)] at hw
    exact ⟨hr, by simpa [wpList] using hw⟩
  | succ f ih =>
    intro k listed a w hf hm hk hs hc h1 h2 hw
    have hkl : k < ops.size := by omega
    have honly : ∀ i ∈ Region.ready .any ops listed, i = k := by
      intro i hi
      obtain ⟨hu, o, ho, hall⟩ := ready_spec hi
      have hio := (Array.getElem?_eq_some_iff.1 ho).1
      have hki : k ≤ i := by
        rcases Nat.lt_or_ge i k with h | h
        · rw [h1 i h] at hu; cases hu
        · exact h
      rcases Nat.lt_or_ge k i with h | h
      · have ha := hF.tail i (by omega) hio k h
        have hdir : listed.getD k false = true := ha.listed hc fun o' ho' => by
          have : o' = o := Option.some.inj (ho'.symm.trans ho)
          subst this
          exact hall
        rw [getD_tf (h2 k (Nat.le_refl _) hkl)] at hdir
        cases hdir
      · omega
    have hdrop : ops.toList.drop k = ops[k] :: ops.toList.drop (k + 1) := by
      rw [List.drop_eq_getElem_cons (by simpa using hkl)]; simp
    rw [hdrop] at hw
    have hkr : k ∈ Region.ready .any ops listed := by
      refine mem_ready.2 ⟨h2 k (Nat.le_refl _) hkl, ops[k], by simp [hkl], fun e he hb => ?_⟩
      have := hF.edges k ops[k] e (by simp [hkl]) he hb
      have h3 := h1 e.on this
      rw [Array.getD_eq_getD_getElem?] at h3 ⊢
      rw [Array.getElem?_eq_getElem (by omega)] at h3 ⊢
      exact h3
    refine ⟨fun hr => absurd (hr ▸ hkr) (by simp), fun i hi => ?_⟩
    · have := honly i hi
      subst this
      unfold wpOp
      have ho : ops[i]? = some ops[i] := by simp [hkl]
      simp only [ho]
      simp only [wpList] at hw
      have next : ∀ a' w', wpList P ops Q (ops.toList.drop (i + 1)) a' w' → wpAny P .any ops Q f (listed.setIfInBounds i true) a' w' := by
        intro a' w' hw'
        refine ih (i + 1) _ a' w' (by omega) (by omega) (by omega) (by simp [hs]) (closed_set hc hi) ?_ ?_ hw'
        · intro j hj
          by_cases e : j = i
          · subst e; simp [hs, hkl]
          · exact getD_set_true' (h1 j (by omega))
        · intro j hj hj2
          rw [getD_set_ne true (by omega)]
          exact h2 j (by omega) hj2
      split
      · rename_i hwt
        rw [if_pos hwt] at hw
        exact hw.imp (Oper.wp_mono next) id
      · rename_i hwt
        rw [if_neg hwt] at hw
        exact next _ _ hw

/-- the order is followed up to an operation that comes next in the run -/
theorem Inv.follow {Q : Exit → Act → World → Prop} {m : Nat} {ws ord : List Nat} (hF : Fit ops m ws ord) {i : Nat} {listed : Array Bool} {a : Act} {w : World} (hr : i ∈ Region.ready .any ops listed) :
    ∀ (r1 done pd r2 : List Nat) (E : Env) (W : List Ent) (R : List RF), Inv P C ops m ord done (r1 ++ i :: r2) pd listed E W R a w → Can P C ops Q m ws (r1 ++ i :: r2) E W R →
      ∃ done' pd' E', Inv P C ops m ord done' (i :: r2) pd' listed E' W R a w ∧ Can P C ops Q m ws (i :: r2) E' W R := by
  intro r1
  induction r1 with
  | nil => intro done pd r2 E W R h hc; exact ⟨done, pd, E, h, hc⟩
  | cons j r1 ih =>
    intro done pd r2 E W R h hc
    obtain ⟨o, d, g1, g2, hn, hc⟩ := hc
    rcases hc with ⟨_, v, hv, hc⟩ | ⟨hws, hw, hx⟩
    · exact ih _ _ _ _ _ _ (h.absorb hF g1 g2 hn hv) hc
    · have ha := hF.wc (done ++ j :: r1) i r2 (by rw [h.parts]; simp) j (by simp) hws
      have := h.anc hr ha
      rw [getD_tf (h.rest j (by simp))] at this
      cases this

theorem Inv.toTail {m : Nat} {ws ord done r pd : List Nat} {listed : Array Bool} {E : Env} {W : List Ent} {R : List RF} {a : Act} {w : World} (hF : Fit ops m ws ord)
    (h : Inv P C ops m ord done r pd listed E W R a w) (hall : ∀ i, i < m → listed.getD i true = true) (hc : Can P C ops Q m ws r E W R) : wpList P ops Q (ops.toList.drop m) a w := by
  have hr : r = [] := by
    cases r with
    | nil => rfl
    | cons i r =>
      have h1 := h.rest i (.head _)
      rw [hall i (hF.lt i (by rw [h.parts]; simp))] at h1
      cases h1
  subst hr
  have hp : pd = [] := by
    cases pd with
    | nil => rfl
    | cons i q =>
      obtain ⟨h0, h1, _⟩ := h.pend i (.head _)
      rw [hall i (hF.lt i (by rw [h.parts]; simpa using h0))] at h1
      cases h1
  subst hp
  exact hc a w ⟨⟨h.asz, h.dfr, fun t v hv => h.val t v hv (by simp)⟩, h.mem⟩

theorem main_run {m : Nat} {ws ord : List Nat} (hF : Fit ops m ws ord) : ∀ (f : Nat) (done r pd : List Nat) (listed : Array Bool) (E : Env) (W : List Ent) (R : List RF) (a : Act) (w : World), left ops listed = f →
    Inv P C ops m ord done r pd listed E W R a w → Can P C ops Q m ws r E W R → wpAny P .any ops Q f listed a w := by
  intro f
  induction f with
  | zero =>
    intro done r pd listed E W R a w hf h hc
    have hall : ∀ i, i < ops.size → listed.getD i true = true := by
      intro i hi
      cases hl : listed.getD i true with
      | true => rfl
      | false =>
        have : i ∈ (List.range ops.size).filter fun i => !listed.getD i true := by simp only [List.mem_filter, List.mem_range, hl]; exact ⟨hi, rfl⟩
        rw [List.eq_nil_of_length_eq_zero hf] at this
        cases this
    have hm : m = ops.size := by
      rcases Nat.lt_or_ge m ops.size with h' | h'
      · have := h.tail m (Nat.le_refl _) h'
        rw [hall m h'] at this; cases this
      · have := hF.le; omega
    exact tail_run hF 0 m listed a w (by omega) (Nat.le_refl _) hF.le h.size h.closed (fun j hj => hall j (by omega)) (fun j hj hj2 => by omega) (h.toTail hF (fun i hi => hall i (by omega)) hc)
  | succ f ih =>
    intro done r pd listed E W R a w hf h hc
    by_cases hb : ∀ i, i < m → listed.getD i true = true
    · -- all but those that come behind all others have been carried out
      have hcount : left ops listed = ops.size - m := by
        unfold left
        have : (List.range ops.size).filter (fun i => !listed.getD i true) = List.range' m (ops.size - m) := by
          have e1 : List.range ops.size = List.range' 0 m ++ List.range' m (ops.size - m) := by
            have := hF.le
            rw [List.range_eq_range']
            have e := List.range'_append (s := 0) (m := m) (n := ops.size - m) (step := 1)
            simp only [Nat.one_mul, Nat.zero_add] at e
            rw [e]
            congr 1; omega
          rw [e1, List.filter_append]
          have e2 : (List.range' 0 m).filter (fun i => !listed.getD i true) = [] := by
            rw [List.filter_eq_nil_iff]
            intro i hi
            rw [List.mem_range'_1] at hi
            rw [hb i (by omega)]; simp
          have e3 : (List.range' m (ops.size - m)).filter (fun i => !listed.getD i true) = List.range' m (ops.size - m) := by
            rw [List.filter_eq_self]
            intro i hi
            rw [List.mem_range'_1] at hi
            rw [h.tail i hi.1 (by omega)]; rfl
          rw [e2, e3, List.nil_append]
        rw [this, List.length_range']
      exact tail_run hF (f + 1) m listed a w (by omega) (Nat.le_refl _) hF.le h.size h.closed hb (fun j hj hj2 => h.tail j hj hj2) (h.toTail hF hb hc)
    · have hb' : ∃ i, i < m ∧ listed.getD i true = false := by
        false_or_by_contra
        rename_i hn
        exact hb fun i hi => by
          cases hl : listed.getD i true with
          | true => rfl
          | false => exact absurd ⟨i, hi, hl⟩ hn
      obtain ⟨i0, hi0, hl0⟩ := hb'
      -- something comes next
      have hmin : ∀ i, i < m → listed.getD i true = false → ∃ k, k ∈ Region.ready .any ops listed := by
        intro i
        induction i using Nat.strongRecOn with
        | _ i ihh =>
          intro him hl
          have hio : i < ops.size := by have := hF.le; omega
          by_cases hall : ∀ e ∈ ops[i].after, Region.binds .any e = true → listed.getD e.on false = true
          · exact ⟨i, mem_ready.2 ⟨hl, ops[i], by simp [hio], hall⟩⟩
          · have : ∃ e, e ∈ ops[i].after ∧ Region.binds .any e = true ∧ listed.getD e.on false = false := by
              false_or_by_contra
              rename_i hn
              exact hall fun e he hb => by
                cases hl : listed.getD e.on false with
                | true => rfl
                | false => exact absurd ⟨e, he, hb, hl⟩ hn
            obtain ⟨e, he, hbd, hle⟩ := this
            have hlt := hF.edges i ops[i] e (by simp [hio]) he hbd
            exact ihh e.on hlt (by omega) (getD_ft (by rw [h.size]; omega) hle)
      obtain ⟨k0, hk0⟩ := hmin i0 hi0 hl0
      refine ⟨fun hr => absurd (hr ▸ hk0) (by simp), fun i hi => ?_⟩
      obtain ⟨hu, o, ho, hpre⟩ := ready_spec hi
      have hio := (Array.getElem?_eq_some_iff.1 ho).1
      have him : i < m := by
        rcases Nat.lt_or_ge i m with h' | h'
        · exact h'
        · have ha := hF.tail i h' hio i0 (by omega)
          have := h.anc hi ha
          rw [getD_tf hl0] at this
          cases this
      have hcnt : ∀ x : Nat, left ops (listed.setIfInBounds i true) = f := fun _ => by have := left_set h.size hu; omega
      have hord := hF.perm i him
      rw [h.parts] at hord
      rcases List.mem_append.1 hord with hd | hr
      · rcases h.fin i hd with hp | hl
        · exact h.exec hF hp hi fun a' w' h' => ih _ _ _ _ _ _ _ _ _ (hcnt 0) h' hc
        · rw [hu] at hl; cases hl
      · obtain ⟨r1, r2, rfl⟩ := List.append_of_mem hr
        obtain ⟨done', pd', E', h', hc'⟩ := h.follow hF hi r1 done pd r2 E W R hc
        obtain ⟨o', d, g1, g2, hn, hcc⟩ := hc'
        rcases hcc with ⟨_, v, hv, hcc⟩ | ⟨hws, hw, hx⟩
        · exact (h'.absorb hF g1 g2 hn hv).exec hF (.head _) hi fun a' w' h'' => ih _ _ _ _ _ _ _ _ _ (hcnt 0) h'' hcc
        · exact h'.execW hF hi g1 g2 hn hw hx fun v W' R' a' w' hp h'' => ih _ _ _ _ _ _ _ _ _ (hcnt 0) h'' hp

end
end Go.Proofs.Ytdeacehacndopaa

namespace Go.Proofs.Ytdeacehacndopaa
open Go.RowKit

def maskOf (acc : List Nat) (l : List Edge) : Nat :=
  l.foldl (fun s e => if Region.binds .any e then s ||| (1 <<< e.on) ||| acc.getD e.on 0 else s) 0
def ancs : List Oper → List Nat → List Nat
  | [], acc => acc
  | o :: r, acc => ancs r (acc ++ [maskOf acc o.after.toList])

theorem maskOf_spec {ops : Array Oper} {i : Nat} {o : Oper} {acc : List Nat} (ho : ops[i]? = some o) (hacc : ∀ j m, acc[j]? = some m → ∀ k, m.testBit k = true → Anc ops j k) {k : Nat}
    (h : (maskOf acc o.after.toList).testBit k = true) : Anc ops i k := by
  have key : ∀ (l : List Edge) (s : Nat), (∀ e ∈ l, e ∈ o.after) → (s.testBit k = true → Anc ops i k) →
      (l.foldl (fun s e => if Region.binds .any e then s ||| (1 <<< e.on) ||| acc.getD e.on 0 else s) s).testBit k = true → Anc ops i k := by
    intro l
    induction l with
    | nil => intro s _ hs h; exact hs h
    | cons e r ih =>
      intro s hm hs h
      rw [List.foldl_cons] at h
      refine ih _ (fun e' he' => hm e' (List.mem_cons_of_mem _ he')) ?_ h
      intro hb
      split at hb
      · rename_i hbd
        simp only [Nat.testBit_or, Bool.or_eq_true] at hb
        rcases hb with (hb | hb) | hb
        · exact hs hb
        · rw [Nat.one_shiftLeft, Nat.testBit_two_pow] at hb
          have : e.on = k := by simpa using hb
          subst this
          exact .one ho (hm e (.head _)) hbd
        · have : ∃ m, acc[e.on]? = some m ∧ m.testBit k = true := by
            cases hg : acc[e.on]? with
            | none => simp [List.getD, hg] at hb
            | some m => exact ⟨m, rfl, by simpa [List.getD, hg] using hb⟩
          obtain ⟨m, hm1, hm2⟩ := this
          exact .more ho (hm e (.head _)) hbd (hacc _ _ hm1 k hm2)
      · exact hs hb
  exact key _ 0 (fun e he => by simpa using he) (by simp) h

theorem ancs_spec {ops : Array Oper} : ∀ (l : List Oper) (acc : List Nat), (∀ j, l[j]? = ops[acc.length + j]?) → (∀ j m, acc[j]? = some m → ∀ k, m.testBit k = true → Anc ops j k) →
    ∀ j m, (ancs l acc)[j]? = some m → ∀ k, m.testBit k = true → Anc ops j k
  | [], acc, _, h => h
  | o :: r, acc, hl, h => by
    simp only [ancs]
    have ho : ops[acc.length]? = some o := by simpa using (hl 0).symm
    refine ancs_spec r _ (fun j => ?_) ?_
    · have := hl (j + 1)
      simp only [List.getElem?_cons_succ] at this
      rw [this]; congr 1; simp; omega
    · intro j m hj k hk
      rcases Nat.lt_or_ge j acc.length with hlt | hge
      · rw [List.getElem?_append_left hlt] at hj
        exact h j m hj k hk
      · rw [List.getElem?_append_right hge] at hj
        have : j - acc.length = 0 := by
          rcases Nat.eq_zero_or_pos (j - acc.length) with h0 | h0
          · exact h0
          · rw [List.getElem?_eq_none (by simp; omega)] at hj; cases hj
        have hj' : j = acc.length := by omega
        subst hj'
        simp at hj
        subst hj
        exact maskOf_spec ho h hk

def bitB (as : List Nat) (i k : Nat) : Bool := (as.getD i 0).testBit k

def chkOrd (ops : Array Oper) (as ws ord : List Nat) : List Nat → List Nat → Bool
  | _, [] => true
  | pre, i :: r =>
    (match ops[i]? with
     | none => true
     | some oi =>
       (ord.all fun j => Nat.beq j i || (match (ops[j]?).bind (·.dst) with
         | none => true
         | some d => (!(oi.looksAt ops).contains d || (pre.contains j && bitB as i j) || (!(pre.contains j) && bitB as j i)) && !(oi.dst == some d))) &&
       (match oi.dst with
        | none => true
        | some d => !(oi.looksAt ops).contains d)) &&
    (pre.all fun k => !ws.contains k || bitB as i k) &&
    !(pre.contains i) &&
    chkOrd ops as ws ord (pre ++ [i]) r

def fitB (ops : Array Oper) (m : Nat) (ws ord : List Nat) : Bool :=
  let as := ancs ops.toList []
  ((List.range m).all fun i => ord.contains i) && (ord.all fun i => Nat.blt i m) && Nat.ble m ops.size &&
  chkOrd ops as ws ord [] ord &&
  ((List.range ops.size).all fun t => Nat.blt t m || (List.range t).all fun j => bitB as t j) &&
  (ops.toList.zipIdx.all fun x => x.1.after.toList.all fun e => !(Region.binds .any e) || Nat.blt e.on x.2) &&
  Region.noSelect ops

theorem chkOrd_spec {ops : Array Oper} {as ws ord : List Nat} : ∀ (pre r : List Nat), chkOrd ops as ws ord pre r = true → ∀ l i r', r = l ++ i :: r' →
    (∀ oi, ops[i]? = some oi → (∀ j ∈ ord, j ≠ i → ∀ oj d, ops[j]? = some oj → oj.dst = some d → oi.dst ≠ some d ∧ (d ∈ oi.looksAt ops → (j ∈ pre ++ l ∧ bitB as i j = true) ∨ (j ∉ pre ++ l ∧ bitB as j i = true))) ∧ (∀ d, oi.dst = some d → d ∉ oi.looksAt ops)) ∧
    (∀ k ∈ pre ++ l, ws.contains k = true → bitB as i k = true) ∧ i ∉ pre ++ l
  | _, [], _, l, i, r', h => by simp at h
  | pre, x :: r, hc, l, i, r', h => by
    simp only [chkOrd, Bool.and_eq_true] at hc
    obtain ⟨⟨⟨h1, h2⟩, h3⟩, h4⟩ := hc
    cases l with
    | cons y l =>
      simp only [List.cons_append, List.cons.injEq] at h
      obtain ⟨rfl, rfl⟩ := h
      have := chkOrd_spec (pre ++ [x]) _ h4 l i r' rfl
      simpa [List.append_assoc] using this
    | nil =>
      simp only [List.nil_append, List.cons.injEq] at h
      obtain ⟨rfl, rfl⟩ := h
      simp only [List.append_nil]
      refine ⟨fun oi ho => ?_, fun k hk hw => ?_, by simpa using h3⟩
      · rw [ho] at h1
        simp only [Bool.and_eq_true] at h1
        refine ⟨fun j hj hne oj d hoj hd => ?_, fun d hd => ?_⟩
        · have := List.all_eq_true.1 h1.1 j hj
          rw [hoj] at this
          simp only [Option.bind_some, hd, Bool.or_eq_true, Bool.and_eq_true, Bool.not_eq_true'] at this
          rcases this with h' | ⟨h', h''⟩
          · exact absurd (Nat.eq_of_beq_eq_true h') hne
          · refine ⟨fun e => by rw [e] at h''; simp at h'', fun hmem => ?_⟩
            rcases h' with (h' | ⟨h', h5⟩) | ⟨h', h5⟩
            · simp at h'; exact absurd hmem h'
            · exact .inl ⟨by simpa using h', h5⟩
            · exact .inr ⟨by simpa using h', h5⟩
        · have := h1.2
          rw [hd] at this
          simpa using this
      · have := List.all_eq_true.1 h2 k hk
        simp only [hw, Bool.not_true, Bool.false_or] at this
        exact this

theorem Fit.of {ops : Array Oper} {m : Nat} {ws ord : List Nat} (h : fitB ops m ws ord = true) : Fit ops m ws ord := by
  simp only [fitB, Bool.and_eq_true] at h
  obtain ⟨⟨⟨⟨⟨⟨h1, h2⟩, h3⟩, h4⟩, h5⟩, h6⟩, h7⟩ := h
  have anc : ∀ i k, bitB (ancs ops.toList []) i k = true → Anc ops i k := by
    intro i k hb
    unfold bitB at hb
    cases hg : (ancs ops.toList [])[i]? with
    | none => simp [List.getD, hg] at hb
    | some mk =>
      refine ancs_spec ops.toList [] (fun j => by simp) (by simp) i mk hg k (by simpa [List.getD, hg] using hb)
  have c := chkOrd_spec [] ord h4
  simp only [List.nil_append] at c
  refine ⟨fun i hi => ?_, fun i hi => ?_, ?_, ?_, ?_, ?_, ?_, ?_, ?_, ?_, ?_⟩
  · simpa using List.all_eq_true.1 h1 i (List.mem_range.2 hi)
  · have := List.all_eq_true.1 h2 i hi
    simp [Nat.blt] at this; omega
  · rw [List.nodup_iff_pairwise_ne, List.pairwise_iff_forall_sublist]
    intro a b hs
    have : ∃ l1 l2, ord = l1 ++ b :: l2 ∧ a ∈ l1 := by
      clear h1 h2 h4 c
      induction ord with
      | nil => cases hs
      | cons x r ih =>
        cases hs with
        | cons _ hs =>
          obtain ⟨l1, l2, e, hm⟩ := ih hs
          exact ⟨x :: l1, l2, by rw [e]; rfl, .tail _ hm⟩
        | cons_cons _ hs =>
          have hb : b ∈ r := hs.subset (by simp)
          obtain ⟨l1, l2, e⟩ := List.append_of_mem hb
          exact ⟨a :: l1, l2, by rw [e]; rfl, .head _⟩
    obtain ⟨l1, l2, e, hm⟩ := this
    intro hab
    subst hab
    exact (c l1 a l2 e).2.2 hm
  · simpa using h3
  · intro i hi j hj hne oi oj d hoi hoj hd hd2
    obtain ⟨l, r, e⟩ := List.append_of_mem hi
    exact (((c l i r e).1 oi hoi).1 j hj (Ne.symm hne) oj d hoj hd2).1 hd
  · intro l i r e j hj hne oi oj d hoi hoj hd hmem
    rcases (((c l i r e).1 oi hoi).1 j hj hne oj d hoj hd).2 hmem with ⟨h8, h9⟩ | ⟨h8, h9⟩
    · exact .inl ⟨h8, anc _ _ h9⟩
    · exact .inr ⟨h8, anc _ _ h9⟩
  · intro i hi oi d hoi hd
    obtain ⟨l, r, e⟩ := List.append_of_mem hi
    exact ((c l i r e).1 oi hoi).2 d hd
  · intro l i r e k hk hw
    exact anc _ _ ((c l i r e).2.1 k hk hw)
  · intro t hm ht j hj
    have := List.all_eq_true.1 h5 t (List.mem_range.2 ht)
    simp only [Bool.or_eq_true] at this
    rcases this with h' | h'
    · simp [Nat.blt] at h'; omega
    · exact anc _ _ (List.all_eq_true.1 h' j (List.mem_range.2 hj))
  · intro i o e ho he hb
    have hmem : (o, i) ∈ ops.toList.zipIdx := by
      rw [List.mem_zipIdx_iff_getElem?]; simpa using ho
    have := List.all_eq_true.1 h6 _ hmem
    have := List.all_eq_true.1 this e (by simpa using he)
    simp [hb, Nat.blt] at this; omega
  · intro i o cs b ho
    exact Region.noSelect_spec h7 i o cs b ho

section
variable {P : Program} {C : Cx} {E : Env} {W : List Ent} {R : List RF} {Q : Exit → Act → World → Prop}

/-- a statement whose order is open, walked in one order -/
theorem GoC.draw {id : Nat} {l : List Oper} (m : Nat) (ws ord : List Nat) (hf : fitB l.toArray m ws ord = true) (hm : P.follows .mixedOrders = true)
    (h : Can P C l.toArray Q m ws ord E W R) : GoC P C E W R (.region id l.toArray true) Q := by
  intro a w hs
  refine wp_region_any hm ?_
  have hF := Fit.of hf
  have hk : ∀ t v, look E t = some v → t < C.n := fun t v hv => by
    have := hs.fr.val t v hv
    have := (Array.getElem?_eq_some_iff.1 this).1
    rw [hs.fr.size] at this; exact this
  have hrep : ∀ i, i < l.toArray.size → (Array.replicate l.toArray.size false).getD i true = false := fun i hi => by simp at hi; simp [hi]
  refine main_run hF _ [] ord [] _ E W R a _ ?_ ⟨by simp, ?_, rfl, by simp, by simp, fun i hi => hrep i (Nat.lt_of_lt_of_le (hF.lt i hi) hF.le), fun t _ ht => hrep t ht, hs.fr.size, hs.fr.dfr, hk, fun t v hv _ => hs.fr.val t v hv, hs.mem.ext (Keep.drew w)⟩ h
  · unfold left
    rw [List.filter_eq_self.2 (fun i hi => by rw [hrep i (List.mem_range.1 hi)]; rfl)]
    simp
  · intro i o ho hl
    have hi := (Array.getElem?_eq_some_iff.1 ho).1
    simp at hi
    simp [hi] at hl

theorem Can.nil {ops : Array Oper} {m : Nat} {ws : List Nat} {tl : List Oper} (ht : ops.toList.drop m = tl) (h : GoL P C ops E W R tl Q) : Can P C ops Q m ws [] E W R := by
  simp only [Can]; rw [ht]; exact h

theorem Can.p {ops : Array Oper} {m : Nat} {ws r : List Nat} {i d : Nat} {o : Oper} {v : Value} (ho : ops[i]? = some o) (h : OpP P C E W R o v) (k : Can P C ops Q m ws r ((d, v) :: E) W R)
    (hd : o.dst = some d := by rfl) (hn : Nat.blt d C.n = true := by rfl) (hws : ws.contains i = false := by rfl) (hw : Wn ops E o := by exact Wn.none rfl) : Can P C ops Q m ws (i :: r) E W R :=
  ⟨o, d, ho, hd, hn, .inl ⟨hws, v, fun a w hs => .inl ⟨hw _ _ hs.fr, h a w hs⟩, k⟩⟩

theorem Can.q {ops : Array Oper} {m : Nat} {ws r : List Nat} {i d : Nat} {o : Oper} {v : Value} (ho : ops[i]? = some o) (h : OpR P C E W R o v) (k : Can P C ops Q m ws r ((d, v) :: E) W R)
    (hd : o.dst = some d := by rfl) (hn : Nat.blt d C.n = true := by rfl) (hws : ws.contains i = false := by rfl) (hw : Wn ops E o := by exact Wn.none rfl) : Can P C ops Q m ws (i :: r) E W R :=
  Can.p ho h.p k hd hn hws hw

theorem Can.x {ops : Array Oper} {m : Nat} {ws r : List Nat} {i d : Nat} {o : Oper} {Φ : Value → List Ent → List RF → Prop} (ho : ops[i]? = some o) (h : OpX P C E W R o Φ) (k : ∀ v W' R', Φ v W' R' → Can P C ops Q m ws r ((d, v) :: E) W' R')
    (hd : o.dst = some d := by rfl) (hn : Nat.blt d C.n = true := by rfl) (hws : ws.contains i = true := by rfl) (hw : Wn ops E o := by exact Wn.none rfl) : Can P C ops Q m ws (i :: r) E W R :=
  ⟨o, d, ho, hd, hn, .inr ⟨hws, hw, fun a w hs => (h a w hs).mono fun v w' ⟨W', R', hp, hm, hx⟩ => ⟨W', R', hm, hx, k v W' R' hp⟩⟩⟩

/-- an operation that is passed over -/
theorem Can.skip {ops : Array Oper} {m : Nat} {ws r : List Nat} {i d : Nat} {o : Oper} (ho : ops[i]? = some o) (hnw : ∀ n a, FrE n E a → Region.wanted o (yielded ops a.tmps) = false) (k : Can P C ops Q m ws r ((d, undef) :: E) W R)
    (hd : o.dst = some d := by rfl) (hn : Nat.blt d C.n = true := by rfl) (hws : ws.contains i = false := by rfl) : Can P C ops Q m ws (i :: r) E W R :=
  ⟨o, d, ho, hd, hn, .inl ⟨hws, undef, fun a w hs => .inr ⟨hnw _ _ hs.fr, rfl⟩, k⟩⟩

theorem not_wanted {ops : Array Oper} {o : Oper} {g s : Nat} {wt : Bool} {v : Value} (hg : o.guard = some (g, wt)) (hs : (ops[g]?).bind (·.dst) = some s) (hv : look E s = some v) (hne : v ≠ .bool wt) :
    ∀ n a, FrE n E a → Region.wanted o (yielded ops a.tmps) = false := by
  intro n a hf
  have := hf.val _ _ hv
  simp only [Region.wanted, hg, yielded, hs, Option.bind_some, this]
  cases v <;> simp_all

def Le (E E' : Env) : Prop := ∀ t v, look E t = some v → look E' t = some v
theorem Le.cons {E E' : Env} (h : Le E E') (d : Nat) (v : Value) : Le ((d, v) :: E) ((d, v) :: E') := by
  intro t u hu
  simp only [look] at hu ⊢
  cases hb : Nat.beq t d with
  | true => rw [hb] at hu; exact hu
  | false => rw [hb] at hu; exact h t u hu
theorem FrE.le {n : Nat} {E E' : Env} {a : Act} (h : FrE n E' a) (hl : Le E E') : FrE n E a := ⟨h.size, h.dfr, fun t v hv => h.val t v (hl t v hv)⟩

theorem GoL.le {ops : Array Oper} {l : List Oper} {E' : Env} (hl : Le E E') (h : GoL P C ops E W R l Q) : GoL P C ops E' W R l Q := fun a w hs => h a w ⟨hs.fr.le hl, hs.mem⟩

theorem Can.le {ops : Array Oper} {m : Nat} {ws : List Nat} : ∀ {r : List Nat} {E E' : Env} {W : List Ent} {R : List RF}, Le E E' → Can P C ops Q m ws r E W R → Can P C ops Q m ws r E' W R
  | [], E, E', W, R, hl, h => by simp only [Can] at h ⊢; exact h.le hl
  | i :: r, E, E', W, R, hl, h => by
    obtain ⟨o, d, ho, hd, hn, h⟩ := h
    refine ⟨o, d, ho, hd, hn, ?_⟩
    rcases h with ⟨hw, v, hv, hc⟩ | ⟨hw, hwn, hx⟩
    · exact .inl ⟨hw, v, fun a w hs => hv a w ⟨hs.fr.le hl, hs.mem⟩, Can.le (hl.cons _ _) hc⟩
    · exact .inr ⟨hw, fun n a hf => hwn n a (hf.le hl), fun a w hs => (hx a w ⟨hs.fr.le hl, hs.mem⟩).mono fun v w' ⟨W', R', h1, h2, h3⟩ => ⟨W', R', h1, h2, Can.le (hl.cons _ _) h3⟩⟩

theorem Le.part {E Ef : Env} {x k : Nat} {v : Value} (hx : look Ef x = some v) (hE : Ef.drop k = E) (hf : ((Ef.take k).all fun e => (look E e.1).isNone) = true) : Le ((x, v) :: E) Ef := by
  intro t u hu
  simp only [look] at hu
  cases hb : Nat.beq t x with
  | true =>
    have := Nat.eq_of_beq_eq_true hb
    subst this
    rw [hb, cond_true] at hu
    cases hu
    exact hx
  | false =>
    rw [hb, cond_false] at hu
    have h2 := look_append_fresh hf hu
    rw [← hE, List.take_append_drop] at h2
    exact h2

/-- all of these are passed over, where slot tj does not hold wt -/
def skipI (ops : Array Oper) (ws : List Nat) (n tj : Nat) (wt : Bool) (E : Env) : List Nat → List Nat → Bool
  | _, [] => true
  | us, i :: r =>
    match ops[i]? with
    | none => false
    | some o =>
      match o.guard, o.dst with
      | some (g, wv), some d =>
        (match (ops[g]?).bind (·.dst) with
         | none => false
         | some s => (Nat.beq s tj && (wv == wt) && !(us.contains s)) || us.contains s) && (look E d).isNone && Nat.blt d n && !(ws.contains i) && skipI ops ws n tj wt E (d :: us) r
      | _, _ => false

theorem Le.trans {E1 E2 E3 : Env} (h : Le E1 E2) (k : Le E2 E3) : Le E1 E3 := fun t v hv => k t v (h t v hv)
theorem Le.refl {E : Env} : Le E E := fun _ _ h => h
theorem Le.fresh {E E' : Env} {d : Nat} {v : Value} (h : Le E E') (hd : (look E d).isNone = true) : Le E ((d, v) :: E') := by
  intro t u hu
  simp only [look]
  cases hb : Nat.beq t d with
  | true =>
    have := Nat.eq_of_beq_eq_true hb
    subst this
    rw [hu] at hd; cases hd
  | false => exact h t u hu

theorem Can.skips {ops : Array Oper} {m : Nat} {ws : List Nat} {tj : Nat} {wt b : Bool} {r' : List Nat} (hb : b ≠ wt) (hj : look E tj = some (.bool b)) : ∀ (l : List Nat) (us : List Nat) (E' : Env), Le E E' →
    (∀ s ∈ us, look E' s = some undef) → skipI ops ws C.n tj wt E us l = true → (∀ E'', Le E E'' → Can P C ops Q m ws r' E'' W R) → Can P C ops Q m ws (l ++ r') E' W R
  | [], _, E', hle, _, _, k => k E' hle
  | i :: l, us, E', hle, hu, hs, k => by
    simp only [skipI] at hs
    split at hs
    · cases hs
    · rename_i o ho
      split at hs
      · rename_i g wv d hg hd
        simp only [Bool.and_eq_true, Bool.not_eq_true'] at hs
        obtain ⟨⟨⟨⟨h1, h2⟩, h3⟩, h4⟩, h5⟩ := hs
        split at h1
        · cases h1
        · rename_i s hgs
          refine Can.skip ho ?_ (Can.skips hb hj l (d :: us) _ (hle.fresh h2) ?_ h5 k) hd h3 h4
          · simp only [Bool.or_eq_true, Bool.and_eq_true, Bool.not_eq_true'] at h1
            rcases h1 with ⟨⟨h1, h6⟩, _⟩ | h1
            · have := Nat.eq_of_beq_eq_true h1
              subst this
              have h6' : wv = wt := by simpa using h6
              subst h6'
              exact not_wanted hg hgs (hle _ _ hj) (by simpa using hb)
            · exact not_wanted hg hgs (hu s (by simpa using h1)) (by simp [undef])
          · intro s' hs'
            by_cases e : s' = d
            · subst e; exact look_cons_same
            · rw [look_cons_ne e]
              rcases List.mem_cons.1 hs' with h | h
              · exact absurd h e
              · exact hu s' h
      · cases hs

theorem Can.and {ops : Array Oper} {m : Nat} {ws ord l1 r : List Nat} {jp tj x d : Nat} {po : Oper} {b b2 : Bool} (hord : ord = l1 ++ jp :: r) (hj : look E tj = some (.bool b)) (hs : skipI ops ws C.n tj true E [] l1 = true)
    (hpo : ops[jp]? = some po) (hop : po.op = .pick (.tmp tj) (.tmp x) (.const (.bool false))) (hd : po.dst = some d) (hn : Nat.blt d C.n = true) (hws : ws.contains jp = false) (hx : (look E x).isNone = true)
    (hw : Wn ops E po) (hrun : b = true → ∀ r', (∀ E', Le ((x, .bool b2) :: E) E' → Can P C ops Q m ws r' E' W R) → Can P C ops Q m ws (l1 ++ r') E W R)
    (k : Can P C ops Q m ws r ((d, .bool (b && b2)) :: E) W R) : Can P C ops Q m ws ord E W R := by
  subst hord
  obtain ⟨dst, op, ty, pos, aft, gd⟩ := po
  simp only at hop hd
  subst hop
  cases b with
  | true =>
    refine hrun rfl _ fun E' hle => ?_
    have hle0 : Le E E' := fun t v hv => hle t v (by
      have : t ≠ x := fun e => by subst e; rw [hv] at hx; cases hx
      rw [look_cons_ne this]; exact hv)
    refine Can.q hpo (op_pick (b := true) (hle0 _ _ hj) (hle _ _ look_cons_same) rfl) ?_ hd hn hws (fun n a hf => hw n a (hf.le hle0))
    exact Can.le (hle0.cons _ _) (by simpa using k)
  | false =>
    refine Can.skips (by simp) hj l1 [] E Le.refl (by simp) hs fun E' hle => ?_
    refine ⟨_, d, hpo, hd, hn, .inl ⟨hws, .bool false, fun a w hst => .inl ⟨hw _ _ (hst.fr.le hle), ?_⟩, Can.le (hle.cons _ _) (by simpa using k)⟩⟩
    have h1 : a.eval (.tmp tj) = .bool false := hst.fr.eval (x := .tmp tj) (hle _ _ hj)
    simp only [execOp, h1, asBool]
    exact ⟨rfl, Keep.refl _ _⟩

theorem Can.or {ops : Array Oper} {m : Nat} {ws ord l1 r : List Nat} {jp tj x d : Nat} {po : Oper} {b b2 : Bool} (hord : ord = l1 ++ jp :: r) (hj : look E tj = some (.bool b)) (hs : skipI ops ws C.n tj false E [] l1 = true)
    (hpo : ops[jp]? = some po) (hop : po.op = .pick (.tmp tj) (.const (.bool true)) (.tmp x)) (hd : po.dst = some d) (hn : Nat.blt d C.n = true) (hws : ws.contains jp = false) (hx : (look E x).isNone = true)
    (hw : Wn ops E po) (hrun : b = false → ∀ r', (∀ E', Le ((x, .bool b2) :: E) E' → Can P C ops Q m ws r' E' W R) → Can P C ops Q m ws (l1 ++ r') E W R)
    (k : Can P C ops Q m ws r ((d, .bool (b || b2)) :: E) W R) : Can P C ops Q m ws ord E W R := by
  subst hord
  obtain ⟨dst, op, ty, pos, aft, gd⟩ := po
  simp only at hop hd
  subst hop
  cases b with
  | false =>
    refine hrun rfl _ fun E' hle => ?_
    have hle0 : Le E E' := fun t v hv => hle t v (by
      have : t ≠ x := fun e => by subst e; rw [hv] at hx; cases hx
      rw [look_cons_ne this]; exact hv)
    refine Can.q hpo (op_pick (b := false) (hle0 _ _ hj) rfl (hle _ _ look_cons_same)) ?_ hd hn hws (fun n a hf => hw n a (hf.le hle0))
    exact Can.le (hle0.cons _ _) (by simpa using k)
  | true =>
    refine Can.skips (by simp) hj l1 [] E Le.refl (by simp) hs fun E' hle => ?_
    refine ⟨_, d, hpo, hd, hn, .inl ⟨hws, .bool true, fun a w hst => .inl ⟨hw _ _ (hst.fr.le hle), ?_⟩, Can.le (hle.cons _ _) (by simpa using k)⟩⟩
    have h1 : a.eval (.tmp tj) = .bool true := hst.fr.eval (x := .tmp tj) (hle _ _ hj)
    simp only [execOp, h1, asBool]
    exact ⟨rfl, Keep.refl _ _⟩

end
end Go.Proofs.Ytdeacehacndopaa

namespace Go.Proofs.Ytdeacehacndopaa
open Go.RowKit

inductive Tr where
  | nil
  | op (i : Nat) (t : Tr)
  | w (k : Nat) (t : Tr)
  | s (k : Nat) (ps : List Nat) (t : Tr)
  | y (k : Nat) (ps : List Nat) (t : Tr)
  | or2 (a b : Tr)

def Tr.heads : Tr → List Nat
  | .w k _ => [k]
  | .s k _ _ => [k]
  | .y k _ _ => [k]
  | .or2 a b => a.heads ++ b.heads
  | _ => []

section
variable {P : Program} {C : Cx} {ops : Array Oper} {Q : Exit → Act → World → Prop}

def CanT (P : Program) (C : Cx) (ops : Array Oper) (Q : Exit → Act → World → Prop) (m : Nat) : Tr → Env → List Ent → List RF → Prop
  | .nil, E, W, R => GoL P C ops E W R (ops.toList.drop m) Q
  | .op i t, E, W, R => ∃ o d v, ops[i]? = some o ∧ o.dst = some d ∧ Nat.blt d C.n = true ∧ OpW P C ops E W R o v ∧ CanT P C ops Q m t ((d, v) :: E) W R
  | .w k t, E, W, R => ∃ o d, ops[k]? = some o ∧ o.dst = some d ∧ Nat.blt d C.n = true ∧ Wn ops E o ∧
      ∀ a w, St C E W R a w → ResX P ((execOp a.eval o).run P w) fun v w' => ∃ W' R', Holds C W' R' w' ∧ Ext w w' ∧ CanT P C ops Q m t ((d, v) :: E) W' R'
  | .s k ps t, E, W, R => ∃ o, ops[k]? = some o ∧ o.dst = none ∧ Wn ops E o ∧
      ∀ a w, St C E W R a w → ResX P ((execOp a.eval o).run P w) fun _ w' => ∃ W' R', Holds C W' R' w' ∧
        (∀ j ∈ ps, ∃ oj dj vj, ops[j]? = some oj ∧ oj.dst = some dj ∧ look E dj = some vj ∧ OpW P C ops E W' R' oj vj) ∧ CanT P C ops Q m t E W' R'
  | .y k ps t, E, W, R => ∃ o d, ops[k]? = some o ∧ o.dst = some d ∧ Nat.blt d C.n = true ∧ Wn ops E o ∧
      ∀ a w, St C E W R a w → ResX P ((execOp a.eval o).run P w) fun v w' => ∃ W' R', Holds C W' R' w' ∧
        (∀ j ∈ ps, ∃ oj dj vj, ops[j]? = some oj ∧ oj.dst = some dj ∧ look E dj = some vj ∧ OpW P C ops E W' R' oj vj) ∧ CanT P C ops Q m t ((d, v) :: E) W' R'
  | .or2 a b, E, W, R => CanT P C ops Q m a E W R ∧ CanT P C ops Q m b E W R

def LookAt (ops : Array Oper) (m : Nat) (dn : List Nat) (i : Nat) : Prop :=
  ∀ j, j < m → j ≠ i → ∀ oi oj d, ops[i]? = some oi → ops[j]? = some oj → oj.dst = some d → d ∈ oi.looksAt ops → (j ∈ dn ∧ Anc ops i j) ∨ (j ∉ dn ∧ Anc ops j i)

structure Chk (ops : Array Oper) (m : Nat) (dn : List Nat) (i : Nat) : Prop where
  lt : i < m
  new : i ∉ dn
  look : LookAt ops m dn i
  self : ∀ oi d, ops[i]? = some oi → oi.dst = some d → d ∉ oi.looksAt ops

def Stuck (ops : Array Oper) (m : Nat) (dn ks : List Nat) : Prop := ∀ i, i < m → i ∉ dn → i ∉ ks → ∃ j, j < m ∧ j ∉ dn ∧ Anc ops i j

def FitS (ops : Array Oper) (dn wl : List Nat) (k : Nat) (ps : List Nat) : Prop :=
  (∀ j ∈ dn, j ∈ ps ∨ Anc ops k j ∨ j ∈ wl) ∧ ∀ j ∈ ps, j ∈ dn ∧ ∀ i ∈ dn, i ≠ j → ∀ oi oj d, ops[i]? = some oi → ops[j]? = some oj → oi.dst = some d → d ∈ oj.looksAt ops → Anc ops j i

def FitT (ops : Array Oper) (m : Nat) : Tr → Bool → List Nat → List Nat → Prop
  | .nil, _, dn, _ => ∀ i, i < m → i ∈ dn
  | .op i t, br, dn, wl => br = false ∧ Chk ops m dn i ∧ FitT ops m t false (dn ++ [i]) wl
  | .w k t, br, dn, wl => (br = false → Stuck ops m dn [k]) ∧ Chk ops m dn k ∧ FitT ops m t false (dn ++ [k]) (k :: wl)
  | .s k ps t, br, dn, wl => (br = false → Stuck ops m dn [k]) ∧ Chk ops m dn k ∧ FitS ops dn wl k ps ∧ FitT ops m t false (dn ++ [k]) (k :: wl)
  | .y k ps t, br, dn, wl => (br = false → Stuck ops m dn [k]) ∧ Chk ops m dn k ∧ FitS ops dn wl k ps ∧ FitT ops m t false (dn ++ [k]) (k :: wl)
  | .or2 a b, br, dn, wl => (br = false → Stuck ops m dn (a.heads ++ b.heads)) ∧ FitT ops m a true dn wl ∧ FitT ops m b true dn wl

structure Glob (ops : Array Oper) (m : Nat) : Prop where
  le : m ≤ ops.size
  dst : ∀ i j, i < m → j < m → i ≠ j → ∀ oi oj d, ops[i]? = some oi → ops[j]? = some oj → oi.dst = some d → oj.dst ≠ some d
  tail : ∀ t, m ≤ t → t < ops.size → ∀ j, j < t → Anc ops t j
  edges : ∀ (i : Nat) (o : Oper) e, ops[i]? = some o → e ∈ o.after → Region.binds .any e = true → e.on < i
  noSel : ∀ (i : Nat) (o : Oper) cs b, ops[i]? = some o → o.op ≠ .select cs b

/-- an operation that has been laid by and has not been carried out yet -/
structure PendT (P : Program) (C : Cx) (ops : Array Oper) (m : Nat) (pd : List Nat) (E : Env) (a : Act) (w : World) (i : Nat) : Prop where
  ex : ∃ o d v E' W' R', ops[i]? = some o ∧ o.dst = some d ∧ look E d = some v ∧ OpW P C ops E' W' R' o v ∧ Holds C W' R' w ∧
    (∀ t u, look E' t = some u → t < C.n) ∧ (∀ t ∈ o.looksAt ops, ∀ u, look E' t = some u → (look E t = some u ∧ ∀ k ∈ pd, ∀ ok : Oper, ops[k]? = some ok → ok.dst = some t → Anc ops i k) ∨ (a.tmps[t]? = some u ∧ ∃ j, j < m ∧ ∃ oj : Oper, ops[j]? = some oj ∧ oj.dst = some t ∧ Anc ops j i))

structure InvT (P : Program) (C : Cx) (ops : Array Oper) (m : Nat) (dn wl pd : List Nat) (listed : Array Bool) (E : Env) (W : List Ent) (R : List RF) (a : Act) (w : World) : Prop where
  size : listed.size = ops.size
  closed : Closed ops listed
  ltm : ∀ i ∈ dn, i < m
  hist : ∀ j ∈ dn, (∃ dj, (∀ x ∈ dj, x ∈ dn) ∧ LookAt ops m dj j) ∧ ∀ oi d, ops[j]? = some oi → oi.dst = some d → d ∉ oi.looksAt ops
  fin : ∀ i ∈ dn, i ∈ pd ∨ listed.getD i true = true
  wls : ∀ i ∈ wl, listed.getD i true = true
  pend : ∀ i ∈ pd, i ∈ dn ∧ listed.getD i true = false ∧ PendT P C ops m pd E a w i
  rest : ∀ i, i < m → i ∉ dn → listed.getD i true = false
  tail : ∀ t, m ≤ t → t < ops.size → listed.getD t true = false
  asz : a.tmps.size = C.n
  dfr : a.defers = []
  keys : ∀ t v, look E t = some v → t < C.n
  val : ∀ t v, look E t = some v → (∀ i ∈ pd, ∀ o : Oper, ops[i]? = some o → o.dst ≠ some t) → a.tmps[t]? = some v
  mem : Holds C W R w

theorem PendT.ext {m : Nat} {pd : List Nat} {E : Env} {a : Act} {w w' : World} {i : Nat} (h : PendT P C ops m pd E a w i) (he : Ext w w') : PendT P C ops m pd E a w' i := by
  obtain ⟨o, d, v, E', W', R', h1, h2, h3, h4, h5, h6, h7⟩ := h.ex
  exact ⟨o, d, v, E', W', R', h1, h2, h3, h4, h5.ext he, h6, h7⟩

theorem InvT.anc {m : Nat} {dn wl pd : List Nat} {i k : Nat} {listed : Array Bool} {E : Env} {W : List Ent} {R : List RF} {a : Act} {w : World}
    (h : InvT P C ops m dn wl pd listed E W R a w) (hr : i ∈ Region.ready .any ops listed) (ha : Anc ops i k) : listed.getD k false = true := by
  obtain ⟨_, o, ho, hall⟩ := ready_spec hr
  exact ha.listed h.closed fun o' ho' => by
    have : o' = o := Option.some.inj (ho'.symm.trans ho)
    subst this
    exact hall

theorem InvT.absorb {m : Nat} {dn wl pd : List Nat} {i : Nat} {listed : Array Bool} {E : Env} {W : List Ent} {R : List RF} {a : Act} {w : World} (hG : Glob ops m)
    (h : InvT P C ops m dn wl pd listed E W R a w) (hc : Chk ops m dn i) {o : Oper} {d : Nat} {v : Value} (ho : ops[i]? = some o) (hd : o.dst = some d) (hn : Nat.blt d C.n = true) (hv : OpW P C ops E W R o v) :
    InvT P C ops m (dn ++ [i]) wl (i :: pd) listed ((d, v) :: E) W R a w := by
  have hlp : ∀ j ∈ pd, j < m := fun j hj => h.ltm j (h.pend j hj).1
  have hnd : ∀ j ∈ pd, j ≠ i := fun j hj e => by subst e; exact hc.new (h.pend j hj).1
  refine ⟨h.size, h.closed, ?_, ?_, ?_, h.wls, ?_, ?_, h.tail, h.asz, h.dfr, ?_, ?_, h.mem⟩
  · intro j hj
    rcases List.mem_append.1 hj with hj | hj
    · exact h.ltm j hj
    · simp at hj; subst hj; exact hc.lt
  · intro j hj
    rcases List.mem_append.1 hj with hj | hj
    · obtain ⟨⟨dj, h1, h2⟩, h3⟩ := h.hist j hj
      exact ⟨⟨dj, fun x hx => List.mem_append_left _ (h1 x hx), h2⟩, h3⟩
    · simp at hj; subst hj
      exact ⟨⟨dn, fun x hx => List.mem_append_left _ hx, hc.look⟩, hc.self⟩
  · intro j hj
    rcases List.mem_append.1 hj with hj | hj
    · exact (h.fin j hj).imp (List.mem_cons_of_mem _) id
    · simp at hj; subst hj; exact .inl (.head _)
  · intro j hj
    rcases List.mem_cons.1 hj with rfl | hj
    · refine ⟨by simp, h.rest j hc.lt hc.new, ⟨o, d, v, E, W, R, ho, hd, look_cons_same, hv, h.mem, h.keys, fun t ht u hu => ?_⟩⟩
      by_cases e : t = d
      · subst e
        exact absurd ht (hc.self o t ho hd)
      · refine .inl ⟨by rw [look_cons_ne e]; exact hu, fun k hk ok hok hdk => ?_⟩
        rcases List.mem_cons.1 hk with rfl | hk
        · have : ok = o := Option.some.inj (hok.symm.trans ho)
          subst this
          rw [hd] at hdk
          exact absurd (Option.some.inj hdk).symm e
        · rcases hc.look k (hlp k hk) (hnd k hk) o ok t ho hok hdk ht with ⟨_, h5⟩ | ⟨h5, _⟩
          · exact h5
          · exact absurd (h.pend k hk).1 h5
    · obtain ⟨h1, h2, oj, dj, vj, E', W', R', g1, g2, g3, g4, g5, g6, g7⟩ := h.pend j hj
      have hne := hnd j hj
      have hdd : dj ≠ d := fun e => hG.dst i j hc.lt (hlp j hj) (Ne.symm hne) o oj d ho g1 hd (by rw [g2, e])
      refine ⟨List.mem_append_left _ h1, h2, oj, dj, vj, E', W', R', g1, g2, by rw [look_cons_ne hdd]; exact g3, g4, g5, g6, fun t ht u hu => ?_⟩
      rcases g7 t ht u hu with ⟨hA, hA2⟩ | hB
      · by_cases e : t = d
        · subst e
          obtain ⟨⟨dj', hs1, hs2⟩, _⟩ := h.hist j h1
          rcases hs2 i hc.lt (Ne.symm hne) oj o t g1 ho hd ht with ⟨this, _⟩ | ⟨_, h5⟩
          · exact absurd (hs1 i this) hc.new
          · refine .inr ⟨h.val t u hA fun k hk ok hok hdk => ?_, i, hc.lt, o, ho, hd, h5⟩
            exact hG.dst i k hc.lt (hlp k hk) (Ne.symm (hnd k hk)) o ok t ho hok hd hdk
        · refine .inl ⟨by rw [look_cons_ne e]; exact hA, fun k hk ok hok hdk => ?_⟩
          rcases List.mem_cons.1 hk with rfl | hk
          · have : ok = o := Option.some.inj (hok.symm.trans ho)
            subst this
            rw [hd] at hdk
            exact absurd (Option.some.inj hdk).symm e
          · exact hA2 k hk ok hok hdk
      · exact .inr hB
  · intro j hj hnj
    exact h.rest j hj fun hm => hnj (List.mem_append_left _ hm)
  · intro t u hu
    by_cases e : t = d
    · subst e; simp [Nat.blt] at hn; omega
    · rw [look_cons_ne e] at hu; exact h.keys t u hu
  · intro t u hu hp
    have e : t ≠ d := fun e => hp i (.head _) o ho (by rw [hd, e])
    rw [look_cons_ne e] at hu
    exact h.val t u hu fun j hj => hp j (List.mem_cons_of_mem _ hj)

theorem InvT.exec {m : Nat} {dn wl pd : List Nat} {i : Nat} {listed : Array Bool} {E : Env} {W : List Ent} {R : List RF} {a : Act} {w : World} (hG : Glob ops m)
    (h : InvT P C ops m dn wl pd listed E W R a w) (hp : i ∈ pd) (hr : i ∈ Region.ready .any ops listed) {K : Act → World → Prop}
    (hK : ∀ a' w', InvT P C ops m dn wl (pd.filter (fun j => !(Nat.beq j i))) (listed.setIfInBounds i true) E W R a' w' → K a' w') : wpOp P ops Q i K a w := by
  obtain ⟨h1, h2, o, d, v, E', W', R', g1, g2, g3, g4, g5, g6, g7⟩ := h.pend i hp
  have him := h.ltm i h1
  have hi : i < listed.size := by rw [h.size]; exact (Array.getElem?_eq_some_iff.1 g1).1
  have hlook : ∀ t ∈ o.looksAt ops, ∀ u, look E' t = some u → a.tmps[t]? = some u := by
    intro t ht u hu
    rcases g7 t ht u hu with ⟨hA, hA2⟩ | ⟨hB, _⟩
    · refine h.val t u hA fun j hj oj hoj hd => ?_
      by_cases hji : j = i
      · subst hji
        have : oj = o := Option.some.inj (hoj.symm.trans g1)
        subst this
        exact (h.hist j h1).2 oj t hoj hd ht
      · have := h.anc hr (hA2 j hj oj hoj hd)
        rw [getD_tf (h.pend j hj).2.1] at this
        cases this
    · exact hB
  obtain ⟨a', hfr, hsame⟩ := fill_act (E := E') h.asz g6
  obtain ⟨he, hw⟩ := eval_same (ops := ops) (a := a) (a' := a') (o := o) (fun t ht => hsame t fun u hu => hlook t ht u hu) (fun cs b => hG.noSel i o cs b g1)
  have hmemf : ∀ j, j ∈ pd.filter (fun j => !(Nat.beq j i)) ↔ j ∈ pd ∧ j ≠ i := by
    intro j
    simp only [List.mem_filter, Bool.not_eq_true']
    refine and_congr_right fun _ => ⟨fun hb e => by subst e; simp at hb, fun hne => ?_⟩
    exact beqF fun hb => hne (Nat.eq_of_beq_eq_true hb)
  have next : ∀ w', Ext w w' → InvT P C ops m dn wl (pd.filter (fun j => !(Nat.beq j i))) (listed.setIfInBounds i true) E W R (a.put o.dst v) w' := by
    intro w' hx
    refine ⟨by simp [h.size], closed_set h.closed hr, h.ltm, h.hist, ?_, fun j hj => getD_set_true' (h.wls j hj), ?_, ?_, ?_, by simp [g2, Act.put, h.asz], by rw [g2]; exact h.dfr, h.keys, ?_, h.mem.ext hx⟩
    · intro j hj
      by_cases hji : j = i
      · subst hji; right
        simp [hi]
      · rcases h.fin j hj with hj | hj
        · exact .inl ((hmemf j).2 ⟨hj, hji⟩)
        · exact .inr (getD_set_true' hj)
    · intro j hj
      obtain ⟨hj, hji⟩ := (hmemf j).1 hj
      obtain ⟨k1, k2, k3⟩ := h.pend j hj
      refine ⟨k1, by rw [getD_set_ne true (Ne.symm hji)]; exact k2, ?_⟩
      obtain ⟨oj, dj, vj, E', W1, R1, q1, q2, q3, q4, q5, q6, q7⟩ := (k3.ext hx).ex
      refine ⟨oj, dj, vj, E', W1, R1, q1, q2, q3, q4, q5, q6, fun t ht u hu => ?_⟩
      rcases q7 t ht u hu with ⟨hA, hA2⟩ | ⟨hB, j', hj', oj', hoj', hd', ha'⟩
      · exact .inl ⟨hA, fun k hk => hA2 k ((hmemf k).1 hk).1⟩
      · refine .inr ⟨?_, j', hj', oj', hoj', hd', ha'⟩
        rw [g2]
        simp only [Act.put, Array.getElem?_setIfInBounds]
        rw [if_neg]
        · exact hB
        · intro e
          subst e
          by_cases hji' : j' = i
          · subst hji'
            have := h.anc hr ha'
            rw [getD_tf k2] at this
            cases this
          · exact hG.dst i j' him hj' (Ne.symm hji') o oj' d g1 hoj' g2 hd'
    · intro j hj hnj
      have hji : j ≠ i := fun e => by subst e; exact hnj h1
      rw [getD_set_ne true (Ne.symm hji)]; exact h.rest j hj hnj
    · intro t ht ht2
      have : t ≠ i := fun e => by omega
      rw [getD_set_ne true (Ne.symm this)]; exact h.tail t ht ht2
    · intro t u hu hpn
      rw [g2]
      simp only [Act.put, Array.getElem?_setIfInBounds]
      by_cases e : d = t
      · subst e
        rw [g3] at hu; cases hu
        have := h.keys d v g3
        simp [h.asz, this]
      · rw [if_neg e]
        refine h.val t u hu fun j hj oj hoj hdj => ?_
        by_cases hji : j = i
        · subst hji
          have : oj = o := Option.some.inj (hoj.symm.trans g1)
          subst this
          rw [g2] at hdj
          exact e (Option.some.inj hdj)
        · exact hpn j ((hmemf j).2 ⟨hj, hji⟩) oj hoj hdj
  unfold wpOp
  simp only [g1]
  rcases g4 a' w ⟨hfr, g5⟩ with ⟨hwt, hres⟩ | ⟨hwt, rfl⟩
  · rw [hw] at hwt
    simp only [hwt, if_true]
    rw [he] at hres
    exact .inl (hres.wp fun v' w' ⟨hv, hx⟩ => by subst hv; exact hK _ _ (next w' hx))
  · rw [hw] at hwt
    simp only [hwt, Bool.false_eq_true, if_false]
    exact hK _ _ (next w (Keep.refl _ _))

/-- what the slots hold that a new one looks at -/
theorem InvT.looks {m : Nat} {dn wl pd : List Nat} {i : Nat} {listed : Array Bool} {E : Env} {W : List Ent} {R : List RF} {a : Act} {w : World}
    (h : InvT P C ops m dn wl pd listed E W R a w) (hc : Chk ops m dn i) (hr : i ∈ Region.ready .any ops listed) {o : Oper} (g1 : ops[i]? = some o) : ∀ t ∈ o.looksAt ops, ∀ u, look E t = some u → a.tmps[t]? = some u := by
  intro t ht u hu
  refine h.val t u hu fun j hj oj hoj hd => ?_
  have hji : j ≠ i := fun e => by subst e; exact hc.new (h.pend j hj).1
  rcases hc.look j (h.ltm j (h.pend j hj).1) hji o oj t g1 hoj hd ht with ⟨_, ha⟩ | ⟨hn', _⟩
  · have := h.anc hr ha
    rw [getD_tf (h.pend j hj).2.1] at this
    cases this
  · exact hn' (h.pend j hj).1

theorem InvT.execW {m : Nat} {dn wl pd : List Nat} {i : Nat} {listed : Array Bool} {E : Env} {W : List Ent} {R : List RF} {a : Act} {w : World} (hG : Glob ops m)
    (h : InvT P C ops m dn wl pd listed E W R a w) (hc : Chk ops m dn i) (hr : i ∈ Region.ready .any ops listed) {o : Oper} {d : Nat} (g1 : ops[i]? = some o) (g2 : o.dst = some d) (hn : Nat.blt d C.n = true)
    (hw : Wn ops E o) {Φ : Value → List Ent → List RF → Prop} (hx : ∀ a w, St C E W R a w → ResX P ((execOp a.eval o).run P w) fun v w' => ∃ W' R', Holds C W' R' w' ∧ Ext w w' ∧ Φ v W' R')
    {K : Act → World → Prop}
    (hK : ∀ v W' R' a' w', Φ v W' R' → InvT P C ops m (dn ++ [i]) (i :: wl) pd (listed.setIfInBounds i true) ((d, v) :: E) W' R' a' w' → K a' w') : wpOp P ops Q i K a w := by
  have him := hc.lt
  have hpi : ∀ j ∈ pd, j ≠ i := fun j hj e => by subst e; exact hc.new (h.pend j hj).1
  have hi : i < listed.size := by rw [h.size]; exact (Array.getElem?_eq_some_iff.1 g1).1
  obtain ⟨a', hfr, hsame⟩ := fill_act (E := E) h.asz h.keys
  obtain ⟨he, hwd⟩ := eval_same (ops := ops) (a := a) (a' := a') (o := o) (fun t ht => hsame t fun u hu => h.looks hc hr g1 t ht u hu) (fun cs b => hG.noSel i o cs b g1)
  have next : ∀ v W' R' w', Ext w w' → Holds C W' R' w' → InvT P C ops m (dn ++ [i]) (i :: wl) pd (listed.setIfInBounds i true) ((d, v) :: E) W' R' (a.put o.dst v) w' := by
    intro v W' R' w' hxt hm
    refine ⟨by simp [h.size], closed_set h.closed hr, ?_, ?_, ?_, ?_, ?_, ?_, ?_, by simp [g2, Act.put, h.asz], by rw [g2]; exact h.dfr, ?_, ?_, hm⟩
    · intro j hj
      rcases List.mem_append.1 hj with hj | hj
      · exact h.ltm j hj
      · simp at hj; subst hj; exact hc.lt
    · intro j hj
      rcases List.mem_append.1 hj with hj | hj
      · obtain ⟨⟨dj, h1, h2⟩, h3⟩ := h.hist j hj
        exact ⟨⟨dj, fun x hx => List.mem_append_left _ (h1 x hx), h2⟩, h3⟩
      · simp at hj; subst hj
        exact ⟨⟨dn, fun x hx => List.mem_append_left _ hx, hc.look⟩, hc.self⟩
    · intro j hj
      rcases List.mem_append.1 hj with hj | hj
      · exact (h.fin j hj).imp id getD_set_true'
      · simp at hj; subst hj; right; simp [hi]
    · intro j hj
      rcases List.mem_cons.1 hj with rfl | hj
      · simp [hi]
      · exact getD_set_true' (h.wls j hj)
    · intro j hj
      obtain ⟨k1, k2, k3⟩ := h.pend j hj
      have hne := hpi j hj
      refine ⟨List.mem_append_left _ k1, by rw [getD_set_ne true (Ne.symm hne)]; exact k2, ?_⟩
      obtain ⟨oj, dj, vj, E', W1, R1, q1, q2, q3, q4, q5, q6, q7⟩ := (k3.ext hxt).ex
      have hjm := h.ltm j k1
      have hdd : dj ≠ d := fun e => hG.dst i j him hjm (Ne.symm hne) o oj d g1 q1 g2 (by rw [q2, e])
      refine ⟨oj, dj, vj, E', W1, R1, q1, q2, by rw [look_cons_ne hdd]; exact q3, q4, q5, q6, fun t ht u hu => ?_⟩
      have hnai : ¬ Anc ops i j := fun ha => by
        have := h.anc hr ha
        rw [getD_tf k2] at this
        cases this
      rcases q7 t ht u hu with ⟨hA, hA2⟩ | ⟨hB, j', hj', oj', hoj', hd', ha'⟩
      · by_cases e : t = d
        · subst e
          obtain ⟨⟨dj', hs1, hs2⟩, _⟩ := h.hist j k1
          rcases hs2 i him (Ne.symm hne) oj o t q1 g1 g2 ht with ⟨this, _⟩ | ⟨_, h5⟩
          · exact absurd (hs1 i this) hc.new
          · exact absurd h5 hnai
        · exact .inl ⟨by rw [look_cons_ne e]; exact hA, hA2⟩
      · refine .inr ⟨?_, j', hj', oj', hoj', hd', ha'⟩
        rw [g2]
        simp only [Act.put, Array.getElem?_setIfInBounds]
        rw [if_neg]
        · exact hB
        · intro e
          subst e
          by_cases hji' : j' = i
          · subst hji'
            exact hnai ha'
          · exact hG.dst i j' him hj' (Ne.symm hji') o oj' d g1 hoj' g2 hd'
    · intro j hj hnj
      have hji : j ≠ i := fun e => by subst e; exact hnj (by simp)
      rw [getD_set_ne true (Ne.symm hji)]; exact h.rest j hj fun hm => hnj (List.mem_append_left _ hm)
    · intro t ht ht2
      have : t ≠ i := fun e => by omega
      rw [getD_set_ne true (Ne.symm this)]; exact h.tail t ht ht2
    · intro t u hu
      by_cases e : t = d
      · subst e; simp [Nat.blt] at hn; omega
      · rw [look_cons_ne e] at hu; exact h.keys t u hu
    · intro t u hu hpn
      rw [g2]
      simp only [Act.put, Array.getElem?_setIfInBounds]
      by_cases e : t = d
      · subst e
        rw [look_cons_same] at hu; cases hu
        simp [Nat.blt] at hn
        have : t < C.n := by omega
        simp [h.asz, this]
      · rw [if_neg (fun e' => e e'.symm)]
        rw [look_cons_ne e] at hu
        exact h.val t u hu hpn
  unfold wpOp
  have hwt := hw _ _ hfr
  rw [hwd] at hwt
  simp only [g1, hwt, if_true]
  have hres := hx a' w ⟨hfr, h.mem⟩
  rw [he] at hres
  exact .inl (hres.wp fun v w' ⟨W', R', hm, hxt, hp⟩ => hK v W' R' _ _ hp (next v W' R' w' hxt hm))

/-- one that answers and may write, while others are still to come -/
theorem InvT.execY {m : Nat} {dn wl pd ps : List Nat} {i : Nat} {listed : Array Bool} {E : Env} {W : List Ent} {R : List RF} {a : Act} {w : World} (hG : Glob ops m)
    (h : InvT P C ops m dn wl pd listed E W R a w) (hc : Chk ops m dn i) (hS : FitS ops dn wl i ps) (hr : i ∈ Region.ready .any ops listed) {o : Oper} {d : Nat} (g1 : ops[i]? = some o) (g2 : o.dst = some d) (hn : Nat.blt d C.n = true)
    (hw : Wn ops E o) {Φ : Value → List Ent → List RF → Prop} (hx : ∀ a w, St C E W R a w → ResX P ((execOp a.eval o).run P w) fun v w' => ∃ W' R', Holds C W' R' w' ∧
        (∀ j ∈ ps, ∃ oj dj vj, ops[j]? = some oj ∧ oj.dst = some dj ∧ look E dj = some vj ∧ OpW P C ops E W' R' oj vj) ∧ Φ v W' R')
    {K : Act → World → Prop}
    (hK : ∀ v W' R' a' w', Φ v W' R' → InvT P C ops m (dn ++ [i]) (i :: wl) pd (listed.setIfInBounds i true) ((d, v) :: E) W' R' a' w' → K a' w') : wpOp P ops Q i K a w := by
  have him := hc.lt
  have hpi : ∀ j ∈ pd, j ≠ i := fun j hj e => by subst e; exact hc.new (h.pend j hj).1
  have hi : i < listed.size := by rw [h.size]; exact (Array.getElem?_eq_some_iff.1 g1).1
  obtain ⟨a', hfr, hsame⟩ := fill_act (E := E) h.asz h.keys
  obtain ⟨he, hwd⟩ := eval_same (ops := ops) (a := a) (a' := a') (o := o) (fun t ht => hsame t fun u hu => h.looks hc hr g1 t ht u hu) (fun cs b => hG.noSel i o cs b g1)
  have next : ∀ v W' R' w', Holds C W' R' w' → (∀ j ∈ ps, ∃ oj dj vj, ops[j]? = some oj ∧ oj.dst = some dj ∧ look E dj = some vj ∧ OpW P C ops E W' R' oj vj) → InvT P C ops m (dn ++ [i]) (i :: wl) pd (listed.setIfInBounds i true) ((d, v) :: E) W' R' (a.put o.dst v) w' := by
    intro v W' R' w' hm hps
    refine ⟨by simp [h.size], closed_set h.closed hr, ?_, ?_, ?_, ?_, ?_, ?_, ?_, by simp [g2, Act.put, h.asz], by rw [g2]; exact h.dfr, ?_, ?_, hm⟩
    · intro j hj
      rcases List.mem_append.1 hj with hj | hj
      · exact h.ltm j hj
      · simp at hj; subst hj; exact hc.lt
    · intro j hj
      rcases List.mem_append.1 hj with hj | hj
      · obtain ⟨⟨dj, h1, h2⟩, h3⟩ := h.hist j hj
        exact ⟨⟨dj, fun x hx => List.mem_append_left _ (h1 x hx), h2⟩, h3⟩
      · simp at hj; subst hj
        exact ⟨⟨dn, fun x hx => List.mem_append_left _ hx, hc.look⟩, hc.self⟩
    · intro j hj
      rcases List.mem_append.1 hj with hj | hj
      · exact (h.fin j hj).imp id getD_set_true'
      · simp at hj; subst hj; right; simp [hi]
    · intro j hj
      rcases List.mem_cons.1 hj with rfl | hj
      · simp [hi]
      · exact getD_set_true' (h.wls j hj)
    · intro j hj
      obtain ⟨k1, k2, _⟩ := h.pend j hj
      have hne := hpi j hj
      refine ⟨List.mem_append_left _ k1, by rw [getD_set_ne true (Ne.symm hne)]; exact k2, ?_⟩
      have hin : j ∈ ps := by
        rcases hS.1 j k1 with h5 | h5 | h5
        · exact h5
        · have := h.anc hr h5
          rw [getD_tf k2] at this
          cases this
        · rw [h.wls j h5] at k2; cases k2
      obtain ⟨oj, dj, vj, q1, q2, q3, q4⟩ := hps j hin
      have hjm := h.ltm j k1
      have hdd : dj ≠ d := fun e => hG.dst i j him hjm (Ne.symm hne) o oj d g1 q1 g2 (by rw [q2, e])
      have hnai : ¬ Anc ops i j := fun ha => by
        have := h.anc hr ha
        rw [getD_tf k2] at this
        cases this
      refine ⟨oj, dj, vj, E, W', R', q1, q2, by rw [look_cons_ne hdd]; exact q3, q4, hm, h.keys, fun t ht u hu => .inl ⟨?_, fun k hk ok hok hdk => ?_⟩⟩
      · by_cases e : t = d
        · subst e
          obtain ⟨⟨dj', hs1, hs2⟩, _⟩ := h.hist j k1
          rcases hs2 i him (Ne.symm hne) oj o t q1 g1 g2 ht with ⟨this, _⟩ | ⟨_, h5⟩
          · exact absurd (hs1 i this) hc.new
          · exact absurd h5 hnai
        · rw [look_cons_ne e]; exact hu
      · have hkj : k ≠ j := fun e => by
          subst e
          have : ok = oj := Option.some.inj (hok.symm.trans q1)
          subst this
          exact (h.hist k k1).2 ok t hok hdk ht
        exact (hS.2 j hin).2 k (h.pend k hk).1 hkj ok oj t hok q1 hdk ht
    · intro j hj hnj
      have hji : j ≠ i := fun e => by subst e; exact hnj (by simp)
      rw [getD_set_ne true (Ne.symm hji)]; exact h.rest j hj fun hm => hnj (List.mem_append_left _ hm)
    · intro t ht ht2
      have : t ≠ i := fun e => by omega
      rw [getD_set_ne true (Ne.symm this)]; exact h.tail t ht ht2
    · intro t u hu
      by_cases e : t = d
      · subst e; simp [Nat.blt] at hn; omega
      · rw [look_cons_ne e] at hu; exact h.keys t u hu
    · intro t u hu hpn
      rw [g2]
      simp only [Act.put, Array.getElem?_setIfInBounds]
      by_cases e : t = d
      · subst e
        rw [look_cons_same] at hu; cases hu
        simp [Nat.blt] at hn
        have : t < C.n := by omega
        simp [h.asz, this]
      · rw [if_neg (fun e' => e e'.symm)]
        rw [look_cons_ne e] at hu
        exact h.val t u hu hpn
  unfold wpOp
  have hwt := hw _ _ hfr
  rw [hwd] at hwt
  simp only [g1, hwt, if_true]
  have hres := hx a' w ⟨hfr, h.mem⟩
  rw [he] at hres
  exact .inl (hres.wp fun v w' ⟨W', R', hm, hps, hp⟩ => hK v W' R' _ _ hp (next v W' R' w' hm hps))

/-- a store, while others are still to come -/
theorem InvT.execS {m : Nat} {dn wl pd ps : List Nat} {i : Nat} {listed : Array Bool} {E : Env} {W : List Ent} {R : List RF} {a : Act} {w : World} (hG : Glob ops m)
    (h : InvT P C ops m dn wl pd listed E W R a w) (hc : Chk ops m dn i) (hS : FitS ops dn wl i ps) (hr : i ∈ Region.ready .any ops listed) {o : Oper} (g1 : ops[i]? = some o) (g2 : o.dst = none)
    (hw : Wn ops E o) {Φ : List Ent → List RF → Prop} (hx : ∀ a w, St C E W R a w → ResX P ((execOp a.eval o).run P w) fun _ w' => ∃ W' R', Holds C W' R' w' ∧
        (∀ j ∈ ps, ∃ oj dj vj, ops[j]? = some oj ∧ oj.dst = some dj ∧ look E dj = some vj ∧ OpW P C ops E W' R' oj vj) ∧ Φ W' R')
    {K : Act → World → Prop}
    (hK : ∀ W' R' a' w', Φ W' R' → InvT P C ops m (dn ++ [i]) (i :: wl) pd (listed.setIfInBounds i true) E W' R' a' w' → K a' w') : wpOp P ops Q i K a w := by
  have him := hc.lt
  have hpi : ∀ j ∈ pd, j ≠ i := fun j hj e => by subst e; exact hc.new (h.pend j hj).1
  have hi : i < listed.size := by rw [h.size]; exact (Array.getElem?_eq_some_iff.1 g1).1
  obtain ⟨a', hfr, hsame⟩ := fill_act (E := E) h.asz h.keys
  obtain ⟨he, hwd⟩ := eval_same (ops := ops) (a := a) (a' := a') (o := o) (fun t ht => hsame t fun u hu => h.looks hc hr g1 t ht u hu) (fun cs b => hG.noSel i o cs b g1)
  have next : ∀ W' R' w', Holds C W' R' w' → (∀ j ∈ ps, ∃ oj dj vj, ops[j]? = some oj ∧ oj.dst = some dj ∧ look E dj = some vj ∧ OpW P C ops E W' R' oj vj) →
      InvT P C ops m (dn ++ [i]) (i :: wl) pd (listed.setIfInBounds i true) E W' R' a w' := by
    intro W' R' w' hm hps
    refine ⟨by simp [h.size], closed_set h.closed hr, ?_, ?_, ?_, ?_, ?_, ?_, ?_, h.asz, h.dfr, h.keys, h.val, hm⟩
    · intro j hj
      rcases List.mem_append.1 hj with hj | hj
      · exact h.ltm j hj
      · simp at hj; subst hj; exact hc.lt
    · intro j hj
      rcases List.mem_append.1 hj with hj | hj
      · obtain ⟨⟨dj, h1, h2⟩, h3⟩ := h.hist j hj
        exact ⟨⟨dj, fun x hx => List.mem_append_left _ (h1 x hx), h2⟩, h3⟩
      · simp at hj; subst hj
        exact ⟨⟨dn, fun x hx => List.mem_append_left _ hx, hc.look⟩, hc.self⟩
    · intro j hj
      rcases List.mem_append.1 hj with hj | hj
      · exact (h.fin j hj).imp id getD_set_true'
      · simp at hj; subst hj; right; simp [hi]
    · intro j hj
      rcases List.mem_cons.1 hj with rfl | hj
      · simp [hi]
      · exact getD_set_true' (h.wls j hj)
    · intro j hj
      obtain ⟨k1, k2, _⟩ := h.pend j hj
      have hne := hpi j hj
      refine ⟨List.mem_append_left _ k1, by rw [getD_set_ne true (Ne.symm hne)]; exact k2, ?_⟩
      have hin : j ∈ ps := by
        rcases hS.1 j k1 with h5 | h5 | h5
        · exact h5
        · have := h.anc hr h5
          rw [getD_tf k2] at this
          cases this
        · rw [h.wls j h5] at k2; cases k2
      obtain ⟨oj, dj, vj, q1, q2, q3, q4⟩ := hps j hin
      refine ⟨oj, dj, vj, E, W', R', q1, q2, q3, q4, hm, h.keys, fun t ht u hu => .inl ⟨hu, fun k hk ok hok hdk => ?_⟩⟩
      have hkj : k ≠ j := fun e => by
        subst e
        have : ok = oj := Option.some.inj (hok.symm.trans q1)
        subst this
        exact (h.hist k k1).2 ok t hok hdk ht
      exact (hS.2 j hin).2 k (h.pend k hk).1 hkj ok oj t hok q1 hdk ht
    · intro j hj hnj
      have hji : j ≠ i := fun e => by subst e; exact hnj (by simp)
      rw [getD_set_ne true (Ne.symm hji)]; exact h.rest j hj fun hm => hnj (List.mem_append_left _ hm)
    · intro t ht ht2
      have : t ≠ i := fun e => by omega
      rw [getD_set_ne true (Ne.symm this)]; exact h.tail t ht ht2
  unfold wpOp
  have hwt := hw _ _ hfr
  rw [hwd] at hwt
  simp only [g1, hwt, if_true]
  have hres := hx a' w ⟨hfr, h.mem⟩
  rw [he] at hres
  refine .inl (hres.wp fun v w' ⟨W', R', hm, hps, hp⟩ => hK W' R' _ _ hp ?_)
  rw [g2]
  exact next W' R' w' hm hps


theorem tail_runT {m : Nat} (hF : Glob ops m) : ∀ (f k : Nat) (listed : Array Bool) (a : Act) (w : World), ops.size - k = f → m ≤ k → k ≤ ops.size → listed.size = ops.size → Closed ops listed →
    (∀ j, j < k → listed.getD j true = true) → (∀ j, k ≤ j → j < ops.size → listed.getD j true = false) → wpList P ops Q (ops.toList.drop k) a w → wpAny P .any ops Q f listed a w := by
  intro f
  induction f with
  | zero =>
    intro k listed a w hf hm hk hs hc h1 h2 hw
    have : k = ops.size := by omega
    subst this
    have hr : Region.ready .any ops listed = [] := by
      rw [List.eq_nil_iff_forall_not_mem]
      intro i hi
      obtain ⟨hu, o, ho, _⟩ := ready_spec hi
      rw [h1 i (Array.getElem?_eq_some_iff.1 ho).1] at hu
      cases hu
    rw [List.drop_of_length_le (by simp)] at hw
    exact ⟨hr, by simpa [wpList] using hw⟩
  | succ f ih =>
    intro k listed a w hf hm hk hs hc h1 h2 hw
    have hkl : k < ops.size := by omega
    have honly : ∀ i ∈ Region.ready .any ops listed, i = k := by
      intro i hi
      obtain ⟨hu, o, ho, hall⟩ := ready_spec hi
      have hio := (Array.getElem?_eq_some_iff.1 ho).1
      have hki : k ≤ i := by
        rcases Nat.lt_or_ge i k with h | h
        · rw [h1 i h] at hu; cases hu
        · exact h
      rcases Nat.lt_or_ge k i with h | h
      · have ha := hF.tail i (by omega) hio k h
        have hdir : listed.getD k false = true := ha.listed hc fun o' ho' => by
          have : o' = o := Option.some.inj (ho'.symm.trans ho)
          subst this
          exact hall
        rw [getD_tf (h2 k (Nat.le_refl _) hkl)] at hdir
        cases hdir
      · omega
    have hdrop : ops.toList.drop k = ops[k] :: ops.toList.drop (k + 1) := by
      rw [List.drop_eq_getElem_cons (by simpa using hkl)]; simp
    rw [hdrop] at hw
    have hkr : k ∈ Region.ready .any ops listed := by
      refine mem_ready.2 ⟨h2 k (Nat.le_refl _) hkl, ops[k], by simp [hkl], fun e he hb => ?_⟩
      have := hF.edges k ops[k] e (by simp [hkl]) he hb
      have h3 := h1 e.on this
      rw [Array.getD_eq_getD_getElem?] at h3 ⊢
      rw [Array.getElem?_eq_getElem (by omega)] at h3 ⊢
      exact h3
    refine ⟨fun hr => absurd (hr ▸ hkr) (by simp), fun i hi => ?_⟩
    · have := honly i hi
      subst this
      unfold wpOp
      have ho : ops[i]? = some ops[i] := by simp [hkl]
      simp only [ho]
      simp only [wpList] at hw
      have next : ∀ a' w', wpList P ops Q (ops.toList.drop (i + 1)) a' w' → wpAny P .any ops Q f (listed.setIfInBounds i true) a' w' := by
        intro a' w' hw'
        refine ih (i + 1) _ a' w' (by omega) (by omega) (by omega) (by simp [hs]) (closed_set hc hi) ?_ ?_ hw'
        · intro j hj
          by_cases e : j = i
          · subst e; simp [hs, hkl]
          · exact getD_set_true' (h1 j (by omega))
        · intro j hj hj2
          rw [getD_set_ne true (by omega)]
          exact h2 j (by omega) hj2
      split
      · rename_i hwt
        rw [if_pos hwt] at hw
        exact hw.imp (Oper.wp_mono next) id
      · rename_i hwt
        rw [if_neg hwt] at hw
        exact next _ _ hw


theorem InvT.toTail {m : Nat} {dn wl pd : List Nat} {t : Tr} {br : Bool} {listed : Array Bool} {E : Env} {W : List Ent} {R : List RF} {a : Act} {w : World}
    (h : InvT P C ops m dn wl pd listed E W R a w) (hf : FitT ops m t br dn wl) (hall : ∀ i, i < m → listed.getD i true = true) (hc : CanT P C ops Q m t E W R) : wpList P ops Q (ops.toList.drop m) a w := by
  have hp : pd = [] := by
    cases pd with
    | nil => rfl
    | cons i q =>
      obtain ⟨h0, h1, _⟩ := h.pend i (.head _)
      rw [hall i (h.ltm i h0)] at h1
      cases h1
  subst hp
  have hdn : ∀ i, i < m → i ∈ dn := fun i hi => by
    false_or_by_contra
    rename_i hn
    have := h.rest i hi hn
    rw [hall i hi] at this; cases this
  induction t generalizing br with
  | nil => exact hc a w ⟨⟨h.asz, h.dfr, fun t v hv => h.val t v hv (by simp)⟩, h.mem⟩
  | op i t _ => exact absurd (hdn i hf.2.1.lt) hf.2.1.new
  | w k t _ => exact absurd (hdn k hf.2.1.lt) hf.2.1.new
  | s k ps t _ => exact absurd (hdn k hf.2.1.lt) hf.2.1.new
  | y k ps t _ => exact absurd (hdn k hf.2.1.lt) hf.2.1.new
  | or2 x y ihx _ => exact ihx hf.2.1 hc.1

theorem stepBr {m f : Nat} (hG : Glob ops m)
    (ih : ∀ (t : Tr) (dn wl pd : List Nat) (listed : Array Bool) (E : Env) (W : List Ent) (R : List RF) (a : Act) (w : World), left ops listed = f → FitT ops m t false dn wl → InvT P C ops m dn wl pd listed E W R a w → CanT P C ops Q m t E W R → wpAny P .any ops Q f listed a w)
    {i : Nat} {listed : Array Bool} {a : Act} {w : World} (hi : i ∈ Region.ready .any ops listed) (hcnt : left ops (listed.setIfInBounds i true) = f) {dn wl pd : List Nat} {E : Env} {W : List Ent} {R : List RF} (h : InvT P C ops m dn wl pd listed E W R a w) :
    ∀ t : Tr, FitT ops m t true dn wl → CanT P C ops Q m t E W R → i ∈ t.heads → wpOp P ops Q i (wpAny P .any ops Q f (listed.setIfInBounds i true)) a w := by
  intro t
  induction t with
  | nil => intro _ _ hm; simp [Tr.heads] at hm
  | op k t _ => intro _ _ hm; simp [Tr.heads] at hm
  | w k t _ =>
    intro hf hc hm
    simp [Tr.heads] at hm
    subst hm
    obtain ⟨o, d, g1, g2, hn, hw, hx⟩ := hc
    exact h.execW hG hf.2.1 hi g1 g2 hn hw hx fun v W' R' a' w' hp h' => ih t _ _ _ _ _ _ _ _ _ hcnt hf.2.2 h' hp
  | s k ps t _ =>
    intro hf hc hm
    simp [Tr.heads] at hm
    subst hm
    obtain ⟨o, g1, g2, hw, hx⟩ := hc
    exact h.execS hG hf.2.1 hf.2.2.1 hi g1 g2 hw hx fun W' R' a' w' hp h' => ih t _ _ _ _ _ _ _ _ _ hcnt hf.2.2.2 h' hp
  | y k ps t _ =>
    intro hf hc hm
    simp [Tr.heads] at hm
    subst hm
    obtain ⟨o, d, g1, g2, hn, hw, hx⟩ := hc
    exact h.execY hG hf.2.1 hf.2.2.1 hi g1 g2 hn hw hx fun v W' R' a' w' hp h' => ih t _ _ _ _ _ _ _ _ _ hcnt hf.2.2.2 h' hp
  | or2 x y ihx ihy =>
    intro hf hc hm
    simp only [Tr.heads, List.mem_append] at hm
    rcases hm with hm | hm
    · exact ihx hf.2.1 hc.1 hm
    · exact ihy hf.2.2 hc.2 hm

theorem stepNew {m f : Nat} (hG : Glob ops m)
    (ih : ∀ (t : Tr) (dn wl pd : List Nat) (listed : Array Bool) (E : Env) (W : List Ent) (R : List RF) (a : Act) (w : World), left ops listed = f → FitT ops m t false dn wl → InvT P C ops m dn wl pd listed E W R a w → CanT P C ops Q m t E W R → wpAny P .any ops Q f listed a w)
    {i : Nat} {listed : Array Bool} {a : Act} {w : World} (hi : i ∈ Region.ready .any ops listed) (him : i < m) (hcnt : left ops (listed.setIfInBounds i true) = f) :
    ∀ (t : Tr) (dn wl pd : List Nat) (E : Env) (W : List Ent) (R : List RF), FitT ops m t false dn wl → InvT P C ops m dn wl pd listed E W R a w → CanT P C ops Q m t E W R → i ∉ dn →
      wpOp P ops Q i (wpAny P .any ops Q f (listed.setIfInBounds i true)) a w := by
  have key : ∀ {dn wl pd ks : List Nat} {E : Env} {W : List Ent} {R : List RF}, InvT P C ops m dn wl pd listed E W R a w → Stuck ops m dn ks → i ∉ dn → i ∈ ks := by
    intro dn wl pd ks E W R h hs hnd
    false_or_by_contra
    rename_i hk
    obtain ⟨j, hj, hjn, ha⟩ := hs i him hnd hk
    have := h.anc hi ha
    rw [getD_tf (h.rest j hj hjn)] at this
    cases this
  intro t
  induction t with
  | nil => intro dn wl pd E W R hf h hc hnd; exact absurd (hf i him) hnd
  | op k t iht =>
    intro dn wl pd E W R hf h hc hnd
    obtain ⟨o, d, v, g1, g2, hn, hv, hc⟩ := hc
    have h' := h.absorb hG hf.2.1 g1 g2 hn hv
    by_cases hki : k = i
    · subst hki
      exact h'.exec hG (.head _) hi fun a' w' h'' => ih t _ _ _ _ _ _ _ _ _ hcnt hf.2.2 h'' hc
    · exact iht _ _ _ _ _ _ hf.2.2 h' hc (by simp [hnd, Ne.symm hki])
  | w k t _ =>
    intro dn wl pd E W R hf h hc hnd
    exact stepBr hG ih hi hcnt h (.w k t) ⟨by simp, hf.2⟩ hc (key h (hf.1 rfl) hnd)
  | s k ps t _ =>
    intro dn wl pd E W R hf h hc hnd
    exact stepBr hG ih hi hcnt h (.s k ps t) ⟨by simp, hf.2⟩ hc (key h (hf.1 rfl) hnd)
  | y k ps t _ =>
    intro dn wl pd E W R hf h hc hnd
    exact stepBr hG ih hi hcnt h (.y k ps t) ⟨by simp, hf.2⟩ hc (key h (hf.1 rfl) hnd)
  | or2 x y _ _ =>
    intro dn wl pd E W R hf h hc hnd
    exact stepBr hG ih hi hcnt h (.or2 x y) ⟨by simp, hf.2⟩ hc (key h (hf.1 rfl) hnd)

theorem main_runT {m : Nat} (hF : Glob ops m) : ∀ (f : Nat) (t : Tr) (dn wl pd : List Nat) (listed : Array Bool) (E : Env) (W : List Ent) (R : List RF) (a : Act) (w : World), left ops listed = f →
    FitT ops m t false dn wl → InvT P C ops m dn wl pd listed E W R a w → CanT P C ops Q m t E W R → wpAny P .any ops Q f listed a w := by
  intro f
  induction f with
  | zero =>
    intro t dn wl pd listed E W R a w hf hft h hc
    have hall : ∀ i, i < ops.size → listed.getD i true = true := by
      intro i hi
      cases hl : listed.getD i true with
      | true => rfl
      | false =>
        have : i ∈ (List.range ops.size).filter fun i => !listed.getD i true := by simp only [List.mem_filter, List.mem_range, hl]; exact ⟨hi, rfl⟩
        rw [List.eq_nil_of_length_eq_zero hf] at this
        cases this
    have hm : m = ops.size := by
      rcases Nat.lt_or_ge m ops.size with h' | h'
      · have := h.tail m (Nat.le_refl _) h'
        rw [hall m h'] at this; cases this
      · have := hF.le; omega
    exact tail_runT hF 0 m listed a w (by omega) (Nat.le_refl _) hF.le h.size h.closed (fun j hj => hall j (by omega)) (fun j hj hj2 => by omega) (h.toTail hft (fun i hi => hall i (by omega)) hc)
  | succ f ih =>
    intro t dn wl pd listed E W R a w hf hft h hc
    by_cases hb : ∀ i, i < m → listed.getD i true = true
    · -- all but those that come behind all others have been carried out
      have hcount : left ops listed = ops.size - m := by
        unfold left
        have : (List.range ops.size).filter (fun i => !listed.getD i true) = List.range' m (ops.size - m) := by
          have e1 : List.range ops.size = List.range' 0 m ++ List.range' m (ops.size - m) := by
            have := hF.le
            rw [List.range_eq_range']
            have e := List.range'_append (s := 0) (m := m) (n := ops.size - m) (step := 1)
            simp only [Nat.one_mul, Nat.zero_add] at e
            rw [e]
            congr 1; omega
          rw [e1, List.filter_append]
          have e2 : (List.range' 0 m).filter (fun i => !listed.getD i true) = [] := by
            rw [List.filter_eq_nil_iff]
            intro i hi
            rw [List.mem_range'_1] at hi
            rw [hb i (by omega)]; simp
          have e3 : (List.range' m (ops.size - m)).filter (fun i => !listed.getD i true) = List.range' m (ops.size - m) := by
            rw [List.filter_eq_self]
            intro i hi
            rw [List.mem_range'_1] at hi
            rw [h.tail i hi.1 (by omega)]; rfl
          rw [e2, e3, List.nil_append]
        rw [this, List.length_range']
      exact tail_runT hF (f + 1) m listed a w (by omega) (Nat.le_refl _) hF.le h.size h.closed hb (fun j hj hj2 => h.tail j hj hj2) (h.toTail hft hb hc)
    · have hb' : ∃ i, i < m ∧ listed.getD i true = false := by
        false_or_by_contra
        rename_i hn
        exact hb fun i hi => by
          cases hl : listed.getD i true with
          | true => rfl
          | false => exact absurd ⟨i, hi, hl⟩ hn
      obtain ⟨i0, hi0, hl0⟩ := hb'
      -- something comes next
      have hmin : ∀ i, i < m → listed.getD i true = false → ∃ k, k ∈ Region.ready .any ops listed := by
        intro i
        induction i using Nat.strongRecOn with
        | _ i ihh =>
          intro him hl
          have hio : i < ops.size := by have := hF.le; omega
          by_cases hall : ∀ e ∈ ops[i].after, Region.binds .any e = true → listed.getD e.on false = true
          · exact ⟨i, mem_ready.2 ⟨hl, ops[i], by simp [hio], hall⟩⟩
          · have : ∃ e, e ∈ ops[i].after ∧ Region.binds .any e = true ∧ listed.getD e.on false = false := by
              false_or_by_contra
              rename_i hn
              exact hall fun e he hb => by
                cases hl : listed.getD e.on false with
                | true => rfl
                | false => exact absurd ⟨e, he, hb, hl⟩ hn
            obtain ⟨e, he, hbd, hle⟩ := this
            have hlt := hF.edges i ops[i] e (by simp [hio]) he hbd
            exact ihh e.on hlt (by omega) (getD_ft (by rw [h.size]; omega) hle)
      obtain ⟨k0, hk0⟩ := hmin i0 hi0 hl0
      refine ⟨fun hr => absurd (hr ▸ hk0) (by simp), fun i hi => ?_⟩
      obtain ⟨hu, o, ho, hpre⟩ := ready_spec hi
      have hio := (Array.getElem?_eq_some_iff.1 ho).1
      have him : i < m := by
        rcases Nat.lt_or_ge i m with h' | h'
        · exact h'
        · have ha := hF.tail i h' hio i0 (by omega)
          have := h.anc hi ha
          rw [getD_tf hl0] at this
          cases this
      have hcnt : ∀ x : Nat, left ops (listed.setIfInBounds i true) = f := fun _ => by have := left_set h.size hu; omega
      by_cases hd : i ∈ dn
      · rcases h.fin i hd with hp | hl
        · exact h.exec hF hp hi fun a' w' h' => ih t _ _ _ _ _ _ _ _ _ (hcnt 0) hft h' hc
        · rw [hu] at hl; cases hl
      · exact stepNew hF ih hi him (hcnt 0) t _ _ _ _ _ _ hft h hc hd

end
end Go.Proofs.Ytdeacehacndopaa

namespace Go.Proofs.Ytdeacehacndopaa
open Go.RowKit

class TArr (P : Program) (t : TypeId) (m : outParam Nat) (e : outParam TypeId) : Prop where
  un : P.underlying t = some (.array m e)
/-- how a record is put together: its noughts, the places of its fields -/
class TBld (P : Program) (t : TypeId) (zs : outParam (List Value)) (pl : outParam (Nat → Option (Nat × Nat))) : Prop where
  run : ∀ vs cs w, Instr.fill pl zs.toArray vs = some cs → (Instr.build t vs.toArray).run P w = .ok (.agg cs) w

def plc (P : Program) : List Field → List (Nat × Nat) → Prop
  | [], [] => True
  | f :: fs, (o, s) :: l => f.offset = o ∧ (∀ w, (sizeOf f.type).run P w = .ok s w) ∧ plc P fs l
  | _, _ => False

theorem plc_run {P : Program} {w : World} : ∀ {fs : List Field} {l : List (Nat × Nat)}, plc P fs l →
    (fs.mapM (m := Sem) fun f => do pure (f.offset, ← sizeOf f.type)).run P w = .ok l w
  | [], [], _ => by simp
  | f :: fs, (o, s) :: l, h => by
    have := plc_run (w := w) h.2.2
    simp only [List.mapM_cons, Sem.run_bind, h.2.1, Result.andThen_ok, Sem.run_pure, this, h.1]
  | [], _ :: _, h => h.elim
  | _ :: _, [], h => h.elim

theorem TBld.struct {P : Program} {t : TypeId} {fs : Array Field} {l : List (Nat × Nat)} {size bytes : Nat} {zcs : List Value} (hu : P.underlying t = some (.struct fs)) [hz : TInfo P t size bytes zcs] (hp : plc P fs.toList l) :
    TBld P t zcs (fun i => l[i]?) := by
  refine ⟨fun vs cs w hf => ?_⟩
  obtain ⟨i, z, h1, h2, h3, h4, h5⟩ := hz.ex
  have hm := plc_run (w := w) hp
  have hm' : (fs.mapM (m := Sem) fun f => do pure (f.offset, ← sizeOf f.type)).run P w = .ok l.toArray w := by
    rw [Array.mapM_eq_mapM_toList, Sem.run_map, hm]
    rfl
  have hf' : Instr.fill (fun x => l.toArray[x]?) z.cells vs = some cs := by rw [h5]; simpa using hf
  have h6 : (zeroValue t).run P w = .ok z w := by simp [zeroValue, typeInfo, run_prog, h1, h2]
  simp only [Instr.build, Sem.run_bind, h6, Result.andThen_ok, run_under hu, hm', hf', Sem.run_pure]

theorem TBld.array {P : Program} {t e : TypeId} {m n : Nat} {ag : Bool} {size bytes : Nat} {zcs : List Value} [ha : TArr P t m e] [hs : TSz P e n ag] [hz : TInfo P t size bytes zcs] :
    TBld P t zcs (fun i => some (i * n, n)) := by
  refine ⟨fun vs cs w hf => ?_⟩
  obtain ⟨i, z, h1, h2, h3, h4, h5⟩ := hz.ex
  have hf' : Instr.fill (fun i => some (i * n, n)) z.cells vs = some cs := by rw [h5]; exact hf
  have h6 : (zeroValue t).run P w = .ok z w := by simp [zeroValue, typeInfo, run_prog, h1, h2]
  simp only [Instr.build, Sem.run_bind, h6, Result.andThen_ok, run_under ha.un, hs.sz, hf', Sem.run_pure]

section
variable {P : Program} {C : Cx} {E : Env} {W W' : List Ent} {R : List RF}
variable {d : Option Tmp} {x y z : Operand} {t t' u e : TypeId} {pos : String} {aft : Array Edge} {gd : Option (Nat × Bool)}

theorem op_build1 {ps : List (Nat × Operand)} {vs : List (Nat × Value)} {zs : List Value} {pl : Nat → Option (Nat × Nat)} (cs : List Value) [hb : TBld P t zs pl] (hp : evalPs E ps = some vs) (hf : Instr.fill pl zs.toArray vs = some cs.toArray) :
    OpR P C E W R ⟨d, .build t ps.toArray, u, pos, aft, gd⟩ (.agg cs.toArray) :=
  op_build hp fun w => hb.run vs _ w hf

theorem op_indexA {a : List Value} {v : Value} {k n m : Nat} {kk : IntKind} [hz : TSz P e n false] [ht : TArr P t m e] (hx : evalE E x = some (.agg a.toArray)) (hy : evalE E y = some (.int kk (k : Int))) (hlt : k < m) (hv : a[k]? = some v) (h1 : n = 1) :
    OpR P C E W R ⟨d, .index t x y, u, pos, aft, gd⟩ v := by
  intro a' w hs
  have h2 : (0 : Int) ≤ k ∧ (k : Int) < m := by omega
  subst h1
  simp [execOp, hs.fr.eval hx, hs.fr.eval hy, Instr.index, asIntOf, run_under ht.un, hlt, hz.sz, part, hz.ag, hv]
end

/-- the end of a call with one answer, in a variable -/
theorem doneC {P : Program} {C : Cx} {E : Env} {W : List Ent} {R : List RF} {fn : Func} {Rp : Ending → World → Prop} {t b n : Nat} {T Tv : TypeId} {cs : List Value} [hc : HasCel b W Tv cs] [hz : TSz P T n true]
    (hr : fn.results = #[.cell t T]) (hv : look E t = some (.pointer (some ⟨b, 0, none⟩))) (hl : cs.length = n) (h : ∀ w, Holds C W R w → Rp (.returned (.agg cs.toArray)) w) : ∀ a w, St C E W R a w → bodyPost P fn Rp .ret a w := by
  intro a w hs
  refine ⟨hs.fr.dfr, .agg cs.toArray, ?_, h w hs.mem⟩
  obtain ⟨sh, hm⟩ := hs.mem
  have hb := hm.own _ hc.mem
  have h1 := hs.fr.val t _ hv
  have hca : cellsAt w ⟨b, 0, none⟩ cs := fun j v hj => by rw [cell_of_cel hb]; simpa using hj
  have h2 := run_loadVar (P := P) (t := T) hl hca
  simp [results, hr, h1, h2, asAddr]

/-- the same, with a second answer in a slot -/
theorem doneC2 {P : Program} {C : Cx} {E : Env} {W : List Ent} {R : List RF} {fn : Func} {Rp : Ending → World → Prop} {t s b n : Nat} {T Tv : TypeId} {cs : List Value} {u : Value} [hc : HasCel b W Tv cs] [hz : TSz P T n true]
    (hr : fn.results = #[.cell t T, .tmp s]) (hv : look E t = some (.pointer (some ⟨b, 0, none⟩))) (hu : look E s = some u) (hl : cs.length = n) (h : ∀ w, Holds C W R w → Rp (.returned (.tuple #[.agg cs.toArray, u])) w) : ∀ a w, St C E W R a w → bodyPost P fn Rp .ret a w := by
  intro a w hs
  refine ⟨hs.fr.dfr, _, ?_, h w hs.mem⟩
  obtain ⟨sh, hm⟩ := hs.mem
  have hb := hm.own _ hc.mem
  have h1 := hs.fr.val t _ hv
  have h3 := hs.fr.val s _ hu
  have hca : cellsAt w ⟨b, 0, none⟩ cs := fun j v hj => by rw [cell_of_cel hb]; simpa using hj
  have h2 := run_loadVar (P := P) (t := T) hl hca
  simp [results, hr, h1, h2, h3, asAddr]
end Go.Proofs.Ytdeacehacndopaa
