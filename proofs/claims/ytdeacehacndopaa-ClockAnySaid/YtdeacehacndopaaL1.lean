/- The ground of all walks here: a frame's slots by a list, memory by what is owned and what is shared, and the rules by which code is walked over them. The operations of the walk: what each does to the slots and to memory. Memory that a call makes and writes: boxes, rows, appends; calls by their contracts. Operations that make or write memory, and calls by their contracts. Tests of several parts ('&&', '||'): the operations of a part that may be passed over, as one step. No conditions beyond those that each theorem names. -/
import Derived.Below
import Derived.Laws.AppendOwn
import Derived.Laws.MakeOwn
import Derived.Tactics
import Derived.Laws.Slices
import Derived.Laws.CopyRow
import Derived.Laws.OwnMore
namespace Go.Proofs.Ytdeacehacndopaa
open Go.RowKit

/-! ### A frame's slots -/

abbrev Env := List (Nat × Value)

def look : Env → Nat → Option Value
  | [], _ => none
  | (s, v) :: E, t => bif Nat.beq t s then some v else look E t

def evalE (E : Env) : Operand → Option Value
  | .tmp t => look E t
  | .const v => some v
  | .global g => some (.pointer (some ⟨g, 0, none⟩))
  | .func f => some (.func (.func f) #[] #[])

structure FrE (n : Nat) (E : Env) (a : Act) : Prop where
  size : a.tmps.size = n
  dfr : a.defers = []
  val : ∀ t v, look E t = some v → a.tmps[t]? = some v

theorem FrE.eval {n : Nat} {E : Env} {a : Act} (h : FrE n E a) {x : Operand} {v : Value} (hx : evalE E x = some v) : a.eval x = v := by
  cases x with
  | tmp t => simp [Act.eval, Array.getD_eq_getD_getElem?, h.val t v hx]
  | const c => simpa [evalE, Act.eval] using hx
  | global g => simpa [evalE, Act.eval] using hx
  | func f => simpa [evalE, Act.eval] using hx

theorem FrE.put {n : Nat} {E : Env} {a : Act} (h : FrE n E a) {d : Nat} (hd : Nat.blt d n = true) (v : Value) : FrE n ((d, v) :: E) (a.put (some d) v) := by
  have hd' : d < n := by simp [Nat.blt] at hd; omega
  refine ⟨by simp [Act.put, h.size], h.dfr, fun t u hu => ?_⟩
  simp only [look] at hu
  simp only [Act.put]
  by_cases ht : t = d
  · subst ht
    simp only [Nat.beq_refl, cond_true, Option.some.injEq] at hu
    subst hu
    simp [h.size, hd']
  · have hb : Nat.beq t d = false := by
      cases hb : Nat.beq t d with
      | false => rfl
      | true => exact absurd (Nat.eq_of_beq_eq_true hb) ht
    rw [hb, cond_false] at hu
    rw [Array.getElem?_setIfInBounds, if_neg (fun e => ht e.symm)]
    exact h.val t u hu

/-- every pair of E' stands in E -/
def Sub (E : Env) : Env → Prop
  | [] => True
  | (t, v) :: E' => look E t = some v ∧ Sub E E'

theorem Sub.look {E : Env} : ∀ {E' : Env}, Sub E E' → ∀ {t v}, look E' t = some v → Go.Proofs.Ytdeacehacndopaa.look E t = some v
  | [], _, t, v, h => by simp [Go.Proofs.Ytdeacehacndopaa.look] at h
  | (s, u) :: E', hs, t, v, h => by
    simp only [Go.Proofs.Ytdeacehacndopaa.look] at h
    by_cases ht : t = s
    · subst ht
      simp only [Nat.beq_refl, cond_true, Option.some.injEq] at h
      subst h
      exact hs.1
    · have hb : Nat.beq t s = false := by
        cases hb : Nat.beq t s with
        | false => rfl
        | true => exact absurd (Nat.eq_of_beq_eq_true hb) ht
      rw [hb, cond_false] at h
      exact Sub.look hs.2 h

theorem FrE.sub {n : Nat} {E E' : Env} {a : Act} (h : FrE n E a) (hs : Sub E E') : FrE n E' a :=
  ⟨h.size, h.dfr, fun t v ht => h.val t v (hs.look ht)⟩

/-! ### Memory: what is owned, what is shared -/

structure Ent where
  fp : List Nat
  P : (Nat → Prop) → World → Prop
  loc : ∀ sh sh' w w', P sh w → (∀ b, sh b → sh' b) → (∀ b ∈ fp, w'.heap[b]? = w.heap[b]?) → (∀ b, sh b → w'.heap[b]? = w.heap[b]?) → P sh' w'
  lt : ∀ sh w, P sh w → ∀ b ∈ fp, b < w.heap.size

structure RF where
  P : (Nat → Prop) → World → Prop
  loc : ∀ sh sh' w w', P sh w → (∀ b, sh b → sh' b) → (∀ b, sh b → w'.heap[b]? = w.heap[b]?) → P sh' w'

/-- what a function may rely on from its entry on: the world then, the blocks that it may write -/
structure Cx where
  n : Nat
  w0 : World
  M : List Nat
  A : Nat → Prop

structure Keep (M : List Nat) (w w' : World) : Prop where
  os : w'.os = w.os
  tape : w'.tape = w.tape
  output : w'.output = w.output
  size : w.heap.size ≤ w'.heap.size
  block : ∀ k, k < w.heap.size → k ∉ M → w'.heap[k]? = w.heap[k]?

theorem Keep.refl (M : List Nat) (w : World) : Keep M w w := ⟨rfl, rfl, rfl, Nat.le_refl _, fun _ _ _ => rfl⟩
theorem Keep.trans {M : List Nat} {a b c : World} (h : Keep M a b) (k : Keep M b c) : Keep M a c :=
  ⟨k.os.trans h.os, k.tape.trans h.tape, k.output.trans h.output, Nat.le_trans h.size k.size, fun i hi hm => (k.block i (Nat.lt_of_lt_of_le hi h.size) hm).trans (h.block i hi hm)⟩
theorem Keep.mono {M M' : List Nat} {a b : World} (h : Keep M a b) (hm : ∀ k ∈ M, k < a.heap.size → k ∈ M') : Keep M' a b :=
  ⟨h.os, h.tape, h.output, h.size, fun k hk hk' => h.block k hk fun hin => hk' (hm k hin hk)⟩
theorem Keep.below {w w' : World} : Keep [] w w' ↔ Below w.heap.size w w' :=
  ⟨fun h => ⟨h.os, h.tape, h.output, h.size, fun k hk => h.block k hk (by simp)⟩, fun h => ⟨h.os, h.tape, h.output, h.size, fun k hk _ => h.block k hk⟩⟩
theorem Keep.alloc {M : List Nat} (w : World) (o : Obj) : Keep M w (w.alloc o) :=
  ⟨rfl, rfl, rfl, by simp, fun k hk _ => Below.heap_alloc _ _ _ hk⟩
theorem Keep.drew {M : List Nat} (w : World) : Keep M w w.drew := ⟨rfl, rfl, rfl, Nat.le_refl _, fun _ _ _ => rfl⟩

/-- nothing that was there has turned -/
abbrev Ext (w w' : World) : Prop := Keep [] w w'

abbrev fps (W : List Ent) : List Nat := W.flatMap Ent.fp

structure HoldsAt (sh : Nat → Prop) (C : Cx) (W : List Ent) (R : List RF) (w : World) : Prop where
  own : ∀ e ∈ W, e.P sh w
  nodup : (fps W).Nodup
  sep : ∀ b ∈ fps W, ¬ sh b
  may : ∀ b ∈ fps W, C.w0.heap.size ≤ b ∨ b ∈ C.M
  facts : ∀ r ∈ R, r.P sh w
  shlt : ∀ b, sh b → b < w.heap.size
  zone : ∀ b, sh b → C.A b ∨ C.w0.heap.size ≤ b ∨ b ∈ C.M
  keep : Keep C.M C.w0 w

def Holds (C : Cx) (W : List Ent) (R : List RF) (w : World) : Prop := ∃ sh, HoldsAt sh C W R w

theorem Holds.ext {C : Cx} {W : List Ent} {R : List RF} {w w' : World} (h : Holds C W R w) (he : Ext w w') : Holds C W R w' := by
  obtain ⟨sh, h⟩ := h
  have hb : ∀ b, b < w.heap.size → w'.heap[b]? = w.heap[b]? := fun b hb => he.block b hb (by simp)
  refine ⟨sh, fun e hm => e.loc _ _ _ _ (h.own e hm) (fun _ x => x) (fun b hbm => hb b (e.lt _ _ (h.own e hm) b hbm)) (fun b hs => hb b (h.shlt b hs)), h.nodup, h.sep, h.may, fun r hr => r.loc _ _ _ _ (h.facts r hr) (fun _ x => x) fun b hs => hb b (h.shlt b hs), fun b hs => Nat.lt_of_lt_of_le (h.shlt b hs) he.size, h.zone, h.keep.trans (he.mono (by simp))⟩

/-! ### The state at a place in the code -/

structure St (C : Cx) (E : Env) (W : List Ent) (R : List RF) (a : Act) (w : World) : Prop where
  fr : FrE C.n E a
  mem : Holds C W R w

def GoC (P : Program) (C : Cx) (E : Env) (W : List Ent) (R : List RF) (c : Code) (Q : Exit → Act → World → Prop) : Prop :=
  ∀ a w, St C E W R a w → c.wp P Q a w

def GoL (P : Program) (C : Cx) (ops : Array Oper) (E : Env) (W : List Ent) (R : List RF) (l : List Oper) (Q : Exit → Act → World → Prop) : Prop :=
  ∀ a w, St C E W R a w → wpList P ops Q l a w

/-- where an exit leads -/
def To (Q : Exit → Act → World → Prop) (e : Exit) (G : Act → World → Prop) : Prop := ∀ a w, G a w → Q e a w

theorem To.here {Q : Exit → Act → World → Prop} {e : Exit} : To Q e (Q e) := fun _ _ h => h
theorem To.next {n : Act → World → Prop} {Q : Exit → Act → World → Prop} : To (Exit.then n Q) .normal n := fun _ _ h => h
theorem To.thenExit {n : Act → World → Prop} {Q : Exit → Act → World → Prop} {i : Nat} {G : Act → World → Prop} (h : To Q (.exit i) G) : To (Exit.then n Q) (.exit i) G := h
theorem To.thenRet {n : Act → World → Prop} {Q : Exit → Act → World → Prop} {G : Act → World → Prop} (h : To Q .ret G) : To (Exit.then n Q) .ret G := h
theorem To.blockSame {Q : Exit → Act → World → Prop} {i : Nat} {G : Act → World → Prop} (h : To Q .normal G) : To (Exit.inBlock i Q) (.exit i) G := by
  intro a w hg; simp only [Exit.inBlock, if_true]; exact h a w hg
theorem To.blockOther {Q : Exit → Act → World → Prop} {i j : Nat} {G : Act → World → Prop} (hij : Nat.beq i j = false) (h : To Q (.exit i) G) : To (Exit.inBlock j Q) (.exit i) G := by
  intro a w hg
  have : i ≠ j := fun e => by subst e; simp at hij
  simp only [Exit.inBlock, this, if_false]; exact h a w hg
theorem To.blockNormal {Q : Exit → Act → World → Prop} {i : Nat} {G : Act → World → Prop} (h : To Q .normal G) : To (Exit.inBlock i Q) .normal G := h
theorem To.blockRet {Q : Exit → Act → World → Prop} {i : Nat} {G : Act → World → Prop} (h : To Q .ret G) : To (Exit.inBlock i Q) .ret G := h

section
variable {P : Program} {C : Cx} {E : Env} {W : List Ent} {R : List RF} {Q : Exit → Act → World → Prop}

theorem GoC.seq {x y : Code} (h : GoC P C E W R x (Exit.then (y.wp P Q) Q)) : GoC P C E W R (.seq x y) Q :=
  fun a w hs => wp_seq (h a w hs)
theorem GoC.skip (h : ∀ a w, St C E W R a w → Q .normal a w) : GoC P C E W R .skip Q := fun a w hs => wp_skip (h a w hs)
theorem GoC.block {i : Nat} {c : Code} (h : GoC P C E W R c (Exit.inBlock i Q)) : GoC P C E W R (.block i c) Q :=
  fun a w hs => wp_block (h a w hs)
/-- to the code that an exit leads to -/
theorem GoC.exit {i : Nat} {c : Code} {Q' : Exit → Act → World → Prop} (ht : To Q (.exit i) (c.wp P Q')) (h : GoC P C E W R c Q') : GoC P C E W R (.exit i) Q :=
  fun a w hs => wp_exit (ht a w (h a w hs))
theorem GoC.exitTo {i : Nat} {G : Act → World → Prop} (ht : To Q (.exit i) G) (h : ∀ a w, St C E W R a w → G a w) : GoC P C E W R (.exit i) Q :=
  fun a w hs => wp_exit (ht a w (h a w hs))
theorem GoC.skipTo {c : Code} {Q' : Exit → Act → World → Prop} (ht : To Q .normal (c.wp P Q')) (h : GoC P C E W R c Q') : GoC P C E W R .skip Q :=
  fun a w hs => wp_skip (ht a w (h a w hs))
theorem GoC.ret {G : Act → World → Prop} (ht : To Q .ret G) (h : ∀ a w, St C E W R a w → G a w) : GoC P C E W R .ret Q :=
  fun a w hs => wp_ret (ht a w (h a w hs))
theorem GoC.cond {c : Operand} {x y : Code} {b : Bool} (hc : evalE E c = some (.bool b)) (h1 : b = true → GoC P C E W R x Q) (h2 : b = false → GoC P C E W R y Q) : GoC P C E W R (.cond c x y) Q := by
  intro a w hs
  have he := hs.fr.eval hc
  cases b with
  | true => exact wp_cond_true he (h1 rfl a w hs)
  | false => exact wp_cond_false he (h2 rfl a w hs)
theorem GoC.sub {E' : Env} {c : Code} (hs : Sub E E') (h : GoC P C E' W R c Q) : GoC P C E W R c Q :=
  fun a w s => h a w ⟨s.fr.sub hs, s.mem⟩
theorem GoC.mem {W' : List Ent} {R' : List RF} {c : Code} (hm : ∀ w, Holds C W R w → Holds C W' R' w) (h : GoC P C E W' R' c Q) : GoC P C E W R c Q :=
  fun a w s => h a w ⟨s.fr, hm w s.mem⟩
theorem GoC.region {id : Nat} {l : List Oper} (h : GoL P C l.toArray E W R l Q) : GoC P C E W R (.region id l.toArray false) Q :=
  fun a w hs => wp_region_lit (h a w hs)

/-- the end of a statement: the code behind it -/
theorem GoL.nil {ops : Array Oper} {c : Code} {Q' : Exit → Act → World → Prop} (ht : To Q .normal (c.wp P Q')) (h : GoC P C E W R c Q') : GoL P C ops E W R [] Q :=
  fun a w hs => by simp only [wpList]; exact ht a w (h a w hs)
theorem GoL.nilTo {ops : Array Oper} {G : Act → World → Prop} (ht : To Q .normal G) (h : ∀ a w, St C E W R a w → G a w) : GoL P C ops E W R [] Q :=
  fun a w hs => by simp only [wpList]; exact ht a w (h a w hs)

end

/-! ### Loops -/

theorem GoC.loop {P : Program} {C : Cx} {E : Env} {W : List Ent} {R : List RF} {Q : Exit → Act → World → Prop} {body : Code}
    {σ : Type} (EV : σ → Env) (EF : Env) (WS : σ → List Ent) (RS : σ → List RF) (I : σ → Prop) (μ : σ → Nat) (s0 : σ)
    (h0 : I s0) (hE : Sub E (EV s0 ++ EF)) (hM : ∀ w, Holds C W R w → Holds C (WS s0) (RS s0) w)
    (round : ∀ s, I s → GoC P C (EV s ++ EF) (WS s) (RS s) body (Exit.then (fun a w => ∃ s', I s' ∧ μ s' < μ s ∧ St C (EV s' ++ EF) (WS s') (RS s') a w) Q)) :
    GoC P C E W R (.loop body) Q := by
  intro a w hs
  let J : Act → World → Prop := fun a w => ∃ s, I s ∧ St C (EV s ++ EF) (WS s) (RS s) a w
  let N : Act → World → Nat → Prop := fun a w k => ∃ s, I s ∧ St C (EV s ++ EF) (WS s) (RS s) a w ∧ μ s = k
  have least : ∀ a w, J a w → ∃ k, N a w k ∧ ∀ m, N a w m → k ≤ m := by
    intro a w ⟨s, hi, hst⟩
    have key : ∀ n, N a w n → ∃ k, N a w k ∧ ∀ m, N a w m → k ≤ m := by
      intro n
      induction n using Nat.strongRecOn with
      | _ n ih =>
        intro hn
        by_cases hl : ∃ m, m < n ∧ N a w m
        · obtain ⟨m, hmn, hm⟩ := hl
          exact ih m hmn hm
        · exact ⟨n, hn, fun m hm => Nat.le_of_not_lt fun hlt => hl ⟨m, hlt, hm⟩⟩
    exact key (μ s) ⟨s, hi, hst, rfl⟩
  let μ' : Act → World → Nat := fun a w => open Classical in if h : J a w then Classical.choose (least a w h) else 0
  refine wp_loop J μ' ⟨s0, h0, ⟨hs.fr.sub hE, hM w hs.mem⟩⟩ ?_
  intro a w hJ
  have hμ : μ' a w = Classical.choose (least a w hJ) := by simp only [μ', dif_pos hJ]
  obtain ⟨⟨s, hi, hst, hk⟩, _⟩ := Classical.choose_spec (least a w hJ)
  refine wp_mono (round s hi a w hst) ?_
  intro e a' w' hq
  cases e with
  | normal =>
    obtain ⟨s', hi', hlt, hst'⟩ := hq
    have hJ' : J a' w' := ⟨s', hi', hst'⟩
    refine ⟨hJ', ?_⟩
    have hμ2 : μ' a' w' = Classical.choose (least a' w' hJ') := by simp only [μ', dif_pos hJ']
    have hle := (Classical.choose_spec (least a' w' hJ')).2 (μ s') ⟨s', hi', hst', rfl⟩
    rw [hμ, hμ2]
    omega
  | exit i => exact hq
  | goto l => exact hq
  | ret => exact hq
  | panic c => exact hq
  | outgrown => exact hq

end Go.Proofs.Ytdeacehacndopaa

namespace Go.Proofs.Ytdeacehacndopaa
open Go.RowKit

/-! ### Kinds of owned memory and of shared facts -/

theorem lt_of_heap {w : World} {b : Nat} {o : Obj} (h : w.heap[b]? = some o) : b < w.heap.size := (Array.getElem?_eq_some_iff.1 h).1

/-- a block that holds just these cells -/
def cel (b : Nat) (T : TypeId) (cs : List Value) : Ent where
  fp := [b]
  P _ w := w.heap[b]? = some (.cells cs.toArray T (0, 0))
  loc _ _ w w' h _ hb _ := by rw [hb b (by simp)]; exact h
  lt _ w h b' hb := by simp at hb; subst hb; exact lt_of_heap h

class HasCel (b : Nat) (W : List Ent) (T : outParam TypeId) (cs : outParam (List Value)) : Prop where
  mem : cel b T cs ∈ W
instance HasCel.head {b : Nat} {W : List Ent} {T : TypeId} {cs : List Value} : HasCel b (cel b T cs :: W) T cs := ⟨.head _⟩
instance HasCel.tail {b : Nat} {W : List Ent} {T : TypeId} {cs : List Value} {e : Ent} [h : HasCel b W T cs] : HasCel b (e :: W) T cs := ⟨.tail _ h.mem⟩

/-- what a type's cells may be, and what they read as -/
structure RTy (α : Type) where
  n : Nat
  rep : (Nat → Prop) → World → List Value → α → Prop
  len : ∀ sh w cs x, rep sh w cs x → cs.length = n
  one : ∀ sh w cs x, rep sh w cs x → ∀ v ∈ cs, v.oneCell' = true
  loc : ∀ sh sh' w w' cs x, rep sh w cs x → (∀ b, sh b → sh' b) → (∀ b, sh b → w'.heap[b]? = w.heap[b]?) → rep sh' w' cs x

def blk (a : Option Addr) : Nat := match a with | some x => x.block | none => 0
def ofs (a : Option Addr) : Nat := match a with | some x => x.off | none => 0
/-- a place so many cells behind a slice's first one -/
def eaddr (a : Option Addr) (k : Nat) : Addr := ⟨blk a, ofs a + k, none⟩

/-- so many cells behind one another, from a place on -/
def cellsAt (w : World) (a : Addr) (cs : List Value) : Prop := ∀ (j : Nat) v, cs[j]? = some v → w.cell? ⟨a.block, a.off + j, none⟩ = some v

theorem cellsAt.loc {w w' : World} {a : Addr} {cs : List Value} (h : cellsAt w a cs) (hb : w'.heap[a.block]? = w.heap[a.block]?) : cellsAt w' a cs := by
  intro j v hj
  rw [World.cell?_of_block (w := w) (a := ⟨a.block, a.off + j, none⟩) hb]
  exact h j v hj

/-- a slice whose elements read as l -/
def sliceRep {α : Type} (ty : RTy α) (sh : Nat → Prop) (w : World) (a : Option Addr) (c : Nat) (l : List α) : Prop :=
  l.length ≤ c ∧ c ≤ maxLen ∧ (a = none → c = 0) ∧ ∀ (i : Nat) x, l[i]? = some x → ∃ g o cs, a = some ⟨g, o, none⟩ ∧ sh g ∧ cellsAt w ⟨g, o + i * ty.n, none⟩ cs ∧ ty.rep sh w cs x

theorem sliceRep.loc {α : Type} {ty : RTy α} {sh sh' : Nat → Prop} {w w' : World} {a : Option Addr} {c : Nat} {l : List α} (h : sliceRep ty sh w a c l)
    (hs : ∀ b, sh b → sh' b) (hb : ∀ b, sh b → w'.heap[b]? = w.heap[b]?) : sliceRep ty sh' w' a c l := by
  obtain ⟨h1, h2, h3, h4⟩ := h
  refine ⟨h1, h2, h3, fun i x hx => ?_⟩
  obtain ⟨g, o, cs, ha, hg, hc, hr⟩ := h4 i x hx
  exact ⟨g, o, cs, ha, hs g hg, hc.loc (hb g hg), ty.loc _ _ _ _ _ _ hr hs hb⟩

def ro {α : Type} (ty : RTy α) (a : Option Addr) (c : Nat) (l : List α) : RF where
  P sh w := sliceRep ty sh w a c l
  loc _ _ _ _ h hs hb := h.loc hs hb

class HasRo (a : Option Addr) (R : List RF) {α : outParam Type} (ty : outParam (RTy α)) (c : outParam Nat) (l : outParam (List α)) : Prop where
  mem : ro ty a c l ∈ R
instance HasRo.head {α : Type} {ty : RTy α} {a : Option Addr} {R : List RF} {c : Nat} {l : List α} : HasRo a (ro ty a c l :: R) ty c l := ⟨.head _⟩
instance HasRo.tail {α : Type} {ty : RTy α} {a : Option Addr} {R : List RF} {c : Nat} {l : List α} {r : RF} [h : HasRo a R ty c l] : HasRo a (r :: R) ty c l := ⟨.tail _ h.mem⟩

/-- the cells of an element that is shared -/
def cells (a : Option Addr) (k : Nat) (cs : List Value) : RF where
  P sh w := ∃ g o, a = some ⟨g, o, none⟩ ∧ sh g ∧ cellsAt w ⟨g, o + k, none⟩ cs
  loc sh sh' w w' h hs hb := by
    obtain ⟨g, o, ha, hg, hc⟩ := h
    exact ⟨g, o, ha, hs g hg, hc.loc (hb g hg)⟩

class HasCells (a : Option Addr) (k : Nat) (R : List RF) (cs : outParam (List Value)) : Prop where
  mem : cells a k cs ∈ R
instance HasCells.head {a : Option Addr} {k : Nat} {R : List RF} {cs : List Value} : HasCells a k (cells a k cs :: R) cs := ⟨.head _⟩
instance HasCells.tail {a : Option Addr} {k : Nat} {R : List RF} {cs : List Value} {r : RF} [h : HasCells a k R cs] : HasCells a k (r :: R) cs := ⟨.tail _ h.mem⟩

/-! ### Types -/

class TSz (P : Program) (t : TypeId) (n : outParam Nat) (agg : outParam Bool) : Prop where
  sz : ∀ w, (sizeOf t).run P w = .ok n w
  ag : ∀ w, (isAgg t).run P w = .ok agg w
class TSl (P : Program) (t : TypeId) (e : outParam TypeId) : Prop where
  un : P.underlying t = some (.slice e)
class TFld (P : Program) (t : TypeId) (f : Nat) (off : outParam Nat) : Prop where
  at_ : ∀ b o w, (Instr.fieldAt t (.pointer (some ⟨b, o, none⟩)) f).run P w = .ok (.pointer (some ⟨b, o + off, none⟩)) w
class TZero (P : Program) (t : TypeId) (cs : outParam (List Value)) : Prop where
  ex : ∃ z, (∀ w, (zeroValue t).run P w = .ok z w) ∧ z.cells = cs.toArray

/-! ### Operations that answer and leave memory alone -/

def OpR (P : Program) (C : Cx) (E : Env) (W : List Ent) (R : List RF) (o : Oper) (v : Value) : Prop :=
  ∀ a w, St C E W R a w → (execOp a.eval o).run P w = .ok (.value v) w

section
variable {P : Program} {C : Cx} {E : Env} {W : List Ent} {R : List RF} {Q : Exit → Act → World → Prop}

/-- the operation is carried out -/
def Wn (ops : Array Oper) (E : Env) (o : Oper) : Prop := ∀ n a, FrE n E a → Region.wanted o (yielded ops a.tmps) = true
theorem Wn.none {ops : Array Oper} {E : Env} {o : Oper} (h : o.guard = .none) : Wn ops E o := fun _ _ _ => by simp [Region.wanted, h]
theorem Wn.some {ops : Array Oper} {E : Env} {o : Oper} {j tj : Nat} {wt b : Bool} (h : o.guard = .some (j, wt)) (hj : (ops[j]?).bind (·.dst) = .some tj) (hb : look E tj = .some (.bool b)) (hw : b = wt) : Wn ops E o := by
  intro n a hf
  have := hf.val _ _ hb
  simp [Region.wanted, h, yielded, hj, this, hw]

theorem GoL.q {ops : Array Oper} {rest : List Oper} {o : Oper} {d : Nat} {v : Value} (h : OpR P C E W R o v)
    (k : GoL P C ops ((d, v) :: E) W R rest Q) (hg : Wn ops E o := by exact Wn.none rfl) (hd : o.dst = some d := by rfl) (hn : Nat.blt d C.n = true := by rfl) : GoL P C ops E W R (o :: rest) Q := by
  intro a w hs
  simp only [wpList, hg _ _ hs.fr, if_true]
  refine .inl ?_
  unfold Oper.wp
  rw [h a w hs, Oper.upon_value, hd]
  exact k _ _ ⟨hs.fr.put hn v, hs.mem⟩

variable {d : Option Tmp} {x y z : Operand} {t t' u e : TypeId} {pos : String} {aft : Array Edge} {gd : Option (Nat × Bool)}

theorem op_move {v : Value} (hx : evalE E x = some v) : OpR P C E W R ⟨d, .move x, t, pos, aft, gd⟩ v := by
  intro a w hs; simp [execOp, hs.fr.eval hx]
theorem op_assign {v : Value} (hx : evalE E x = some v) : OpR P C E W R ⟨d, .assign x, t, pos, aft, gd⟩ v := by
  intro a w hs; simp [execOp, hs.fr.eval hx]

theorem op_pick {b : Bool} {v u' : Value} (hx : evalE E x = some (.bool b)) (hy : evalE E y = some v) (hz : evalE E z = some u') : OpR P C E W R ⟨d, .pick x y z, t, pos, aft, gd⟩ (if b then v else u') := by
  intro a w hs; simp [execOp, asBool, hs.fr.eval hx, hs.fr.eval hy, hs.fr.eval hz]

theorem op_not {b : Bool} (hx : evalE E x = some (.bool b)) : OpR P C E W R ⟨d, .unOp .not t x, u, pos, aft, gd⟩ (.bool !b) := by
  intro a w hs; simp [execOp, Op.unary, hs.fr.eval hx]

theorem op_neg {k : IntKind} {m : Int} (hx : evalE E x = some (.int k m)) : OpR P C E W R ⟨d, .unOp .neg t x, u, pos, aft, gd⟩ (.int k (k.wrap (0 - m))) := by
  intro a w hs; simp [execOp, Op.unary, Op.intArith, hs.fr.eval hx]

theorem op_extract {vs : Array Value} {i : Nat} {v : Value} (hx : evalE E x = some (.tuple vs)) (hv : vs[i]? = some v) : OpR P C E W R ⟨d, .extract x i, t, pos, aft, gd⟩ v := by
  intro a w hs; simp [execOp, Instr.extract, hs.fr.eval hx, hv]

theorem op_nilCheck {p : Addr} (hx : evalE E x = some (.pointer (some p))) : OpR P C E W R ⟨d, .nilCheck x, t, pos, aft, gd⟩ (.pointer (some p)) := by
  intro a w hs; simp [execOp, hs.fr.eval hx]

/-- a test or a sum of two integers -/
theorem op_int {op : BinOp} {k : IntKind} {m n : Int} {v : Value} (hx : evalE E x = some (.int k m)) (hy : evalE E y = some (.int k n))
    (hv : ∀ w, (binOp op t (.int k m) (.int k n)).run P w = .ok v w) : OpR P C E W R ⟨d, .binOp op t x y t', u, pos, aft, gd⟩ v := by
  intro a w hs
  have he : (eqGuard op t x y (.int k m) (.int k n)).run P w = .ok () w := by
    unfold eqGuard; cases op <;> simp
  simp [execOp, hs.fr.eval hx, hs.fr.eval hy, he, hv]

theorem op_add {k : IntKind} {m n : Int} (hx : evalE E x = some (.int k m)) (hy : evalE E y = some (.int k n)) : OpR P C E W R ⟨d, .binOp .add t x y t', u, pos, aft, gd⟩ (.int k (k.wrap (m + n))) :=
  op_int hx hy fun w => by simp [binOp, Op.intArith]
theorem op_sub {k : IntKind} {m n : Int} (hx : evalE E x = some (.int k m)) (hy : evalE E y = some (.int k n)) : OpR P C E W R ⟨d, .binOp .sub t x y t', u, pos, aft, gd⟩ (.int k (k.wrap (m - n))) :=
  op_int hx hy fun w => by simp [binOp, Op.intArith]
theorem op_mul {k : IntKind} {m n : Int} (hx : evalE E x = some (.int k m)) (hy : evalE E y = some (.int k n)) : OpR P C E W R ⟨d, .binOp .mul t x y t', u, pos, aft, gd⟩ (.int k (k.wrap (m * n))) :=
  op_int hx hy fun w => by simp [binOp, Op.intArith]
theorem op_lss {k : IntKind} {m n : Int} (hx : evalE E x = some (.int k m)) (hy : evalE E y = some (.int k n)) : OpR P C E W R ⟨d, .binOp .lss t x y t', u, pos, aft, gd⟩ (.bool (decide (m < n))) :=
  op_int hx hy fun w => by simp [binOp, Op.intCmp]
theorem op_leq {k : IntKind} {m n : Int} (hx : evalE E x = some (.int k m)) (hy : evalE E y = some (.int k n)) : OpR P C E W R ⟨d, .binOp .leq t x y t', u, pos, aft, gd⟩ (.bool (decide (m ≤ n))) :=
  op_int hx hy fun w => by simp [binOp, Op.intCmp]
theorem op_gtr {k : IntKind} {m n : Int} (hx : evalE E x = some (.int k m)) (hy : evalE E y = some (.int k n)) : OpR P C E W R ⟨d, .binOp .gtr t x y t', u, pos, aft, gd⟩ (.bool (decide (n < m))) :=
  op_int hx hy fun w => by simp [binOp, Op.intCmp]
theorem op_geq {k : IntKind} {m n : Int} (hx : evalE E x = some (.int k m)) (hy : evalE E y = some (.int k n)) : OpR P C E W R ⟨d, .binOp .geq t x y t', u, pos, aft, gd⟩ (.bool (decide (n ≤ m))) :=
  op_int hx hy fun w => by simp [binOp, Op.intCmp]
theorem op_eql {k : IntKind} {m n : Int} (hx : evalE E x = some (.int k m)) (hy : evalE E y = some (.int k n)) : OpR P C E W R ⟨d, .binOp .eql t x y t', u, pos, aft, gd⟩ (.bool (decide (m = n))) :=
  op_int hx hy fun w => by simp [binOp, Op.intCmp]; rfl
theorem op_neq {k : IntKind} {m n : Int} (hx : evalE E x = some (.int k m)) (hy : evalE E y = some (.int k n)) : OpR P C E W R ⟨d, .binOp .neq t x y t', u, pos, aft, gd⟩ (.bool (!decide (m = n))) :=
  op_int hx hy fun w => by simp [binOp, Op.intCmp]; rfl


theorem run_prog {w : World} : (program).run P w = .ok P w := rfl
theorem run_under {dsc : TypeDesc} {w : World} (h : P.underlying t = some dsc) : (underlying t).run P w = .ok dsc w := by
  simp [underlying, run_prog, h]

theorem op_len {a' : Option Addr} {m c : Nat} [ht : TSl P t e] (hx : evalE E x = some (.slice a' m c)) :
    OpR P C E W R ⟨d, .call ⟨.builtin .len, #[x], #[t]⟩, u, pos, aft, gd⟩ (.int .i64 m) := by
  intro a w hs
  simp [execOp, resolve, invoke, builtin, Builtin.len_, run_under ht.un, hs.fr.eval hx, goInt]

theorem op_cap {a' : Option Addr} {m c : Nat} [ht : TSl P t e] (hx : evalE E x = some (.slice a' m c)) :
    OpR P C E W R ⟨d, .call ⟨.builtin .cap, #[x], #[t]⟩, u, pos, aft, gd⟩ (.int .i64 c) := by
  intro a w hs
  simp [execOp, resolve, invoke, builtin, Builtin.cap_, run_under ht.un, hs.fr.eval hx, goInt]

theorem op_max {k k' : IntKind} {m n : Int} {ts : Array TypeId} (hx : evalE E x = some (.int k m)) (hy : evalE E y = some (.int k' n)) :
    OpR P C E W R ⟨d, .call ⟨.builtin .max, #[x, y], ts⟩, u, pos, aft, gd⟩ (.int k (max m n)) := by
  intro a w hs
  have : (if n > m then n else m) = max m n := by omega
  simp [execOp, resolve, invoke, builtin, Builtin.max_, Builtin.max2, hs.fr.eval hx, hs.fr.eval hy, List.foldlM, this]

theorem op_min {k k' : IntKind} {m n : Int} {ts : Array TypeId} (hx : evalE E x = some (.int k m)) (hy : evalE E y = some (.int k' n)) :
    OpR P C E W R ⟨d, .call ⟨.builtin .min, #[x, y], ts⟩, u, pos, aft, gd⟩ (.int k (min m n)) := by
  intro a w hs
  have : (if n < m then n else m) = min m n := by omega
  simp [execOp, resolve, invoke, builtin, Builtin.min_, Builtin.min2, hs.fr.eval hx, hs.fr.eval hy, List.foldlM, this]

theorem op_fieldAddr {b o f off : Nat} [ht : TFld P t f off] (hx : evalE E x = some (.pointer (some ⟨b, o, none⟩))) :
    OpR P C E W R ⟨d, .fieldAddr t x f, u, pos, aft, gd⟩ (.pointer (some ⟨b, o + off, none⟩)) := by
  intro a w hs
  simp [execOp, hs.fr.eval hx, ht.at_]

theorem op_fieldAddrE {a' : Option Addr} {k f off : Nat} [ht : TFld P t f off] (hx : evalE E x = some (.pointer (some (eaddr a' k)))) :
    OpR P C E W R ⟨d, .fieldAddr t x f, u, pos, aft, gd⟩ (.pointer (some (eaddr a' (k + off)))) := by
  intro a w hs
  simp [execOp, hs.fr.eval hx, eaddr, ht.at_, Nat.add_assoc]

/-- an element's place -/
theorem op_indexAddr {a' : Option Addr} {m c k n : Nat} {ag : Bool} {kk : IntKind} {i : Int} [ht : TSl P t e] [hz : TSz P e n ag]
    (hx : evalE E x = some (.slice a' m c)) (hy : evalE E y = some (.int kk i)) (hk : i = (k : Int)) (hlt : k < m)
    (ha : ∀ w, Holds C W R w → ∃ g o, a' = some ⟨g, o, none⟩) :
    OpR P C E W R ⟨d, .indexAddr t x y, u, pos, aft, gd⟩ (.pointer (some (eaddr a' (k * n)))) := by
  intro a w hs
  obtain ⟨g, o, rfl⟩ := ha w hs.mem
  subst hk
  have h1 : (Addr.add ⟨g, o, none⟩ (k * n)) = ⟨g, o + k * n, none⟩ := by
    unfold Addr.add; split
    · rename_i h; simp [h]
    · rfl
  have h2 : (0 : Int) ≤ k ∧ (k : Int) < m := by omega
  simp [execOp, hs.fr.eval hx, hs.fr.eval hy, Instr.indexAt, asIntOf, run_under ht.un, h2, hz.sz, eaddr, blk, ofs, h1, hlt]

end

/-! ### Loads -/

theorem run_loadVar {P : Program} {t : TypeId} {n : Nat} {w : World} {b o : Nat} {vs : List Value} [hz : TSz P t n true] (hl : vs.length = n) (hc : cellsAt w ⟨b, o, none⟩ vs) :
    (loadVar t ⟨b, o, none⟩).run P w = .ok (.agg vs.toArray) w := by
  have h1 := run_loadCells_list (P := P) w ⟨b, o, none⟩ vs (fun j v hj => by
    have := hc j v hj
    unfold Addr.add
    split
    · rename_i h0; subst h0; simpa using this
    · exact this)
  rw [hl] at h1
  simp [loadVar, hz.sz, hz.ag, h1]

theorem run_loadVar1 {P : Program} {t : TypeId} {n : Nat} {w : World} {b o : Nat} {v : Value} [hz : TSz P t n false] (hc : w.cell? ⟨b, o, none⟩ = some v) :
    (loadVar t ⟨b, o, none⟩).run P w = .ok v w := by
  simp [loadVar, hz.ag, hc]

theorem cell_of_cel {w : World} {b : Nat} {T : TypeId} {cs : List Value} (h : w.heap[b]? = some (.cells cs.toArray T (0, 0))) (o : Nat) : w.cell? ⟨b, o, none⟩ = cs[o]? := by
  simp [World.cell?, h]

section
variable {P : Program} {C : Cx} {E : Env} {W : List Ent} {R : List RF} {Q : Exit → Act → World → Prop}
variable {d : Option Tmp} {x y z : Operand} {t t' u e : TypeId} {pos : String} {aft : Array Edge} {gd : Option (Nat × Bool)}

theorem op_load {b o n : Nat} {T : TypeId} {cs : List Value} {v : Value} [hc : HasCel b W T cs] [hz : TSz P t n false]
    (hx : evalE E x = some (.pointer (some ⟨b, o, none⟩))) (hv : cs[o]? = some v) : OpR P C E W R ⟨d, .load t x, u, pos, aft, gd⟩ v := by
  intro a w hs
  obtain ⟨sh, hm⟩ := hs.mem
  have hb := hm.own _ hc.mem
  simp only [execOp, hs.fr.eval hx, Instr.loadAt, Instr.sureAddr]
  simp [run_loadVar1 (t := t) (P := P) (n := n) ((cell_of_cel hb o).trans hv)]

theorem op_loadA {b o n : Nat} {T : TypeId} {cs vs : List Value} [hc : HasCel b W T cs] [hz : TSz P t n true]
    (hx : evalE E x = some (.pointer (some ⟨b, o, none⟩))) (hv : (cs.drop o).take n = vs) (hl : vs.length = n) : OpR P C E W R ⟨d, .load t x, u, pos, aft, gd⟩ (.agg vs.toArray) := by
  intro a w hs
  obtain ⟨sh, hm⟩ := hs.mem
  have hb := hm.own _ hc.mem
  have hca : cellsAt w ⟨b, o, none⟩ vs := by
    intro j v hj
    rw [cell_of_cel hb]
    subst hv
    rw [List.getElem?_take] at hj
    split at hj
    · simpa [List.getElem?_drop] using hj
    · cases hj
  simp only [execOp, hs.fr.eval hx, Instr.loadAt, Instr.sureAddr]
  simp [run_loadVar (t := t) (P := P) (n := n) hl hca]

/-- a field of an element that is shared -/
theorem op_loadF {a' : Option Addr} {k off n : Nat} {cs : List Value} {v : Value} [hc : HasCells a' k R cs] [hz : TSz P t n false]
    (hx : evalE E x = some (.pointer (some (eaddr a' (k + off))))) (hv : cs[off]? = some v) : OpR P C E W R ⟨d, .load t x, u, pos, aft, gd⟩ v := by
  intro a w hs
  obtain ⟨sh, hm⟩ := hs.mem
  obtain ⟨g, o, rfl, _, hca⟩ := hm.facts _ hc.mem
  have h1 := hca off v hv
  simp only [execOp, hs.fr.eval hx, Instr.loadAt, Instr.sureAddr, eaddr, blk, ofs]
  simp [run_loadVar1 (t := t) (P := P) (n := n) (b := g) (o := o + (k + off)) (v := v) (by rw [← Nat.add_assoc]; exact h1)]

/-- an element that is shared, of one cell -/
theorem op_loadE {a' : Option Addr} {k n : Nat} {cs : List Value} {v : Value} [hc : HasCells a' k R cs] [hz : TSz P t n false]
    (hx : evalE E x = some (.pointer (some (eaddr a' k)))) (hv : cs[0]? = some v) : OpR P C E W R ⟨d, .load t x, u, pos, aft, gd⟩ v :=
  op_loadF (off := 0) (k := k) hx hv

/-- an element that is shared, whole -/
theorem op_loadEA {a' : Option Addr} {k n : Nat} {cs : List Value} [hc : HasCells a' k R cs] [hz : TSz P t n true]
    (hx : evalE E x = some (.pointer (some (eaddr a' k)))) (hl : cs.length = n) : OpR P C E W R ⟨d, .load t x, u, pos, aft, gd⟩ (.agg cs.toArray) := by
  intro a w hs
  obtain ⟨sh, hm⟩ := hs.mem
  obtain ⟨g, o, rfl, _, hca⟩ := hm.facts _ hc.mem
  simp only [execOp, hs.fr.eval hx, Instr.loadAt, Instr.sureAddr, eaddr, blk, ofs]
  simp [run_loadVar (t := t) (P := P) (n := n) hl hca]

end
end Go.Proofs.Ytdeacehacndopaa

namespace Go.Proofs.Ytdeacehacndopaa
open Go.RowKit

/-! ### Rows of one's own, whose elements read as l -/

def slot {α : Type} (ty : RTy α) (xs : List Value) (i : Nat) : List Value := (xs.drop (i * ty.n)).take ty.n

def own {α : Type} (T : TypeId) (ty : RTy α) (a : Option Addr) (c : Nat) (l : List α) : Ent where
  fp := a.toList.map (·.block)
  P sh w := ∃ xs : List Value, w.ownsRow 0 T ty.n (.slice a l.length c) l.length xs ∧ ∀ (i : Nat) x, l[i]? = some x → ty.rep sh w (slot ty xs i) x
  loc sh sh' w w' h hs hb hsb := by
    obtain ⟨xs, ho, hr⟩ := h
    refine ⟨xs, ⟨ho.1, ?_⟩, fun i x hx => ty.loc _ _ _ _ _ _ (hr i x hx) hs hsb⟩
    rcases ho.2 with h2 | ⟨g, cap, cur, hv, hg, hh, r⟩
    · exact .inl h2
    · have ha : a = some ⟨g, 0, none⟩ := by simp at hv; exact hv.1
      subst ha
      exact .inr ⟨g, cap, cur, hv, hg, by rw [hb g (by simp)]; exact hh, r⟩
  lt sh w h b hb := by
    obtain ⟨xs, ho, _⟩ := h
    rcases ho.2 with ⟨h2, _⟩ | ⟨g, cap, cur, hv, hg, hh, r⟩
    · simp at h2; obtain ⟨rfl, _⟩ := h2; simp at hb
    · have ha : a = some ⟨g, 0, none⟩ := by simp at hv; exact hv.1
      subst ha
      simp at hb; subst hb; exact lt_of_heap hh

class HasOwn (a : Option Addr) (W : List Ent) (T : outParam TypeId) {α : outParam Type} (ty : outParam (RTy α)) (c : outParam Nat) (l : outParam (List α)) : Prop where
  mem : own T ty a c l ∈ W
instance HasOwn.head {α : Type} {ty : RTy α} {a : Option Addr} {W : List Ent} {T : TypeId} {c : Nat} {l : List α} : HasOwn a (own T ty a c l :: W) T ty c l := ⟨.head _⟩
instance HasOwn.tail {α : Type} {ty : RTy α} {a : Option Addr} {W : List Ent} {T : TypeId} {c : Nat} {l : List α} {e : Ent} [h : HasOwn a W T ty c l] : HasOwn a (e :: W) T ty c l := ⟨.tail _ h.mem⟩

/-- W with one entry put in another's place -/
class Upd (e e' : Ent) (W : List Ent) (W' : outParam (List Ent)) : Prop where
  eq : ∃ l r, W = l ++ e :: r ∧ W' = l ++ e' :: r
instance Upd.head {e e' : Ent} {W : List Ent} : Upd e e' (e :: W) (e' :: W) := ⟨[], W, rfl, rfl⟩
instance Upd.tail {e e' f : Ent} {W W' : List Ent} [h : Upd e e' W W'] : Upd e e' (f :: W) (f :: W') := by
  obtain ⟨l, r, h1, h2⟩ := h.eq
  exact ⟨f :: l, r, by rw [h1]; rfl, by rw [h2]; rfl⟩

/-- W without one entry -/
class Del (e : Ent) (W : List Ent) (W' : outParam (List Ent)) : Prop where
  eq : ∃ l r, W = l ++ e :: r ∧ W' = l ++ r
instance Del.head {e : Ent} {W : List Ent} : Del e (e :: W) W := ⟨[], W, rfl, rfl⟩
instance Del.tail {e f : Ent} {W W' : List Ent} [h : Del e W W'] : Del e (f :: W) (f :: W') := by
  obtain ⟨l, r, h1, h2⟩ := h.eq
  exact ⟨f :: l, r, by rw [h1]; rfl, by rw [h2]; rfl⟩

section
variable {C : Cx} {W W' : List Ent} {R : List RF} {w w' : World}

theorem fps_append (l r : List Ent) : fps (l ++ r) = fps l ++ fps r := by simp [fps]
theorem fps_cons (e : Ent) (r : List Ent) : fps (e :: r) = e.fp ++ fps r := by simp [fps]

theorem fps_sublist {l r : List Ent} (h : List.Sublist l r) : List.Sublist (fps l) (fps r) := by
  induction h with
  | slnil => exact List.Sublist.refl _
  | cons a _ ih => rw [fps_cons]; exact ih.trans (List.sublist_append_right _ _)
  | cons_cons a _ ih => rw [fps_cons, fps_cons]; exact (List.Sublist.refl _).append ih

/-- one entry turns, with the blocks that it has or new ones: all else stays -/
theorem Holds.upd {e e' : Ent} [hu : Upd e e' W W'] (h : Holds C W R w)
    (hk : Keep e.fp w w') (hP : ∀ sh, HoldsAt sh C W R w → e'.P sh w') (hn : e'.fp.Nodup) (hfp : ∀ b ∈ e'.fp, b ∈ e.fp ∨ w.heap.size ≤ b) : Holds C W' R w' := by
  obtain ⟨sh, hm⟩ := h
  obtain ⟨l, r, h1, h2⟩ := hu.eq
  have hP' := hP sh hm
  subst h1; subst h2
  have hnd := hm.nodup
  rw [fps_append, fps_cons] at hnd
  have hlt : ∀ b ∈ fps (l ++ e :: r), b < w.heap.size := by
    intro b hb
    obtain ⟨x, hx, hbx⟩ := List.mem_flatMap.1 hb
    exact x.lt _ _ (hm.own x hx) b hbx
  rw [fps_append, fps_cons] at hlt
  have hne : ∀ b, b ∈ fps l ∨ b ∈ fps r → b ∉ e.fp := by
    intro b hb hbe
    rw [List.nodup_append] at hnd
    obtain ⟨_, hnd2, hd⟩ := hnd
    rw [List.nodup_append] at hnd2
    rcases hb with hb | hb
    · exact hd b hb b (List.mem_append_left _ hbe) rfl
    · exact hnd2.2.2 b hbe b hb rfl
  have hsh : ∀ b, sh b → w'.heap[b]? = w.heap[b]? := fun b hb => hk.block b (hm.shlt b hb) fun hbe => hm.sep b (by rw [fps_append, fps_cons]; simp [hbe]) hb
  have hother : ∀ b, b ∈ fps l ∨ b ∈ fps r → w'.heap[b]? = w.heap[b]? := fun b hb => hk.block b (hlt b (by rcases hb with hb | hb <;> simp [hb])) (hne b hb)
  have hnew : ∀ b, b ∈ e'.fp → ¬ (b ∈ fps l ∨ b ∈ fps r) := by
    intro b hb hb2
    rcases hfp b hb with h | h
    · exact hne b hb2 h
    · have := hlt b (by rcases hb2 with hb2 | hb2 <;> simp [hb2]); omega
  refine ⟨sh, ?_, ?_, ?_, ?_, ?_, ?_, hm.zone, ?_⟩
  · intro x hx
    rcases List.mem_append.1 hx with hx | hx
    · exact x.loc _ _ _ _ (hm.own x (by simp [hx])) (fun _ h => h) (fun b hb => hother b (.inl (List.mem_flatMap.2 ⟨x, hx, hb⟩))) hsh
    · rcases List.mem_cons.1 hx with rfl | hx
      · exact hP'
      · exact x.loc _ _ _ _ (hm.own x (by simp [hx])) (fun _ h => h) (fun b hb => hother b (.inr (List.mem_flatMap.2 ⟨x, hx, hb⟩))) hsh
  · rw [fps_append, fps_cons]
    rw [List.nodup_append] at hnd ⊢
    obtain ⟨ha, hb, hc⟩ := hnd
    rw [List.nodup_append] at hb
    refine ⟨ha, ?_, ?_⟩
    · rw [List.nodup_append]
      refine ⟨hn, hb.2.1, fun x hx y hy hxy => ?_⟩
      subst hxy; exact hnew x hx (.inr hy)
    · intro x hx y hy hxy
      subst hxy
      rcases List.mem_append.1 hy with hy | hy
      · exact hnew x hy (.inl hx)
      · exact hc x hx x (List.mem_append_right _ hy) rfl
  · intro b hb
    rw [fps_append, fps_cons] at hb
    rcases List.mem_append.1 hb with hb | hb
    · exact hm.sep b (by rw [fps_append]; exact List.mem_append_left _ hb)
    · rcases List.mem_append.1 hb with hb | hb
      · rcases hfp b hb with h | h
        · exact hm.sep b (by rw [fps_append, fps_cons]; simp [h])
        · intro hs; have := hm.shlt b hs; omega
      · exact hm.sep b (by rw [fps_append, fps_cons]; simp [hb])
  · intro b hb
    rw [fps_append, fps_cons] at hb
    rcases List.mem_append.1 hb with hb | hb
    · exact hm.may b (by rw [fps_append]; exact List.mem_append_left _ hb)
    · rcases List.mem_append.1 hb with hb | hb
      · rcases hfp b hb with h | h
        · exact hm.may b (by rw [fps_append, fps_cons]; simp [h])
        · exact .inl (Nat.le_trans hm.keep.size h)
      · exact hm.may b (by rw [fps_append, fps_cons]; simp [hb])
  · exact fun x hx => x.loc _ _ _ _ (hm.facts x hx) (fun _ h => h) hsh
  · exact fun b hb => Nat.lt_of_lt_of_le (hm.shlt b hb) hk.size
  · refine ⟨hk.os.trans hm.keep.os, hk.tape.trans hm.keep.tape, hk.output.trans hm.keep.output, Nat.le_trans hm.keep.size hk.size, fun k hkk hkm => ?_⟩
    rw [hk.block k (Nat.lt_of_lt_of_le hkk hm.keep.size) (fun hke => ?_)]
    · exact hm.keep.block k hkk hkm
    · rcases hm.may k (by rw [fps_append, fps_cons]; simp [hke]) with h | h
      · omega
      · exact hkm h

theorem fps_perm {l r : List Ent} (h : List.Perm l r) : List.Perm (fps l) (fps r) := h.flatMap_right _

theorem Holds.perm (h : Holds C W R w) (hp : List.Perm W W') : Holds C W' R w := by
  obtain ⟨sh, hm⟩ := h
  have hf := fps_perm hp
  exact ⟨sh, fun e he => hm.own e (hp.mem_iff.2 he), hf.nodup_iff.1 hm.nodup, fun b hb => hm.sep b (hf.mem_iff.2 hb), fun b hb => hm.may b (hf.mem_iff.2 hb), hm.facts, hm.shlt, hm.zone, hm.keep⟩

/-- a new entry, of new blocks alone -/
theorem Holds.add {e : Ent} (h : Holds C W R w) (hk : Ext w w') (hP : ∀ sh, HoldsAt sh C W R w → e.P sh w') (hn : e.fp.Nodup) (hfp : ∀ b ∈ e.fp, w.heap.size ≤ b) : Holds C (e :: W) R w' := by
  have h' := h.ext hk
  obtain ⟨sh, hm⟩ := h
  have hP' := hP sh hm
  have hlt : ∀ b ∈ fps W, b < w.heap.size := by
    intro b hb
    obtain ⟨x, hx, hbx⟩ := List.mem_flatMap.1 hb
    exact x.lt _ _ (hm.own x hx) b hbx
  have hb : ∀ b, b < w.heap.size → w'.heap[b]? = w.heap[b]? := fun b hb => hk.block b hb (by simp)
  refine ⟨sh, ?_, ?_, ?_, ?_, ?_, ?_, hm.zone, ?_⟩
  · intro x hx
    rcases List.mem_cons.1 hx with rfl | hx
    · exact hP'
    · exact x.loc _ _ _ _ (hm.own x hx) (fun _ h => h) (fun b hbx => hb b (x.lt _ _ (hm.own x hx) b hbx)) (fun b hs => hb b (hm.shlt b hs))
  · rw [fps_cons, List.nodup_append]
    exact ⟨hn, hm.nodup, fun x hx y hy hxy => by subst hxy; have := hlt x hy; have := hfp x hx; omega⟩
  · intro b hbm
    rw [fps_cons] at hbm
    rcases List.mem_append.1 hbm with h | h
    · intro hs; have := hm.shlt b hs; have := hfp b h; omega
    · exact hm.sep b h
  · intro b hbm
    rw [fps_cons] at hbm
    rcases List.mem_append.1 hbm with h | h
    · exact .inl (Nat.le_trans hm.keep.size (hfp b h))
    · exact hm.may b h
  · exact fun x hx => x.loc _ _ _ _ (hm.facts x hx) (fun _ h => h) (fun b hs => hb b (hm.shlt b hs))
  · exact fun b hs => Nat.lt_of_lt_of_le (hm.shlt b hs) hk.size
  · exact hm.keep.trans (hk.mono (by simp))

/-- entries left out, in whatever order -/
theorem Holds.drop {W' : List Ent} {R' : List RF} (h : Holds C W R w) (hW : List.Sublist W' W) (hR : ∀ r ∈ R', r ∈ R) : Holds C W' R' w := by
  obtain ⟨sh, hm⟩ := h
  have hf : List.Sublist (fps W') (fps W) := fps_sublist hW
  exact ⟨sh, fun e he => hm.own e (hW.subset he), hm.nodup.sublist hf, fun b hb => hm.sep b (hf.subset hb), fun b hb => hm.may b (hf.subset hb), fun r hr => hm.facts r (hR r hr), hm.shlt, hm.zone, hm.keep⟩

/-- an entry that is written no more, from now on shared -/
theorem Holds.share {e : Ent} {r : RF} [hd : Del e W W'] (h : Holds C W R w) (hr : ∀ sh, e.P sh w → r.P (fun b => sh b ∨ b ∈ e.fp) w) : Holds C W' (r :: R) w := by
  obtain ⟨sh, hm⟩ := h
  obtain ⟨l, q, h1, h2⟩ := hd.eq
  subst h1; subst h2
  have hs : List.Sublist (fps (l ++ q)) (fps (l ++ e :: q)) := fps_sublist ((List.Sublist.refl l).append (List.sublist_cons_self e q))
  have hnd := hm.nodup
  rw [fps_append, fps_cons] at hnd
  have hne : ∀ b, b ∈ fps (l ++ q) → b ∉ e.fp := by
    intro b hb hbe
    rw [fps_append] at hb
    rw [List.nodup_append] at hnd
    obtain ⟨_, hnd2, hd⟩ := hnd
    rw [List.nodup_append] at hnd2
    rcases List.mem_append.1 hb with hb | hb
    · exact hd b hb b (List.mem_append_left _ hbe) rfl
    · exact hnd2.2.2 b hbe b hb rfl
  have he := hm.own e (by simp)
  refine ⟨fun b => sh b ∨ b ∈ e.fp, fun x hx => x.loc _ _ _ _ (hm.own x (by rcases List.mem_append.1 hx with h | h <;> simp [h])) (fun b hb => .inl hb) (fun _ _ => rfl) (fun _ _ => rfl), hm.nodup.sublist hs, ?_, fun b hb => hm.may b (hs.subset hb), ?_, ?_, ?_, hm.keep⟩
  · rintro b hb (h | h)
    · exact hm.sep b (hs.subset hb) h
    · exact hne b hb h
  · intro x hx
    rcases List.mem_cons.1 hx with rfl | hx
    · exact hr sh he
    · exact x.loc _ _ _ _ (hm.facts x hx) (fun b hb => .inl hb) (fun _ _ => rfl)
  · rintro b (h | h)
    · exact hm.shlt b h
    · exact e.lt _ _ he b h
  · rintro b (h | h)
    · exact hm.zone b h
    · exact .inr (hm.may b (by rw [fps_append, fps_cons]; simp [h]))

/-- what is read of new shared memory -/
theorem Holds.addR {r : RF} (h : Holds C W R w) (hk : Ext w w') (hr : ∃ sh, r.P sh w' ∧ ∀ b, sh b → w.heap.size ≤ b ∧ b < w'.heap.size) : Holds C W (r :: R) w' := by
  obtain ⟨sh, hm⟩ := h
  obtain ⟨sn, hrn, hsn⟩ := hr
  have hb : ∀ b, b < w.heap.size → w'.heap[b]? = w.heap[b]? := fun b hb => hk.block b hb (by simp)
  have hlt : ∀ b ∈ fps W, b < w.heap.size := by
    intro b hb
    obtain ⟨x, hx, hbx⟩ := List.mem_flatMap.1 hb
    exact x.lt _ _ (hm.own x hx) b hbx
  refine ⟨fun b => sh b ∨ sn b, fun x hx => x.loc _ _ _ _ (hm.own x hx) (fun b hb => .inl hb) (fun b hbx => hb b (x.lt _ _ (hm.own x hx) b hbx)) (fun b hs => hb b (hm.shlt b hs)), hm.nodup, ?_, hm.may, ?_, ?_, ?_, hm.keep.trans (hk.mono (by simp))⟩
  · rintro b hbm (h | h)
    · exact hm.sep b hbm h
    · have := hlt b hbm; have := (hsn b h).1; omega
  · intro x hx
    rcases List.mem_cons.1 hx with rfl | hx
    · exact x.loc _ _ _ _ hrn (fun b hb => .inr hb) (fun _ _ => rfl)
    · exact x.loc _ _ _ _ (hm.facts x hx) (fun b hb => .inl hb) (fun b hs => hb b (hm.shlt b hs))
  · rintro b (h | h)
    · exact Nat.lt_of_lt_of_le (hm.shlt b h) hk.size
    · exact (hsn b h).2
  · rintro b (h | h)
    · exact hm.zone b h
    · exact .inr (.inl (Nat.le_trans hm.keep.size (hsn b h).1))

/-- a fact that follows from the facts that there are -/
theorem Holds.more {r : RF} (h : Holds C W R w) (hr : ∀ sh, HoldsAt sh C W R w → r.P sh w) : Holds C W (r :: R) w := by
  obtain ⟨sh, hm⟩ := h
  exact ⟨sh, hm.own, hm.nodup, hm.sep, hm.may, fun x hx => by rcases List.mem_cons.1 hx with rfl | hx; exact hr sh hm; exact hm.facts x hx, hm.shlt, hm.zone, hm.keep⟩

/-- the slots' number is no matter of memory -/
theorem Holds.n {n n' : Nat} {w0 : World} {M : List Nat} {A : Nat → Prop} (h : Holds ⟨n, w0, M, A⟩ W R w) : Holds ⟨n', w0, M, A⟩ W R w := by
  obtain ⟨sh, h⟩ := h
  exact ⟨sh, h.own, h.nodup, h.sep, h.may, h.facts, h.shlt, h.zone, h.keep⟩

/-- what a call gives, beside what there was -/
theorem Holds.frame {n : Nat} {sh : Nat → Prop} {W1 : List Ent} {R1 : List RF} (h : HoldsAt sh C W R w) (h1 : Holds ⟨n, w, [], sh⟩ W1 R1 w') : Holds C (W1 ++ W) (R1 ++ R) w' ∧ Ext w w' := by
  obtain ⟨s1, h1⟩ := h1
  have hk : Ext w w' := h1.keep
  have hb : ∀ b, b < w.heap.size → w'.heap[b]? = w.heap[b]? := fun b hb => hk.block b hb (by simp)
  have hlt : ∀ b ∈ fps W, b < w.heap.size := by
    intro b hb
    obtain ⟨x, hx, hbx⟩ := List.mem_flatMap.1 hb
    exact x.lt _ _ (h.own x hx) b hbx
  have hge : ∀ b ∈ fps W1, w.heap.size ≤ b := fun b hb => by rcases h1.may b hb with h' | h'; exact h'; simp at h'
  have hz : ∀ b, s1 b → sh b ∨ w.heap.size ≤ b := fun b hb => by rcases h1.zone b hb with h' | h' | h'; exact .inl h'; exact .inr h'; simp at h'
  refine ⟨⟨fun b => sh b ∨ s1 b, ?_, ?_, ?_, ?_, ?_, ?_, ?_, h.keep.trans (hk.mono (by simp))⟩, hk⟩
  · intro x hx
    rcases List.mem_append.1 hx with hx | hx
    · exact x.loc _ _ _ _ (h1.own x hx) (fun b hb => .inr hb) (fun _ _ => rfl) (fun _ _ => rfl)
    · exact x.loc _ _ _ _ (h.own x hx) (fun b hb => .inl hb) (fun b hbx => hb b (x.lt _ _ (h.own x hx) b hbx)) (fun b hs => hb b (h.shlt b hs))
  · rw [fps_append, List.nodup_append]
    exact ⟨h1.nodup, h.nodup, fun x hx y hy hxy => by subst hxy; have := hlt x hy; have := hge x hx; omega⟩
  · intro b hbm
    rw [fps_append] at hbm
    rcases List.mem_append.1 hbm with hbm | hbm
    · rintro (h' | h')
      · have := h.shlt b h'; have := hge b hbm; omega
      · exact h1.sep b hbm h'
    · rintro (h' | h')
      · exact h.sep b hbm h'
      · rcases hz b h' with h'' | h''
        · exact h.sep b hbm h''
        · have := hlt b hbm; omega
  · intro b hbm
    rw [fps_append] at hbm
    rcases List.mem_append.1 hbm with hbm | hbm
    · exact .inl (Nat.le_trans h.keep.size (hge b hbm))
    · exact h.may b hbm
  · intro x hx
    rcases List.mem_append.1 hx with hx | hx
    · exact x.loc _ _ _ _ (h1.facts x hx) (fun b hb => .inr hb) (fun _ _ => rfl)
    · exact x.loc _ _ _ _ (h.facts x hx) (fun b hb => .inl hb) (fun b hs => hb b (h.shlt b hs))
  · rintro b (h' | h')
    · exact Nat.lt_of_lt_of_le (h.shlt b h') hk.size
    · exact h1.shlt b h'
  · rintro b (h' | h')
    · exact h.zone b h'
    · rcases hz b h' with h'' | h''
      · exact h.zone b h''
      · exact .inr (.inl (Nat.le_trans h.keep.size h''))

/-- the part of what there is that a call wants -/
theorem HoldsAt.part {sh : Nat → Prop} (h : HoldsAt sh C W R w) {R1 : List RF} (hR : ∀ r ∈ R1, r ∈ R) : Holds ⟨0, w, [], sh⟩ [] R1 w :=
  ⟨sh, by simp, by simp, by simp, by simp, fun r hr => h.facts r (hR r hr), h.shlt, fun b hb => .inl hb, Keep.refl _ _⟩

theorem own_slice {α : Type} {T : TypeId} {ty : RTy α} {a : Option Addr} {c : Nat} {l : List α} {sh : Nat → Prop} (h : (own T ty a c l).P sh w) :
    sliceRep ty (fun b => sh b ∨ b ∈ (own T ty a c l).fp) w a c l := by
  obtain ⟨xs, ho, hr⟩ := h
  rcases ho.2 with ⟨h2, h3⟩ | ⟨g, cap, cur, hv, hg, hh, hn, hc, hs, ht⟩
  · simp at h2
    obtain ⟨rfl, h4, rfl⟩ := h2
    exact ⟨by simp [h3], by simp [maxLen], fun _ => rfl, fun i x hx => by rw [List.eq_nil_of_length_eq_zero h3] at hx; simp at hx⟩
  · simp only [Value.slice.injEq, true_and] at hv
    obtain ⟨rfl, rfl⟩ := hv
    refine ⟨hn, hc, by simp, fun i x hx => ⟨g, 0, slot ty xs i, rfl, .inr (by simp [own]), ?_, ty.loc _ _ _ _ _ _ (hr i x hx) (fun b hb => .inl hb) (fun _ _ => rfl)⟩⟩
    intro j v hj
    simp only [slot, List.getElem?_take, List.getElem?_drop] at hj
    split at hj
    · rename_i hjn
      have hi : i < l.length := (List.getElem?_eq_some_iff.1 hx).1
      have hlt : i * ty.n + j < l.length * ty.n := by
        calc i * ty.n + j < i * ty.n + ty.n := by omega
          _ = (i + 1) * ty.n := by rw [Nat.add_mul, Nat.one_mul]
          _ ≤ l.length * ty.n := Nat.mul_le_mul_right _ hi
      have := ho.cellAt (i * ty.n + j) hlt
      simp only [Nat.zero_add]
      rw [this]; exact hj
    · cases hj
end

/-- W without some entries, in whatever order -/
class Split (Wa W : List Ent) (Wr : outParam (List Ent)) : Prop where
  perm : List.Perm W (Wa ++ Wr)
instance Split.nil {W : List Ent} : Split [] W W := ⟨List.Perm.refl _⟩
instance Split.cons {e : Ent} {Wa W W1 Wr : List Ent} [hd : Del e W W1] [hs : Split Wa W1 Wr] : Split (e :: Wa) W Wr := by
  obtain ⟨l, r, rfl, rfl⟩ := hd.eq
  exact ⟨(List.perm_middle).trans (hs.perm.cons e)⟩

end Go.Proofs.Ytdeacehacndopaa

namespace Go.Proofs.Ytdeacehacndopaa
open Go.RowKit

def ResX (P : Program) (r : Result Next) (Ψ : Value → World → Prop) : Prop :=
  match r with
  | .ok (.value v) w => Ψ v w
  | .ok .skip w => Ψ undef w
  | .ok (.enter f args) w => Calls P f args w (fun e w' => ∃ v, e = .returned v ∧ Ψ v w')
  | _ => False

theorem ResX.mono {P : Program} {r : Result Next} {Ψ Ψ' : Value → World → Prop} (h : ResX P r Ψ) (hm : ∀ v w, Ψ v w → Ψ' v w) : ResX P r Ψ' := by
  unfold ResX at *
  split at h
  · exact hm _ _ h
  · exact hm _ _ h
  · exact h.mono fun e w' ⟨v, he, hp⟩ => ⟨v, he, hm _ _ hp⟩
  · exact h.elim

theorem ResX.wp {P : Program} {o : Oper} {a : Act} {w : World} {Ψ : Value → World → Prop} {next : Act → World → Prop} {Q : Exit → Act → World → Prop}
    (h : ResX P ((execOp a.eval o).run P w) Ψ) (hn : ∀ v w', Ψ v w' → next (a.put o.dst v) w') : o.wp P a w next Q := by
  unfold Oper.wp
  generalize (execOp a.eval o).run P w = r at *
  unfold ResX at h
  split at h
  · exact hn _ _ h
  · exact hn _ _ h
  · refine Calls.mono h fun e w' ⟨v, he, hp⟩ => ?_
    subst he
    exact hn _ _ hp
  · exact h.elim

/-- an operation whose answer is known, and that turns nothing that there was -/
def OpP (P : Program) (C : Cx) (E : Env) (W : List Ent) (R : List RF) (o : Oper) (v : Value) : Prop :=
  ∀ a w, St C E W R a w → ResX P ((execOp a.eval o).run P w) fun v' w' => v' = v ∧ Ext w w'
/-- an operation that turns nothing that there was -/
def OpX (P : Program) (C : Cx) (E : Env) (W : List Ent) (R : List RF) (o : Oper) (Φ : Value → List Ent → List RF → Prop) : Prop :=
  ∀ a w, St C E W R a w → ResX P ((execOp a.eval o).run P w) fun v w' => ∃ W' R', Φ v W' R' ∧ Holds C W' R' w' ∧ Ext w w'
/-- an operation that may write -/
def OpY (P : Program) (C : Cx) (E : Env) (W : List Ent) (R : List RF) (o : Oper) (Φ : Value → List Ent → List RF → Prop) : Prop :=
  ∀ a w, St C E W R a w → ResX P ((execOp a.eval o).run P w) fun v w' => ∃ W' R', Φ v W' R' ∧ Holds C W' R' w'

theorem OpX.y {P : Program} {C : Cx} {E : Env} {W : List Ent} {R : List RF} {o : Oper} {Φ : Value → List Ent → List RF → Prop} (h : OpX P C E W R o Φ) : OpY P C E W R o Φ :=
  fun a w hs => (h a w hs).mono fun _ _ ⟨W', R', h1, h2, _⟩ => ⟨W', R', h1, h2⟩
theorem OpR.p {P : Program} {C : Cx} {E : Env} {W : List Ent} {R : List RF} {o : Oper} {v : Value} (h : OpR P C E W R o v) : OpP P C E W R o v :=
  fun a w hs => by rw [h a w hs]; exact ⟨rfl, Keep.refl _ _⟩

section
variable {P : Program} {C : Cx} {E : Env} {W : List Ent} {R : List RF} {Q : Exit → Act → World → Prop}
variable {ops : Array Oper} {rest : List Oper} {o : Oper} {d : Nat}

theorem GoL.p {v : Value} (h : OpP P C E W R o v)
    (k : GoL P C ops ((d, v) :: E) W R rest Q) (hg : Wn ops E o := by exact Wn.none rfl) (hd : o.dst = some d := by rfl) (hn : Nat.blt d C.n = true := by rfl) : GoL P C ops E W R (o :: rest) Q := by
  intro a w hs
  simp only [wpList, hg _ _ hs.fr, if_true]
  refine .inl ((h a w hs).wp fun v' w' ⟨hv, he⟩ => ?_)
  subst hv
  rw [hd]
  exact k _ _ ⟨hs.fr.put hn v', hs.mem.ext he⟩

theorem GoL.y {Φ : Value → List Ent → List RF → Prop} (h : OpY P C E W R o Φ)
    (k : ∀ v W' R', Φ v W' R' → GoL P C ops ((d, v) :: E) W' R' rest Q) (hg : Wn ops E o := by exact Wn.none rfl) (hd : o.dst = some d := by rfl) (hn : Nat.blt d C.n = true := by rfl) : GoL P C ops E W R (o :: rest) Q := by
  intro a w hs
  simp only [wpList, hg _ _ hs.fr, if_true]
  refine .inl ((h a w hs).wp fun v w' ⟨W', R', hp, hh⟩ => ?_)
  rw [hd]
  exact k v W' R' hp _ _ ⟨hs.fr.put hn v, hh⟩

/-- with no slot for its answer -/
theorem GoL.y0 {Φ : Value → List Ent → List RF → Prop} (h : OpY P C E W R o Φ)
    (k : ∀ v W' R', Φ v W' R' → GoL P C ops E W' R' rest Q) (hg : Wn ops E o := by exact Wn.none rfl) (hd : o.dst = none := by rfl) : GoL P C ops E W R (o :: rest) Q := by
  intro a w hs
  simp only [wpList, hg _ _ hs.fr, if_true]
  refine .inl ((h a w hs).wp fun v w' ⟨W', R', hp, hh⟩ => ?_)
  rw [hd]
  exact k v W' R' hp _ _ ⟨hs.fr, hh⟩

theorem GoL.x {Φ : Value → List Ent → List RF → Prop} (h : OpX P C E W R o Φ)
    (k : ∀ v W' R', Φ v W' R' → GoL P C ops ((d, v) :: E) W' R' rest Q) (hg : Wn ops E o := by exact Wn.none rfl) (hd : o.dst = some d := by rfl) (hn : Nat.blt d C.n = true := by rfl) : GoL P C ops E W R (o :: rest) Q :=
  GoL.y h.y k hg hd hn
end

/-! ### Types, more -/

class In (x : RF) (l : List RF) : Prop where
  mem : x ∈ l
instance In.head {x : RF} {l : List RF} : In x (x :: l) := ⟨.head _⟩
instance In.tail {x y : RF} {l : List RF} [h : In x l] : In x (y :: l) := ⟨.tail _ h.mem⟩
class AllIn (l r : List RF) : Prop where
  all : ∀ x ∈ l, x ∈ r
instance AllIn.nil {r : List RF} : AllIn [] r := ⟨by simp⟩
instance AllIn.cons {x : RF} {l r : List RF} [h : In x r] [k : AllIn l r] : AllIn (x :: l) r := ⟨fun y hy => by rcases List.mem_cons.1 hy with rfl | hy; exact h.mem; exact k.all y hy⟩

/-- two lists, behind one another -/
class App {α : Type} (l r : List α) (out : outParam (List α)) : Prop where
  eq : out = l ++ r
instance App.nil {α : Type} {r : List α} : App [] r r := ⟨rfl⟩
instance App.cons {α : Type} {a : α} {l r out : List α} [h : App l r out] : App (a :: l) r (a :: out) := ⟨by rw [h.eq]; rfl⟩

class TInfo (P : Program) (e : TypeId) (size bytes : outParam Nat) (zcs : outParam (List Value)) : Prop where
  ex : ∃ i z, P.info? e = some i ∧ i.zero = some z ∧ i.size = size ∧ i.bytes = bytes ∧ z.cells = zcs.toArray
class TInt (P : Program) (t : TypeId) (k : outParam IntKind) : Prop where
  un : P.underlying t = some (.int k)
class TBool (P : Program) (t : TypeId) : Prop where
  un : P.underlying t = some .bool
class TFn (P : Program) (f : FuncId) : Prop where
  call : ∀ args w, (callFunc f args).run P w = .ok (.enter f args) w

theorem size_of_info {P : Program} {e : TypeId} {i : TypeInfo} {w : World} (h : P.info? e = some i) : (sizeOf e).run P w = .ok i.size w := by
  simp [sizeOf, typeInfo, run_prog, h]

theorem heap_new (w : World) (o : Obj) : (w.alloc o).heap[w.heap.size]? = some o := heap_alloc_new w o

section
variable {E : Env}
def evalEs (E : Env) : List Operand → Option (List Value)
  | [] => some []
  | x :: r => match evalE E x, evalEs E r with
    | some v, some vs => some (v :: vs)
    | _, _ => none

theorem evalEs_map {n : Nat} {a : Act} (h : FrE n E a) : ∀ {xs : List Operand} {vs : List Value}, evalEs E xs = some vs → xs.map a.eval = vs
  | [], vs, hx => by simp [evalEs] at hx; simp [hx]
  | x :: r, vs, hx => by
    simp only [evalEs] at hx
    split at hx
    · rename_i v us h1 h2
      simp only [Option.some.injEq] at hx
      subst hx
      simp [h.eval h1, evalEs_map h h2]
    · cases hx


def evalPs (E : Env) : List (Nat × Operand) → Option (List (Nat × Value))
  | [] => some []
  | (i, x) :: r => match evalE E x, evalPs E r with
    | some v, some vs => some ((i, v) :: vs)
    | _, _ => none

theorem evalPs_map {n : Nat} {a : Act} (h : FrE n E a) : ∀ {xs : List (Nat × Operand)} {vs : List (Nat × Value)}, evalPs E xs = some vs → xs.map (fun (i, x) => (i, a.eval x)) = vs
  | [], vs, hx => by simp [evalPs] at hx; simp [hx]
  | (i, x) :: r, vs, hx => by
    simp only [evalPs] at hx
    split at hx
    · rename_i v us h1 h2
      simp only [Option.some.injEq] at hx
      subst hx
      have := evalPs_map h h2
      simp only [List.map_cons, h.eval h1]
      rw [← this]
    · cases hx
end

section
variable {P : Program} {C : Cx} {E : Env} {W W' : List Ent} {R : List RF} {Q : Exit → Act → World → Prop}
variable {d : Option Tmp} {x y z : Operand} {t t' u e : TypeId} {pos : String} {aft : Array Edge} {gd : Option (Nat × Bool)}

theorem Holds.cel {w : World} {T : TypeId} {cs : List Value} (h : Holds C W R w) : Holds C (cel w.heap.size T cs :: W) R (w.alloc (.cells cs.toArray T)) :=
  h.add (Keep.alloc _ _) (fun sh _ => heap_new _ _) (by simp [Ytdeacehacndopaa.cel]) (by simp [Ytdeacehacndopaa.cel])

/-- a variable of one's own -/
theorem op_box {v : Value} {cs : List Value} (hx : evalE E x = some v) (hc : v.cells = cs.toArray) :
    OpX P C E W R ⟨d, .box t x, u, pos, aft, gd⟩ (fun v' W' R' => ∃ b, v' = .pointer (some ⟨b, 0, none⟩) ∧ W' = cel b t cs :: W ∧ R' = R) := by
  intro a w hs
  simp [execOp, hs.fr.eval hx, Instr.box, newVar, newRow, ResX, hc]
  exact ⟨_, _, ⟨rfl, rfl⟩, hs.mem.cel, Keep.alloc _ _⟩

theorem op_alloc {s b : Nat} {cs : List Value} [ht : TInfo P t s b cs] :
    OpX P C E W R ⟨d, .alloc t, u, pos, aft, gd⟩ (fun v' W' R' => ∃ b, v' = .pointer (some ⟨b, 0, none⟩) ∧ W' = cel b t cs :: W ∧ R' = R) := by
  intro a w hs
  obtain ⟨i, z, h1, h2, _, _, h3⟩ := ht.ex
  simp [execOp, Instr.alloc, zeroValue, typeInfo, run_prog, h1, h2, newVar, newRow, ResX, h3]
  exact ⟨_, _, ⟨rfl, rfl⟩, hs.mem.cel, Keep.alloc _ _⟩

theorem op_makeFunc {f : FuncId} {first cap : List Operand} {vs us : List Value} (h1 : evalEs E first = some vs) (h2 : evalEs E cap = some us) :
    OpR P C E W R ⟨d, .makeFunc (.func f) first.toArray cap.toArray, u, pos, aft, gd⟩ (.func (.func f) vs.toArray us.toArray) := by
  intro a w hs
  have e1 : first.toArray.map a.eval = vs.toArray := by rw [← evalEs_map hs.fr h1]; simp
  have e2 : cap.toArray.map a.eval = us.toArray := by rw [← evalEs_map hs.fr h2]; simp
  simp [execOp, Instr.makeFunc, -List.map_toArray, e1, e2]

theorem op_build {ps : List (Nat × Operand)} {vs : List (Nat × Value)} {cs : List Value} (hp : evalPs E ps = some vs)
    (hr : ∀ w, (Instr.build t vs.toArray).run P w = .ok (.agg cs.toArray) w) : OpR P C E W R ⟨d, .build t ps.toArray, u, pos, aft, gd⟩ (.agg cs.toArray) := by
  intro a w hs
  have e : (ps.toArray.map fun (i, x) => (i, a.eval x)) = vs.toArray := by rw [← evalPs_map hs.fr hp]; simp
  simp only [execOp, e]
  simp [hr]

theorem op_buildSlice {n : Nat} {ps : List (Nat × Operand)} {vs : List (Nat × Value)} {cs : List Value} (hp : evalPs E ps = some vs)
    (hr : ∀ w, (Instr.buildSlice t n vs.toArray).run P w = .ok (.slice (some ⟨w.heap.size, 0, none⟩) n n) (w.alloc (.cells cs.toArray e))) :
    OpX P C E W R ⟨d, .buildSlice t n ps.toArray, u, pos, aft, gd⟩ (fun v' W' R' => ∃ b, v' = .slice (some ⟨b, 0, none⟩) n n ∧ W' = cel b e cs :: W ∧ R' = R) := by
  intro a w hs
  have e : (ps.toArray.map fun (i, x) => (i, a.eval x)) = vs.toArray := by rw [← evalPs_map hs.fr hp]; simp
  simp only [execOp, e]
  simp [hr, ResX]
  exact ⟨_, _, ⟨rfl, rfl⟩, hs.mem.cel, Keep.alloc _ _⟩

/-- one value as a row -/
theorem run_buildSlice1 {v : Value} {cs zs : List Value} {n b : Nat} {w : World} [ht : TSl P t e] [hz : TInfo P e n b zs] (hv : v.cells = cs.toArray) (hn : cs.length = n) (h0 : 0 < n) (hbig : n ≤ 16777216) :
    (Instr.buildSlice t 1 #[(0, v)]).run P w = .ok (.slice (some ⟨w.heap.size, 0, none⟩) 1 1) (w.alloc (.cells cs.toArray e)) := by
  obtain ⟨i, z, h1, h2, h3, h4, h5⟩ := hz.ex
  have hcs : v.cells.size = n := by rw [hv]; simpa using hn
  have hfill : ∀ (l : List Value) (k : Nat) (acc : Array Value), acc.size = k + l.length →
      ((l.zipIdx k).foldl (fun (cs : Array Value) x => cs.setIfInBounds x.snd x.fst) acc).toList = acc.toList.take k ++ l := by
    intro l
    induction l with
    | nil => intro k acc hs; simp at hs; simp [List.take_of_length_le, hs]
    | cons c r ih =>
      intro k acc hs
      rw [List.zipIdx_cons, List.foldl_cons, ih (k + 1) _ (by simpa using (by simp at hs; omega : acc.size = k + 1 + r.length))]
      simp only [Array.toList_setIfInBounds]
      have hk : k < acc.toList.length := by simp at hs ⊢; omega
      rw [List.take_succ_eq_append_getElem (by simpa using hk)]
      simp [List.take_set_of_le]
  have h6 : ¬ (16777216 < n) := by omega
  have h7 : n ≠ 0 := by omega
  simp [Instr.buildSlice, run_under ht.un, size_of_info h1, h3, h6, h7, zeroValue, typeInfo, h1, h2, Instr.fill, hcs, newRow]
  congr 2
  apply Array.ext'
  have hf := hfill cs 0 ((Array.range n).map fun x => z.cells[x % z.cells.size]!) (by simp [hn])
  simp only [List.take_zero, List.nil_append] at hf
  refine Eq.trans ?_ hf
  rw [hv, ← hn]
  simp

/-- one value as a row: the operation -/
theorem op_buildSlice1 {v : Value} {cs zs : List Value} {n b : Nat} [ht : TSl P t e] [hz : TInfo P e n b zs] (hx : evalE E x = some v) (hv : v.cells = cs.toArray) (hn : cs.length = n) (h0 : Nat.blt 0 n = true := by rfl) (hbig : Nat.ble n 16777216 = true := by rfl) :
    OpX P C E W R ⟨d, .buildSlice t 1 #[(0, x)], u, pos, aft, gd⟩ (fun v' W' R' => ∃ b, v' = .slice (some ⟨b, 0, none⟩) 1 1 ∧ W' = cel b e cs :: W ∧ R' = R) :=
  op_buildSlice (ps := [(0, x)]) (vs := [(0, v)]) (by simp [evalPs, hx]) fun w => run_buildSlice1 hv hn (by simp [Nat.blt] at h0; omega) (Nat.le_of_ble_eq_true hbig)

/-- a store into a variable of one's own -/
theorem op_store {b o n : Nat} {ag : Bool} {T : TypeId} {cs vs cs' : List Value} {v : Value} [hz : TSz P t n ag] [hc : HasCel b W T cs] [hu : Upd (Ytdeacehacndopaa.cel b T cs) (Ytdeacehacndopaa.cel b T cs') W W']
    (hx : evalE E x = some (.pointer (some ⟨b, o, none⟩))) (hy : evalE E y = some v) (hv : v.cells = vs.toArray) (hl : vs.length = n) (hone : ∀ v ∈ vs, v.oneCell' = true) (hfit : o + vs.length ≤ cs.length)
    (hcs : cs.take o ++ vs ++ cs.drop (o + vs.length) = cs') :
    OpY P C E W R ⟨d, .store t x y, u, pos, aft, gd⟩ (fun v' W'' R' => v' = undef ∧ W'' = W' ∧ R' = R) := by
  intro a w hs
  have hb : w.heap[b]? = some (.cells cs.toArray T (0, 0)) := by
    obtain ⟨sh, hm⟩ := hs.mem
    exact hm.own _ hc.mem
  have hr := run_storeCells_at P b o T vs 0 cs.toArray w hb (by simpa using hfit) hone
  simp only [execOp, hs.fr.eval hx, hs.fr.eval hy, Instr.storeAt, Instr.sureAddr, storeVar]
  simp [hz.sz, hv, hl, hr, ResX]
  have hk : Keep (Ytdeacehacndopaa.cel b T cs).fp w (w.setRow b (cs.take o ++ (vs ++ cs.drop (o + n))).toArray) :=
    ⟨rfl, rfl, rfl, by simp [World.setRow], fun k _ hk => setRow_other w b k _ (fun e => hk (by simp [Ytdeacehacndopaa.cel, e]))⟩
  refine ⟨_, _, ⟨rfl, rfl⟩, ?_⟩
  refine hs.mem.upd (e := Ytdeacehacndopaa.cel b T cs) (e' := Ytdeacehacndopaa.cel b T cs') hk (fun sh _ => ?_) (by simp [Ytdeacehacndopaa.cel]) (fun b' hb' => .inl hb')
  rw [← hcs, hl]
  simpa [Ytdeacehacndopaa.cel] using setRow_heap w b _ (cs.take o ++ (vs ++ cs.drop (o + n))).toArray T _ hb

/-! ### Rows of one's own -/

theorem own_some {α : Type} {T : TypeId} {ty : RTy α} {a : Option Addr} {c : Nat} {l : List α} {sh : Nat → Prop} {w : World} (h : (own T ty a c l).P sh w) (hl : 0 < l.length) :
    ∃ g, a = some ⟨g, 0, none⟩ := by
  obtain ⟨xs, ho, _⟩ := h
  rcases ho.2 with ⟨_, h3⟩ | ⟨g, cap, cur, hv, _⟩
  · omega
  · simp only [Value.slice.injEq, true_and] at hv
    exact ⟨g, hv.1⟩

theorem ro_some {α : Type} {ty : RTy α} {a : Option Addr} {c : Nat} {l : List α} {sh : Nat → Prop} {w : World} (h : sliceRep ty sh w a c l) (hl : 0 < l.length) :
    ∃ g o, a = some ⟨g, o, none⟩ := by
  obtain ⟨g, o, _, ha, _⟩ := h.2.2.2 0 l[0] (by simp [hl])
  exact ⟨g, o, ha⟩

theorem op_indexO {α : Type} {T : TypeId} {ty : RTy α} {a' : Option Addr} {c c' k m n : Nat} {ag : Bool} {kk : IntKind} {i : Int} {l : List α} [hw : HasOwn a' W T ty c l] [ht : TSl P t e] [hz : TSz P e n ag]
    (hx : evalE E x = some (.slice a' m c')) (hy : evalE E y = some (.int kk i)) (hk : i = (k : Int)) (hlt : k < l.length) (hm : m = l.length) :
    OpR P C E W R ⟨d, .indexAddr t x y, u, pos, aft, gd⟩ (.pointer (some (eaddr a' (k * n)))) :=
  op_indexAddr (m := m) hx hy hk (hm ▸ hlt) fun w ⟨sh, hm⟩ => let ⟨g, h⟩ := own_some (hm.own _ hw.mem) (by omega); ⟨g, 0, h⟩

theorem op_indexR {α : Type} {ty : RTy α} {a' : Option Addr} {c c' k n : Nat} {ag : Bool} {kk : IntKind} {i : Int} {l : List α} [hw : HasRo a' R ty c l] [ht : TSl P t e] [hz : TSz P e n ag]
    (hx : evalE E x = some (.slice a' l.length c')) (hy : evalE E y = some (.int kk i)) (hk : i = (k : Int)) (hlt : k < l.length) :
    OpR P C E W R ⟨d, .indexAddr t x y, u, pos, aft, gd⟩ (.pointer (some (eaddr a' (k * n)))) :=
  op_indexAddr (m := l.length) hx hy hk hlt fun w ⟨sh, hm⟩ => ro_some (hm.facts _ hw.mem) (by omega)

/-- an element of a row of one's own, of one cell -/
theorem op_loadO {α : Type} {T : TypeId} {ty : RTy α} {a' : Option Addr} {c k n : Nat} {l : List α} {f : α → Value} [hw : HasOwn a' W T ty c l] [hz : TSz P t n false]
    (hn : ty.n = 1) (hf : ∀ sh w cs x, ty.rep sh w cs x → cs = [f x]) (hlt : k < l.length)
    (hx : evalE E x = some (.pointer (some (eaddr a' (k * 1))))) : OpR P C E W R ⟨d, .load t x, u, pos, aft, gd⟩ (f l[k]) := by
  intro a w hs
  obtain ⟨sh, hm⟩ := hs.mem
  have ho := hm.own _ hw.mem
  obtain ⟨g, rfl⟩ := own_some ho (by omega)
  have hs' := (own_slice ho).2.2.2 k l[k] (by simp [hlt])
  obtain ⟨g', o', cs, ha, _, hc, hr⟩ := hs'
  simp only [Option.some.injEq, Addr.mk.injEq, and_true] at ha
  obtain ⟨rfl, rfl⟩ := ha
  have hcs := hf _ _ _ _ hr
  subst hcs
  have h1 := hc 0 (f l[k]) rfl
  rw [hn] at h1
  simp only [execOp, hs.fr.eval hx, Instr.loadAt, Instr.sureAddr, eaddr, blk, ofs]
  simp [run_loadVar1 (t := t) (P := P) (n := n) (b := g) (o := k) (v := f l[k]) (by simpa using h1)]

/-! ### Calls -/

theorem op_callP {f : FuncId} {xs : List Operand} {vs : List Value} {ts : Array TypeId} {v : Value} [hf : TFn P f] (hx : evalEs E xs = some vs)
    (hc : ∀ w, Holds C W R w → Calls P f vs.toArray w fun e w' => e = .returned v ∧ Ext w w') : OpP P C E W R ⟨d, .call ⟨.value (.func f), xs.toArray, ts⟩, u, pos, aft, gd⟩ v := by
  intro a w hs
  have ha : (xs.toArray.map a.eval) = vs.toArray := by rw [← evalEs_map hs.fr hx]; simp
  simp only [execOp, resolve, ha]
  simp [Act.eval, Deferred.ofValue, invoke, hf.call, ResX]
  exact (hc w hs.mem).mono fun e w' ⟨he, hw⟩ => ⟨v, he, rfl, hw⟩

theorem op_callX {f : FuncId} {xs : List Operand} {vs : List Value} {ts : Array TypeId} {Φ : Value → List Ent → List RF → Prop} [hf : TFn P f] (hx : evalEs E xs = some vs)
    (hc : ∀ w, Holds C W R w → Calls P f vs.toArray w fun e w' => ∃ v, e = .returned v ∧ ∃ W' R', Φ v W' R' ∧ Holds C W' R' w' ∧ Ext w w') : OpX P C E W R ⟨d, .call ⟨.value (.func f), xs.toArray, ts⟩, u, pos, aft, gd⟩ Φ := by
  intro a w hs
  have ha : (xs.toArray.map a.eval) = vs.toArray := by rw [← evalEs_map hs.fr hx]; simp
  simp only [execOp, resolve, ha]
  simp [Act.eval, Deferred.ofValue, invoke, hf.call, ResX]
  exact (hc w hs.mem).mono fun e w' h => by simpa using h

/-- a call by its contract: what it wants is among the facts that there are -/
theorem op_callF {f : FuncId} {xs : List Operand} {vs : List Value} {ts : Array TypeId} {γ : Type} {v : γ → Value} {W1 WN : γ → List Ent} {R1 RN : γ → List RF} {Ra : List RF} [hf : TFn P f] [hR : AllIn Ra R] [hW : ∀ g, App (W1 g) W (WN g)] [hN : ∀ g, App (R1 g) R (RN g)] (hx : evalEs E xs = some vs)
    (hc : ∀ sh w, Holds ⟨0, w, [], sh⟩ [] Ra w → Calls P f vs.toArray w fun e w' => ∃ g, e = .returned (v g) ∧ Holds ⟨0, w, [], sh⟩ (W1 g) (R1 g) w') :
    OpX P C E W R ⟨d, .call ⟨.value (.func f), xs.toArray, ts⟩, u, pos, aft, gd⟩ (fun v' W' R' => ∃ g, v' = v g ∧ W' = WN g ∧ R' = RN g) :=
  op_callX hx fun w hw => by
    obtain ⟨sh, hm⟩ := hw
    refine (hc sh w (hm.part hR.all)).mono fun e w' ⟨g, he, hh⟩ => ?_
    obtain ⟨h1, h2⟩ := Holds.frame hm hh
    refine ⟨v g, he, _, _, ⟨g, rfl, rfl, rfl⟩, ?_, h2⟩
    rw [(hW g).eq, (hN g).eq]; exact h1

/-- the same, of a call that makes nothing that is kept -/
theorem op_callV {f : FuncId} {xs : List Operand} {vs : List Value} {ts : Array TypeId} {v : Value} {Ra : List RF} [hf : TFn P f] [hR : AllIn Ra R] (hx : evalEs E xs = some vs)
    (hc : ∀ sh w, Holds ⟨0, w, [], sh⟩ [] Ra w → Calls P f vs.toArray w fun e w' => e = .returned v ∧ Ext w w') :
    OpP P C E W R ⟨d, .call ⟨.value (.func f), xs.toArray, ts⟩, u, pos, aft, gd⟩ v :=
  op_callP hx fun w hw => by
    obtain ⟨sh, hm⟩ := hw
    exact hc sh w (hm.part hR.all)

theorem op_callY {f : FuncId} {xs : List Operand} {vs : List Value} {ts : Array TypeId} {Φ : Value → List Ent → List RF → Prop} [hf : TFn P f] (hx : evalEs E xs = some vs)
    (hc : ∀ w, Holds C W R w → Calls P f vs.toArray w fun e w' => ∃ v, e = .returned v ∧ ∃ W' R', Φ v W' R' ∧ Holds C W' R' w') : OpY P C E W R ⟨d, .call ⟨.value (.func f), xs.toArray, ts⟩, u, pos, aft, gd⟩ Φ := by
  intro a w hs
  have ha : (xs.toArray.map a.eval) = vs.toArray := by rw [← evalEs_map hs.fr hx]; simp
  simp only [execOp, resolve, ha]
  simp [Act.eval, Deferred.ofValue, invoke, hf.call, ResX]
  exact (hc w hs.mem).mono fun e w' h => by simpa using h

end
end Go.Proofs.Ytdeacehacndopaa

namespace Go.Proofs.Ytdeacehacndopaa
open Go.RowKit

/-! ### Where a call begins and ends -/

def env0 : Nat → List Value → Env
  | _, [] => []
  | k, v :: r => (k, v) :: env0 (k + 1) r

theorem look_env0 : ∀ (l : List Value) (k t : Nat) (v : Value), look (env0 k l) t = some v → k ≤ t ∧ l[t - k]? = some v
  | [], _, _, _, h => by simp [env0, look] at h
  | u :: r, k, t, v, h => by
    simp only [env0, look] at h
    by_cases ht : t = k
    · subst ht
      simp only [Nat.beq_refl, cond_true, Option.some.injEq] at h
      simp [h]
    · have hb : Nat.beq t k = false := by
        cases hb : Nat.beq t k with
        | false => rfl
        | true => exact absurd (Nat.eq_of_beq_eq_true hb) ht
      rw [hb, cond_false] at h
      obtain ⟨h1, h2⟩ := look_env0 r (k + 1) t v h
      refine ⟨by omega, ?_⟩
      rw [show t - k = (t - (k + 1)) + 1 by omega, List.getElem?_cons_succ]
      exact h2

theorem frE_env0 {n : Nat} {l : List Value} (hn : l.length ≤ n) : FrE n (env0 0 l) { tmps := l.toArray ++ Array.replicate (n - l.toArray.size) undef, defers := [] } := by
  refine ⟨by simp; omega, rfl, fun t v h => ?_⟩
  have h2 := (look_env0 l 0 t v h).2
  simp only [Nat.sub_zero] at h2
  have hlt : t < l.length := (List.getElem?_eq_some_iff.1 h2).1
  have h3 : l[t] = v := by rw [List.getElem?_eq_getElem hlt] at h2; exact Option.some.inj h2
  rw [Array.getElem?_append]
  simp [hlt, h3]

/-- a call, by a walk of its body -/
theorem Calls.of_go {P : Program} {f : FuncId} {fn : Func} {c : Code} {args : List Value} {M : List Nat} {A : Nat → Prop} {E : Env} {W : List Ent} {R : List RF} {w : World} {Rp : Ending → World → Prop} {n : Nat}
    (hf : P.funcs[f]? = some fn) (hb : fn.body = some c) (hE : env0 0 args = E) (hn : Nat.ble args.length fn.ntmps = true) (hm : Holds ⟨n, w, M, A⟩ W R w)
    (h : GoC P ⟨fn.ntmps, w, M, A⟩ E W R c (bodyPost P fn Rp)) : Calls P f args.toArray w Rp :=
  calls_of_wp hf hb (h _ _ ⟨hE ▸ frE_env0 (by simpa using hn), hm.n⟩)

theorem Holds.nil {n : Nat} {w : World} {A : Nat → Prop} : Holds ⟨n, w, [], A⟩ [] [] w :=
  ⟨fun _ => False, by simp, by simp, by simp, by simp, by simp, by simp, by simp, Keep.refl _ _⟩

theorem Holds.keep {C : Cx} {W : List Ent} {R : List RF} {w : World} (h : Holds C W R w) : Keep C.M C.w0 w := by
  obtain ⟨_, h⟩ := h; exact h.keep

/-- the end of a call with one answer, in a slot -/
theorem done1 {P : Program} {C : Cx} {E : Env} {W : List Ent} {R : List RF} {fn : Func} {Rp : Ending → World → Prop} {t : Nat} {v : Value}
    (hr : fn.results = #[.tmp t]) (hv : look E t = some v) (h : ∀ w, Holds C W R w → Rp (.returned v) w) : ∀ a w, St C E W R a w → bodyPost P fn Rp .ret a w := by
  intro a w hs
  refine ⟨hs.fr.dfr, v, ?_, h w hs.mem⟩
  have := hs.fr.val t v hv
  simp [results, hr, this]

theorem done0 {P : Program} {C : Cx} {E : Env} {W : List Ent} {R : List RF} {fn : Func} {Rp : Ending → World → Prop}
    (hr : fn.results = #[]) (h : ∀ w, Holds C W R w → Rp (.returned (.tuple #[])) w) : ∀ a w, St C E W R a w → bodyPost P fn Rp .normal a w := by
  intro a w hs
  refine ⟨hs.fr.dfr, _, ?_, h w hs.mem⟩
  simp [results, hr]

theorem done2 {P : Program} {C : Cx} {E : Env} {W : List Ent} {R : List RF} {fn : Func} {Rp : Ending → World → Prop} {t s : Nat} {v u : Value}
    (hr : fn.results = #[.tmp t, .tmp s]) (hv : look E t = some v) (hu : look E s = some u) (h : ∀ w, Holds C W R w → Rp (.returned (.tuple #[v, u])) w) : ∀ a w, St C E W R a w → bodyPost P fn Rp .ret a w := by
  intro a w hs
  refine ⟨hs.fr.dfr, _, ?_, h w hs.mem⟩
  have h1 := hs.fr.val t v hv
  have h2 := hs.fr.val s u hu
  simp [results, hr, h1, h2]

theorem done3 {P : Program} {C : Cx} {E : Env} {W : List Ent} {R : List RF} {fn : Func} {Rp : Ending → World → Prop} {t s r : Nat} {v u x : Value}
    (hr : fn.results = #[.tmp t, .tmp s, .tmp r]) (hv : look E t = some v) (hu : look E s = some u) (hx : look E r = some x) (h : ∀ w, Holds C W R w → Rp (.returned (.tuple #[v, u, x])) w) : ∀ a w, St C E W R a w → bodyPost P fn Rp .ret a w := by
  intro a w hs
  refine ⟨hs.fr.dfr, _, ?_, h w hs.mem⟩
  have h1 := hs.fr.val t v hv
  have h2 := hs.fr.val s u hu
  have h3 := hs.fr.val r x hx
  simp [results, hr, h1, h2, h3]

theorem TInfo.of {P : Program} {e : TypeId} {s b : Nat} {z : Value} {zcs : List Value} (h : (P.info? e).map (fun i => (i.zero, i.size, i.bytes)) = some (some z, s, b)) (hz : z.cells = zcs.toArray) : TInfo P e s b zcs := by
  cases hi : P.info? e with
  | none => simp [hi] at h
  | some i =>
    simp [hi] at h
    exact ⟨i, z, hi, h.1, h.2.1, h.2.2, hz⟩

theorem TFld.mk' {P : Program} {t : TypeId} {fs : Array Field} {i n off : Nat} {fl : Field} (h : P.underlying t = some (.struct fs)) (hf : fs[i]? = some fl) (ho : fl.offset = off)
    (hs : ∀ w, (sizeOf fl.type).run P w = .ok n w) (hn : Nat.beq n 0 = false) : TFld P t i off := by
  refine ⟨fun b o w => ?_⟩
  have hn' : n ≠ 0 := fun e => by subst e; simp at hn
  subst ho
  have ha : (Addr.add ⟨b, o, none⟩ fl.offset) = ⟨b, o + fl.offset, none⟩ := by
    unfold Addr.add; split
    · rename_i h; simp [h]
    · rfl
  simp [Instr.fieldAt, run_under h, hf, Instr.sureAddr, fieldPlace, hs, hn', ha]

end Go.Proofs.Ytdeacehacndopaa

namespace Go.Proofs.Ytdeacehacndopaa
open Go.RowKit

theorem beqF {a b : Nat} (h : ¬ Nat.beq a b = true) : Nat.beq a b = false := by
  cases hb : Nat.beq a b with
  | false => rfl
  | true => exact absurd hb h

/-- all of l is passed over, where slot tj does not hold wt -/
def skipB (ops : Array Oper) (tj : Nat) (wt : Bool) (E : Env) : List Nat → List Oper → Bool
  | _, [] => true
  | us, o :: r =>
    match o.guard with
    | none => false
    | some (g, wv) =>
      match (ops[g]?).bind (·.dst) with
      | none => false
      | some s =>
        ((Nat.beq s tj && (wv == wt) && !(us.contains s)) || us.contains s) &&
        (match o.dst with
         | some d => (look E d).isNone && skipB ops tj wt E (d :: us) r
         | none => skipB ops tj wt E us r)

theorem wpList_append {P : Program} {ops : Array Oper} {Q : Exit → Act → World → Prop} : ∀ (l1 l2 : List Oper) (a : Act) (w : World),
    wpList P ops (Exit.then (wpList P ops Q l2) Q) l1 a w → wpList P ops Q (l1 ++ l2) a w
  | [], l2, a, w, h => h
  | o :: r, l2, a, w, h => by
    simp only [List.cons_append, wpList] at h ⊢
    split
    · rename_i hw
      rw [if_pos hw] at h
      rcases h with h | ⟨h1, h2⟩
      · refine .inl ?_
        unfold Oper.wp at h ⊢
        generalize (execOp a.eval o).run P w = res at h ⊢
        cases res with
        | ok n w' =>
          cases n <;> simp only [Oper.upon] at h ⊢
          case value v => exact wpList_append r l2 _ _ h
          case skip => exact wpList_append r l2 _ _ h
          case defer d => exact wpList_append r l2 _ _ h
          case enter f args => exact h.mono fun e w'' he => by cases e <;> first | exact wpList_append r l2 _ _ he | exact he
          case row row args => exact h.mono fun _ _ he => wpList_append r l2 _ _ he
        | halt x w' => cases x <;> simp only [Oper.upon] at h ⊢ <;> exact h
      · exact .inr ⟨h1, h2⟩
    · rename_i hw
      rw [if_neg hw] at h
      exact wpList_append r l2 _ _ h

theorem wpList_thenMono {P : Program} {ops : Array Oper} {Q : Exit → Act → World → Prop} {K K' : Act → World → Prop} : ∀ (l : List Oper) (a : Act) (w : World),
    wpList P ops (Exit.then K Q) l a w → (∀ a w, K a w → K' a w) → wpList P ops (Exit.then K' Q) l a w
  | [], a, w, h, hk => hk a w h
  | o :: r, a, w, h, hk => by
    simp only [wpList] at h ⊢
    split
    · rename_i hw
      rw [if_pos hw] at h
      rcases h with h | ⟨h1, h2⟩
      · refine .inl ?_
        unfold Oper.wp at h ⊢
        generalize (execOp a.eval o).run P w = res at h ⊢
        cases res with
        | ok n w' =>
          cases n <;> simp only [Oper.upon] at h ⊢
          case value v => exact wpList_thenMono r _ _ h hk
          case skip => exact wpList_thenMono r _ _ h hk
          case defer d => exact wpList_thenMono r _ _ h hk
          case enter f args => exact h.mono fun e w'' he => by cases e <;> first | exact wpList_thenMono r _ _ he hk | exact he
          case row row args => exact h.mono fun _ _ he => wpList_thenMono r _ _ he hk
        | halt x w' => cases x <;> simp only [Oper.upon] at h ⊢ <;> exact h
      · exact .inr ⟨h1, h2⟩
    · rename_i hw
      rw [if_neg hw] at h
      exact wpList_thenMono r _ _ h hk

theorem skip_run {P : Program} {ops : Array Oper} {Q : Exit → Act → World → Prop} {n tj : Nat} {wt b : Bool} {E : Env} {w : World} (hb : b ≠ wt) (hj : look E tj = some (.bool b)) :
    ∀ (l : List Oper) (us : List Nat) (a : Act), skipB ops tj wt E us l = true → FrE n E a → (∀ s ∈ us, a.tmps[s]? = some undef ∨ a.tmps[s]? = none) →
      (∀ a', FrE n E a' → Q .normal a' w) → wpList P ops Q l a w
  | [], _, a, _, hf, _, hq => by simp only [wpList]; exact hq a hf
  | o :: r, us, a, hs, hf, hu, hq => by
    simp only [skipB] at hs
    split at hs
    · cases hs
    · rename_i g wv hg
      split at hs
      · cases hs
      · rename_i s hgs
        have hnw : Region.wanted o (yielded ops a.tmps) = false := by
          simp only [Region.wanted, hg, yielded, hgs, Option.bind_some]
          simp only [Bool.and_eq_true, Bool.or_eq_true, Bool.not_eq_true'] at hs
          rcases hs.1 with ⟨⟨h1, h2⟩, _⟩ | h1
          · have h1' : s = tj := Nat.eq_of_beq_eq_true h1
            subst h1'
            have h2' : wv = wt := by simpa using h2
            subst h2'
            rw [hf.val _ _ hj]
            cases b <;> cases wv <;> simp_all
          · rcases hu s (by simpa using h1) with h | h <;> simp [h, undef]
        simp only [wpList, hnw, Bool.false_eq_true, if_false]
        simp only [Bool.and_eq_true] at hs
        cases hd : o.dst with
        | none =>
          rw [hd] at hs
          exact skip_run hb hj r us a hs.2 hf hu hq
        | some d =>
          rw [hd] at hs
          simp only [Bool.and_eq_true, Option.isNone_iff_eq_none] at hs
          refine skip_run hb hj r (d :: us) _ hs.2.2 ?_ ?_ hq
          · refine ⟨by simp [Act.put, hf.size], hf.dfr, fun t v hv => ?_⟩
            have hne : t ≠ d := fun e => by rw [e, hs.2.1] at hv; cases hv
            simp only [Act.put]
            rw [Array.getElem?_setIfInBounds, if_neg (fun e => hne e.symm)]
            exact hf.val t v hv
          · intro s' hs'
            simp only [Act.put, Array.getElem?_setIfInBounds]
            by_cases he : d = s'
            · subst he
              by_cases hlt : d < a.tmps.size
              · simp [hlt]
              · right; simp [hlt]
            · rw [if_neg he]
              rcases List.mem_cons.1 hs' with h | h
              · exact absurd h.symm he
              · exact hu s' h

theorem look_append_fresh {E : Env} {t : Nat} {v : Value} : ∀ {p : Env}, (p.all fun e => (look E e.1).isNone) = true → look E t = some v → look (p ++ E) t = some v
  | [], _, h => h
  | (s, u) :: p, hp, h => by
    simp only [List.all_cons, Bool.and_eq_true] at hp
    simp only [List.cons_append, look]
    have hne : Nat.beq t s = false := by
      cases hb : Nat.beq t s with
      | false => rfl
      | true =>
        have := Nat.eq_of_beq_eq_true hb
        subst this
        rw [h] at hp
        simp at hp
    rw [hne, cond_false]
    exact look_append_fresh hp.2 h

section
variable {P : Program} {C : Cx} {E : Env} {W : List Ent} {R : List RF} {Q : Exit → Act → World → Prop} {ops : Array Oper}

/-- the end of a part: what it holds stands in slot x; all else is as it was -/
theorem GoL.part {Ef : Env} {x k : Nat} {v : Value} (hx : look Ef x = some v) (hE : Ef.drop k = E) (hf : ((Ef.take k).all fun e => (look E e.1).isNone) = true) :
    GoL P C ops Ef W R [] (Exit.then (fun a w => St C ((x, v) :: E) W R a w) Q) := by
  refine GoL.nilTo .next fun a w hs => ⟨⟨hs.fr.size, hs.fr.dfr, fun t u hu => ?_⟩, hs.mem⟩
  simp only [look] at hu
  by_cases ht : Nat.beq t x = true
  · have := Nat.eq_of_beq_eq_true ht
    subst this
    rw [ht, cond_true] at hu
    cases hu
    exact hs.fr.val _ _ hx
  · have ht' : Nat.beq t x = false := beqF ht
    rw [ht', cond_false] at hu
    have h2 := look_append_fresh hf hu
    rw [← hE, List.take_append_drop] at h2
    exact hs.fr.val _ _ h2

theorem GoL.and {l l1 rest : List Oper} {po : Oper} {tj x d m : Nat} {b b2 : Bool}
    (hl1 : l.take m = l1) (hl2 : l.drop m = po :: rest) (hj : look E tj = some (.bool b)) (hs : skipB ops tj true E [] l1 = true)
    (hpo : po.op = .pick (.tmp tj) (.tmp x) (.const (.bool false))) (hd : po.dst = some d) (hn : Nat.blt d C.n = true) (hxt : (look E x).isNone = true)
    (hw : Wn ops E po) (hrun : b = true → GoL P C ops E W R l1 (Exit.then (fun a w => St C ((x, .bool b2) :: E) W R a w) Q))
    (k : GoL P C ops ((d, .bool (b && b2)) :: E) W R rest Q) : GoL P C ops E W R l Q := by
  intro a w hst
  rw [← List.take_append_drop m l, hl1, hl2]
  refine wpList_append _ _ _ _ ?_
  cases b with
  | true =>
    have h1 := hrun rfl a w hst
    refine wpList_thenMono l1 a w h1 ?_
    intro a' w' hs'
    have hfr : FrE C.n E a' := ⟨hs'.fr.size, hs'.fr.dfr, fun t v hv => ?_⟩
    · have hev : execOp a'.eval po = pure (.value (.bool b2)) := by
        have e1 : a'.eval (.tmp tj) = .bool true := hfr.eval (x := .tmp tj) hj
        have e2 : a'.eval (.tmp x) = .bool b2 := hs'.fr.eval (x := .tmp x) (by simp [evalE, look])
        simp only [execOp, hpo, e1, e2, asBool]
        rfl
      simp only [wpList, hw _ _ hfr, if_true]
      refine .inl ?_
      unfold Oper.wp
      rw [hev]
      simp only [Sem.run_pure, Oper.upon_value, hd]
      exact k _ _ ⟨by simpa using hfr.put hn (.bool b2), hs'.mem⟩
    · by_cases ht : Nat.beq t x = true
      · have := Nat.eq_of_beq_eq_true ht
        subst this
        rw [hv] at hxt
        cases hxt
      · have ht' : Nat.beq t x = false := beqF ht
        exact hs'.fr.val t v (by simp only [look, ht', cond_false]; exact hv)
  | false =>
    refine skip_run (n := C.n) (by simp) hj l1 [] a hs hst.fr (by simp) ?_
    intro a' hfr
    have hev : execOp a'.eval po = pure (.value (.bool false)) := by
      have e1 : a'.eval (.tmp tj) = .bool false := hfr.eval (x := .tmp tj) hj
      simp only [execOp, hpo, e1, asBool]
      rfl
    show wpList P ops Q (po :: rest) a' w
    simp only [wpList, hw _ _ hfr, if_true]
    refine .inl ?_
    unfold Oper.wp
    rw [hev]
    simp only [Sem.run_pure, Oper.upon_value, hd]
    exact k _ _ ⟨by simpa using hfr.put hn (.bool false), hst.mem⟩

theorem GoL.or {l l1 rest : List Oper} {po : Oper} {tj x d m : Nat} {b b2 : Bool}
    (hl1 : l.take m = l1) (hl2 : l.drop m = po :: rest) (hj : look E tj = some (.bool b)) (hs : skipB ops tj false E [] l1 = true)
    (hpo : po.op = .pick (.tmp tj) (.const (.bool true)) (.tmp x)) (hd : po.dst = some d) (hn : Nat.blt d C.n = true) (hxt : (look E x).isNone = true)
    (hw : Wn ops E po) (hrun : b = false → GoL P C ops E W R l1 (Exit.then (fun a w => St C ((x, .bool b2) :: E) W R a w) Q))
    (k : GoL P C ops ((d, .bool (b || b2)) :: E) W R rest Q) : GoL P C ops E W R l Q := by
  intro a w hst
  rw [← List.take_append_drop m l, hl1, hl2]
  refine wpList_append _ _ _ _ ?_
  cases b with
  | false =>
    have h1 := hrun rfl a w hst
    refine wpList_thenMono l1 a w h1 ?_
    intro a' w' hs'
    have hfr : FrE C.n E a' := ⟨hs'.fr.size, hs'.fr.dfr, fun t v hv => ?_⟩
    · have hev : execOp a'.eval po = pure (.value (.bool b2)) := by
        have e1 : a'.eval (.tmp tj) = .bool false := hfr.eval (x := .tmp tj) hj
        have e2 : a'.eval (.tmp x) = .bool b2 := hs'.fr.eval (x := .tmp x) (by simp [evalE, look])
        simp only [execOp, hpo, e1, e2, asBool]
        rfl
      simp only [wpList, hw _ _ hfr, if_true]
      refine .inl ?_
      unfold Oper.wp
      rw [hev]
      simp only [Sem.run_pure, Oper.upon_value, hd]
      exact k _ _ ⟨by simpa using hfr.put hn (.bool b2), hs'.mem⟩
    · by_cases ht : Nat.beq t x = true
      · have := Nat.eq_of_beq_eq_true ht
        subst this
        rw [hv] at hxt
        cases hxt
      · have ht' : Nat.beq t x = false := beqF ht
        exact hs'.fr.val t v (by simp only [look, ht', cond_false]; exact hv)
  | true =>
    refine skip_run (n := C.n) (by simp) hj l1 [] a hs hst.fr (by simp) ?_
    intro a' hfr
    have hev : execOp a'.eval po = pure (.value (.bool true)) := by
      have e1 : a'.eval (.tmp tj) = .bool true := hfr.eval (x := .tmp tj) hj
      simp only [execOp, hpo, e1, asBool]
      rfl
    show wpList P ops Q (po :: rest) a' w
    simp only [wpList, hw _ _ hfr, if_true]
    refine .inl ?_
    unfold Oper.wp
    rw [hev]
    simp only [Sem.run_pure, Oper.upon_value, hd]
    exact k _ _ ⟨by simpa using hfr.put hn (.bool true), hst.mem⟩

end
end Go.Proofs.Ytdeacehacndopaa
