/- Rows of one's own: whole elements stored; their beginnings. More of what the walk asks of the program's types: pointers, records. Printed by a program. What piles and the library's heap compute, in plain words. What graphs' Check and Out, order's Sort and Late compute, in plain words. What draft and Early compute, in plain words. Piles, and the library's heap beneath them. No conditions beyond those that each theorem names. -/
import Derived.Test.YtdeacehacndopaaL10
import Derived.Test.YtdeacehacndopaaL4
import Derived.Test.YtdeacehacndopaaL9
namespace Go.Proofs.Ytdeacehacndopaa
open Go.RowKit

theorem slot_setAt {α : Type} {ty : RTy α} {cur vs : List Value} {k i n : Nat} (hv : vs.length = ty.n) (hk : k < n) (hi : i < n) (hl : n * ty.n ≤ cur.length) :
    slot ty ((cur.take (k * ty.n) ++ vs ++ cur.drop (k * ty.n + vs.length)).take (n * ty.n)) i = if k = i then vs else slot ty (cur.take (n * ty.n)) i := by
  have h1 : k * ty.n + ty.n ≤ n * ty.n := by have := Nat.mul_le_mul_right ty.n hk; rwa [Nat.succ_mul] at this
  have h2 : i * ty.n + ty.n ≤ n * ty.n := by have := Nat.mul_le_mul_right ty.n hi; rwa [Nat.succ_mul] at this
  apply List.ext_getElem?
  intro j
  by_cases hki : k = i
  · subst hki
    rw [if_pos rfl]
    simp only [slot, List.getElem?_take, List.getElem?_drop]
    by_cases hj : j < ty.n
    · rw [if_pos hj, if_pos (by omega), List.append_assoc, List.getElem?_append_right (by simp; omega)]
      simp only [List.length_take]
      rw [show k * ty.n + j - min (k * ty.n) cur.length = j by omega, List.getElem?_append_left (by omega)]
    · rw [if_neg hj, List.getElem?_eq_none (by omega)]
  · rw [if_neg hki]
    simp only [slot, List.getElem?_take, List.getElem?_drop]
    by_cases hj : j < ty.n
    · rw [if_pos hj, if_pos (by omega), if_pos hj, if_pos (by omega)]
      rcases Nat.lt_or_gt_of_ne hki with h | h
      · have h3 : (k + 1) * ty.n ≤ i * ty.n := Nat.mul_le_mul_right _ h
        rw [Nat.succ_mul] at h3
        rw [List.getElem?_append_right (by simp; omega), List.getElem?_drop]
        congr 1
        simp; omega
      · have h3 : (i + 1) * ty.n ≤ k * ty.n := Nat.mul_le_mul_right _ h
        rw [Nat.succ_mul] at h3
        rw [List.append_assoc, List.getElem?_append_left (by simp; omega), List.getElem?_take, if_pos (by omega)]
    · rw [if_neg hj, if_neg hj]

section
variable {P : Program} {C : Cx} {E : Env} {W W' : List Ent} {R R' : List RF} {Q : Exit → Act → World → Prop} {ops : Array Oper}
variable {d : Option Tmp} {x y z : Operand} {t t' u e : TypeId} {pos : String} {aft : Array Edge} {gd : Option (Nat × Bool)}

/-- a store of an element, whole -/
theorem op_storeOA {α : Type} {T : TypeId} {ty : RTy α} {a' : Option Addr} {c n m : Nat} {ag : Bool} {l : List α} {v : Value} {vs : List Value} (k : Nat) (xv : α) [hw : HasOwn a' W T ty c l] [hz : TSz P t n ag] [hu : Upd (own T ty a' c l) (own T ty a' c (l.set k xv)) W W']
    (hlt : k < l.length) (hx : evalE E x = some (.pointer (some (eaddr a' (k * m))))) (hy : evalE E y = some v) (hv : v.cells = vs.toArray) (hvl : vs.length = n)
    (hr : ∀ sh w, HoldsAt sh C W R w → ty.rep sh w vs xv) (hm : ty.n = m := by rfl) (hn : m = n := by rfl) :
    OpY P C E W R ⟨d, .store t x y, u, pos, aft, gd⟩ (fun v' W'' R' => v' = undef ∧ W'' = W' ∧ R' = R) := by
  intro a w hs
  obtain ⟨sh0, hm0⟩ := hs.mem
  subst hm
  subst hn
  have hone := ty.one _ _ _ _ (hr _ _ hm0)
  obtain ⟨xs, ho, hreps⟩ := hm0.own _ hw.mem
  obtain ⟨g, rfl⟩ := own_some (hm0.own _ hw.mem) (by omega)
  obtain ⟨cap, cur, hheap, hlc, hcm, hcs, htake⟩ : ∃ (cap : Nat) (cur : List Value), w.heap[g]? = some (.cells cur.toArray T (0, 0)) ∧ l.length ≤ c ∧ c ≤ maxLen ∧ cur.length = c * ty.n ∧ cur.take (l.length * ty.n) = xs := by
    rcases ho.2 with ⟨h2, _⟩ | ⟨g', cap, cur, hv', _, hg', h3, h4, h5, h6⟩
    · simp at h2
    · simp only [Value.slice.injEq, Option.some.injEq, Addr.mk.injEq, and_true, true_and] at hv'
      obtain ⟨rfl, rfl⟩ := hv'
      exact ⟨c, cur.toList, by simpa using hg', h3, h4, by simpa using h5, h6⟩
  have hkn : k * ty.n + ty.n ≤ l.length * ty.n := by have := Nat.mul_le_mul_right ty.n hlt; rwa [Nat.succ_mul] at this
  have hln : l.length * ty.n ≤ c * ty.n := Nat.mul_le_mul_right _ hlc
  have hrun := run_storeCells_at P g (k * ty.n) T vs 0 cur.toArray w hheap (by simp; omega) hone
  have he : (eaddr (some ⟨g, 0, none⟩) (k * ty.n)) = ⟨g, k * ty.n, none⟩ := by simp [eaddr, blk, ofs]
  rw [he] at hx
  simp only [execOp, hs.fr.eval hx, hs.fr.eval hy, Instr.storeAt, Instr.sureAddr, storeVar]
  simp only [Nat.add_zero, List.toList_toArray] at hrun
  simp [hz.sz, hv, hvl, hrun, ResX]
  have hk : Keep (own T ty (some ⟨g, 0, none⟩) c l).fp w (w.setRow g (cur.take (k * ty.n) ++ (vs ++ cur.drop (k * ty.n + ty.n))).toArray) :=
    ⟨rfl, rfl, rfl, by simp [World.setRow], fun b _ hb => setRow_other w g b _ (fun e => hb (by simp [own, e]))⟩
  refine ⟨_, _, ⟨rfl, rfl⟩, hs.mem.upd (e := own T ty (some ⟨g, 0, none⟩) c l) (e' := own T ty (some ⟨g, 0, none⟩) c (l.set k xv)) hk (fun sh hmm => ?_) (by simp [own]) (fun b hb => .inl hb)⟩
  have hkeep : ∀ b, sh b → (w.setRow g (cur.take (k * ty.n) ++ (vs ++ cur.drop (k * ty.n + ty.n))).toArray).heap[b]? = w.heap[b]? := fun b hb => setRow_other w g b _ (fun e => hmm.sep b (by
    refine List.mem_flatMap.2 ⟨_, hw.mem, ?_⟩
    simp [own, e]) hb)
  have hh2 := setRow_heap w g cur.toArray (cur.take (k * ty.n) ++ (vs ++ cur.drop (k * ty.n + ty.n))).toArray T (0, 0) hheap
  have hlen2 : (cur.take (k * ty.n) ++ (vs ++ cur.drop (k * ty.n + ty.n))).length = c * ty.n := by simp; omega
  refine ⟨(cur.take (k * ty.n) ++ (vs ++ cur.drop (k * ty.n + ty.n))).take (l.length * ty.n), ⟨by rw [List.length_set, List.length_take, hlen2]; omega, .inr ⟨g, c, _, by simp, Nat.zero_le _, hh2, by simpa using hlc, hcm, by simpa using hlen2, by simp⟩⟩, fun i q hq => ?_⟩
  obtain ⟨hi, rfl⟩ := List.getElem?_eq_some_iff.1 hq
  rw [List.length_set] at hi
  have hsl := slot_setAt (ty := ty) (cur := cur) (vs := vs) (k := k) (i := i) (n := l.length) hvl hlt hi (by omega)
  rw [hvl, List.append_assoc] at hsl
  rw [hsl, List.getElem_set]
  obtain ⟨ys, hoy, hrepy⟩ := hmm.own _ hw.mem
  by_cases hki : k = i
  · rw [if_pos hki, if_pos hki]
    exact ty.loc _ _ _ _ _ _ (hr sh w hmm) (fun _ h => h) hkeep
  · rw [if_neg hki, if_neg hki, htake]
    have := ownsRow_inj ho hoy
    subst this
    exact ty.loc _ _ _ _ _ _ (hrepy i l[i] (by simp [hi])) (fun _ h => h) hkeep

/-- the beginning of a row of one's own, as a row of one's own -/
theorem op_sliceO {α : Type} {T : TypeId} {ty : RTy α} {a' : Option Addr} {c n m : Nat} {ag : Bool} {l : List α} {hi : Operand} {kk : IntKind} (j : Nat) [hw : HasOwn a' W T ty c l] [ht : TSl P t e] [hz : TSz P e n ag] [hu : Upd (own T ty a' c l) (own T ty a' c (l.take j)) W W']
    (hx : evalE E x = some (.slice a' m c)) (hmm : m = l.length) (hhi : evalE E hi = some (.int kk (j : Int))) (hj : j ≤ l.length) :
    OpX P C E W R ⟨d, .slice t x none (some hi) none, u, pos, aft, gd⟩ (fun v W'' R' => v = .slice a' (l.take j).length c ∧ W'' = W' ∧ R' = R) := by
  intro a w hs
  obtain ⟨sh0, hm0⟩ := hs.mem
  subst hmm
  have hlc : l.length ≤ c := (own_slice (hm0.own _ hw.mem)).1
  have e1 : ∀ (p q : Nat) (cd : BoundsCode), p ≤ q → (Instr.sliceBound (.int kk (p : Int)) q cd).run P w = .ok p w := by
    intro p q cd hpq
    have : (0 : Int) ≤ p ∧ (p : Int) ≤ q := by omega
    simp [Instr.sliceBound, asIntOf, this, hpq]
  have hadd : ∀ q : Addr, q.add 0 = q := fun q => by unfold Addr.add; rw [if_pos rfl]
  have hrun : (Instr.sliceAt t (.slice a' l.length c) none (some (a.eval hi)) none).run P w = .ok (.slice a' j c) w := by
    simp [Instr.sliceAt, Instr.slice, run_under ht.un, Instr.sliceBounds, hs.fr.eval hhi, e1 j c _ (Nat.le_trans hj hlc), hz.sz]
    intro hc
    cases a' <;> simp [hadd]
  have hlen : (l.take j).length = j := by simp; omega
  simp only [execOp, hs.fr.eval hx, Option.map_none, Option.map_some]
  simp only [hlen]
  simp [hrun, ResX]
  refine ⟨_, _, ⟨rfl, rfl⟩, hs.mem.upd (e := own T ty a' c l) (e' := own T ty a' c (l.take j)) (Keep.refl _ _) (fun sh hm => ?_) (by cases a' <;> simp [own]) (fun b hb => .inl hb), Keep.refl _ _⟩
  obtain ⟨xs, ho, hreps⟩ := hm.own _ hw.mem
  have hjn : j * ty.n ≤ l.length * ty.n := Nat.mul_le_mul_right _ hj
  refine ⟨xs.take (j * ty.n), ⟨by rw [List.length_take, ho.1, hlen]; omega, ?_⟩, fun i q hq => ?_⟩
  · rcases ho.2 with ⟨h2, h3⟩ | ⟨g', cap, cur, hv', h0, hg', h3, h4, h5, h6⟩
    · simp only [Value.slice.injEq] at h2
      obtain ⟨rfl, h7, rfl⟩ := h2
      exact .inl ⟨by rw [hlen]; simp; omega, by omega⟩
    · simp only [Value.slice.injEq, true_and] at hv'
      obtain ⟨rfl, rfl⟩ := hv'
      refine .inr ⟨g', c, cur, rfl, h0, hg', by omega, h4, h5, ?_⟩
      rw [hlen, ← h6, List.take_take, Nat.min_eq_left hjn]
  · obtain ⟨hi', rfl⟩ := List.getElem?_eq_some_iff.1 hq
    rw [List.length_take] at hi'
    have hil : i < l.length := by omega
    have h8 : i * ty.n + ty.n ≤ j * ty.n := by have := Nat.mul_le_mul_right ty.n (show i + 1 ≤ j by omega); rwa [Nat.succ_mul] at this
    have h9 : slot ty (xs.take (j * ty.n)) i = slot ty xs i := by
      simp only [slot]
      rw [List.drop_take, List.take_take, Nat.min_eq_left (by omega)]
    rw [h9, List.getElem_take]
    exact hreps i l[i] (by simp [hil])
end
end Go.Proofs.Ytdeacehacndopaa

namespace Go.Proofs.Ytdeacehacndopaa
instance : TStr Pr 7 := ⟨_, Try.underlying7⟩
instance : TStr Pr 8 := ⟨_, Try.underlying8⟩
instance : TStr Pr 13 := ⟨_, Try.underlying13⟩
instance : TStr Pr 14 := ⟨_, Try.underlying14⟩
instance : TPtr Pr 15 190 := ⟨Try.underlying15⟩
instance : TPtr Pr 16 193 := ⟨Try.underlying16⟩
instance : TPtr Pr 17 202 := ⟨Try.underlying17⟩
instance : TStr Pr 18 := ⟨_, Try.underlying18⟩
instance : TStr Pr 19 := ⟨_, Try.underlying19⟩
instance : TStr Pr 25 := ⟨_, Try.underlying25⟩
instance : TStr Pr 26 := ⟨_, Try.underlying26⟩
instance : TStr Pr 27 := ⟨_, Try.underlying27⟩
instance : TStr Pr 28 := ⟨_, Try.underlying28⟩
instance : TStr Pr 31 := ⟨_, Try.underlying31⟩
instance : TStr Pr 32 := ⟨_, Try.underlying32⟩
instance : TStr Pr 35 := ⟨_, Try.underlying35⟩
instance : TStr Pr 36 := ⟨_, Try.underlying36⟩
instance : TStr Pr 39 := ⟨_, Try.underlying39⟩
instance : TStr Pr 40 := ⟨_, Try.underlying40⟩
instance : TStr Pr 44 := ⟨_, Try.underlying44⟩
instance : TStr Pr 45 := ⟨_, Try.underlying45⟩
instance : TPtr Pr 50 2 := ⟨Try.underlying50⟩
instance : TStr Pr 52 := ⟨_, Try.underlying52⟩
instance : TStr Pr 53 := ⟨_, Try.underlying53⟩
instance : TStr Pr 61 := ⟨_, Try.underlying61⟩
instance : TStr Pr 62 := ⟨_, Try.underlying62⟩
instance : TStr Pr 67 := ⟨_, Try.underlying67⟩
instance : TStr Pr 68 := ⟨_, Try.underlying68⟩
instance : TStr Pr 74 := ⟨_, Try.underlying74⟩
instance : TStr Pr 75 := ⟨_, Try.underlying75⟩
instance : TStr Pr 76 := ⟨_, Try.underlying76⟩
instance : TStr Pr 77 := ⟨_, Try.underlying77⟩
instance : TStr Pr 78 := ⟨_, Try.underlying78⟩
instance : TStr Pr 79 := ⟨_, Try.underlying79⟩
instance : TStr Pr 81 := ⟨_, Try.underlying81⟩
instance : TStr Pr 82 := ⟨_, Try.underlying82⟩
instance : TStr Pr 86 := ⟨_, Try.underlying86⟩
instance : TStr Pr 87 := ⟨_, Try.underlying87⟩
instance : TStr Pr 88 := ⟨_, Try.underlying88⟩
instance : TStr Pr 89 := ⟨_, Try.underlying89⟩
instance : TPtr Pr 94 82 := ⟨Try.underlying94⟩
instance : TStr Pr 106 := ⟨_, Try.underlying106⟩
instance : TStr Pr 107 := ⟨_, Try.underlying107⟩
instance : TStr Pr 129 := ⟨_, Try.underlying129⟩
instance : TStr Pr 130 := ⟨_, Try.underlying130⟩
instance : TStr Pr 131 := ⟨_, Try.underlying131⟩
instance : TStr Pr 132 := ⟨_, Try.underlying132⟩
instance : TPtr Pr 138 140 := ⟨Try.underlying138⟩
instance : TStr Pr 139 := ⟨_, Try.underlying139⟩
instance : TStr Pr 140 := ⟨_, Try.underlying140⟩
instance : TPtr Pr 160 176 := ⟨Try.underlying160⟩
instance : TStr Pr 163 := ⟨_, Try.underlying163⟩
instance : TStr Pr 164 := ⟨_, Try.underlying164⟩
instance : TStr Pr 175 := ⟨_, Try.underlying175⟩
instance : TStr Pr 176 := ⟨_, Try.underlying176⟩
instance : TPtr Pr 178 174 := ⟨Try.underlying178⟩
instance : TStr Pr 189 := ⟨_, Try.underlying189⟩
instance : TStr Pr 190 := ⟨_, Try.underlying190⟩
instance : TStr Pr 192 := ⟨_, Try.underlying192⟩
instance : TStr Pr 193 := ⟨_, Try.underlying193⟩
instance : TPtr Pr 198 5 := ⟨Try.underlying198⟩
instance : TStr Pr 201 := ⟨_, Try.underlying201⟩
instance : TStr Pr 202 := ⟨_, Try.underlying202⟩
end Go.Proofs.Ytdeacehacndopaa

namespace Go.Proofs.Ytdeacehacndopaa
open Go.RowKit

structure Item where
  Key : Int
  ID : Int
def tItem : RTy Item := tMap (fun x : Item => (x.Key, x.ID)) (tPair t64 t64)
instance : Open tItem (Unit × Unit) (fun x _ => [.int .i64 x.Key, .int .i64 x.ID]) (fun _ _ R => R) (fun x => I64 x.Key ∧ I64 x.ID) := Open.map (f := fun x : Item => (x.Key, x.ID)) (t := tPair t64 t64)
instance : Cl tItem (fun x => [.int .i64 x.Key, .int .i64 x.ID]) := Cl.map (f := fun x : Item => (x.Key, x.ID)) (t := tPair t64 t64)
theorem rep_item {x : Item} (h : I64 x.Key ∧ I64 x.ID) (sh : Nat → Prop) (w : World) : tItem.rep sh w [.int .i64 x.Key, .int .i64 x.ID] x := ⟨[_], [_], rfl, ⟨rfl, h.1⟩, ⟨rfl, h.2⟩⟩
theorem item_rng {x : Item} {sh : Nat → Prop} {w : World} {cs : List Value} (h : tItem.rep sh w cs x) : I64 x.Key ∧ I64 x.ID := by
  obtain ⟨_, _, _, h1, h2⟩ := h; exact ⟨h1.2, h2.2⟩
def lessI (a b : Item) : Bool := if (!decide (a.Key = b.Key)) = true then decide (a.Key < b.Key) else decide (a.ID < b.ID)
def itAt (l : List Item) (k : Nat) : Item := l.getD k ⟨0, 0⟩
def swapI (l : List Item) (i j : Nat) : List Item := (l.set i (itAt l j)).set j (itAt l i)
theorem swapI_len (l : List Item) (i j : Nat) : (swapI l i j).length = l.length := by simp [swapI]
def upI : Nat → List Item → Nat → List Item
  | 0, l, _ => l
  | f + 1, l, j => if (decide ((((j - 1) / 2 : Nat) : Int) = (j : Int)) || !lessI (itAt l j) (itAt l ((j - 1) / 2))) = true then l else upI f (swapI l ((j - 1) / 2) j) ((j - 1) / 2)
def downJ (l : List Item) (i n : Nat) : Nat := if (decide (((2 * i + 2 : Nat) : Int) < (n : Int)) && lessI (itAt l (2 * i + 2)) (itAt l (2 * i + 1))) = true then 2 * i + 2 else 2 * i + 1
def downI : Nat → List Item → Nat → Nat → List Item × Nat
  | 0, l, i, _ => (l, i)
  | f + 1, l, i, n => if ((n : Int) ≤ ((2 * i + 1 : Nat) : Int)) then (l, i) else
    if (!lessI (itAt l (downJ l i n)) (itAt l i)) = true then (l, i) else downI f (swapI l i (downJ l i n)) (downJ l i n) n
theorem upI_len : ∀ {f : Nat} {l : List Item} {j : Nat}, (upI f l j).length = l.length
  | 0, _, _ => rfl
  | f + 1, l, j => by
    rw [upI]; split
    · rfl
    · rw [upI_len, swapI_len]
theorem downI_len : ∀ {f : Nat} {l : List Item} {i n : Nat}, (downI f l i n).1.length = l.length
  | 0, _, _, _ => rfl
  | f + 1, l, i, n => by
    rw [downI]; split
    · rfl
    · split
      · rfl
      · rw [downI_len, swapI_len]
def putI (l : List Item) (x : Item) : List Item := upI l.length (l ++ [x]) l.length
def popI (l : List Item) : List Item := (downI (l.length - 1) (swapI l 0 (l.length - 1)) 0 (l.length - 1)).1
theorem popI_len (l : List Item) : (popI l).length = l.length := by rw [popI, downI_len, swapI_len]
/-- the least, and the others -/
def takeI (l : List Item) : Item × List Item := (itAt (popI l) (l.length - 1), (popI l).take (l.length - 1))
theorem quo_half (j : Nat) (h : j ≤ 1000000000000) : IntKind.i64.wrap (((j : Int) - 1).tdiv 2) = (((j - 1) / 2 : Nat) : Int) := by
  cases j with
  | zero => rfl
  | succ j =>
    have e : (((j + 1 : Nat) : Int) - 1) = (j : Int) := by omega
    rw [e, show j + 1 - 1 = j from rfl]
    have : ((j : Int)).tdiv 2 = ((j / 2 : Nat) : Int) := by rw [Int.tdiv_eq_ediv_of_nonneg (by omega)]; omega
    rw [this]
    exact w64_id (by omega)
end Go.Proofs.Ytdeacehacndopaa

namespace Go.Proofs.Ytdeacehacndopaa
open Go.RowKit

structure Arc where
  From : Int
  To : Int
  Weight : Int
def tArc : RTy Arc := tMap (fun x : Arc => (x.From, x.To, x.Weight)) (tPair t64 (tPair t64 t64))
instance : Open tArc (Unit × Unit × Unit) (fun x _ => [.int .i64 x.From, .int .i64 x.To, .int .i64 x.Weight]) (fun _ _ R => R) (fun x => I64 x.From ∧ I64 x.To ∧ I64 x.Weight) := Open.map (f := fun x : Arc => (x.From, x.To, x.Weight)) (t := tPair t64 (tPair t64 t64))
instance : Cl tArc (fun x => [.int .i64 x.From, .int .i64 x.To, .int .i64 x.Weight]) := Cl.map (f := fun x : Arc => (x.From, x.To, x.Weight)) (t := tPair t64 (tPair t64 t64))
theorem rep_arc {x : Arc} (h : I64 x.From ∧ I64 x.To ∧ I64 x.Weight) (sh : Nat → Prop) (w : World) : tArc.rep sh w [.int .i64 x.From, .int .i64 x.To, .int .i64 x.Weight] x := ⟨[_], [_, _], rfl, ⟨rfl, h.1⟩, [_], [_], rfl, ⟨rfl, h.2.1⟩, ⟨rfl, h.2.2⟩⟩
def hasG (n i : Int) : Bool := decide (0 ≤ i) && decide (i < n)
def arcBad (n : Int) (a : Arc) : Bool := ((!hasG n a.From || !hasG n a.To) || decide (a.Weight < -1099511627776)) || decide (1099511627776 < a.Weight)
def arcsC (n : Int) : List Arc → Int
  | [] => 0
  | a :: r => if arcBad n a = true then 2 else arcsC n r
def graphC (n : Int) (l : List Arc) : Int := if ((decide (n < 0) || decide (1000 < n)) || decide (20000 < (l.length : Int))) = true then 4 else arcsC n l
def outG (i : Int) : List Arc → Nat → List Int
  | [], _ => []
  | a :: r, k => if decide (a.From = i) = true then (k : Int) :: outG i r (k + 1) else outG i r (k + 1)
def arcAt (l : List Arc) (k : Int) : Arc := l.getD k.toNat ⟨0, 0, 0⟩
theorem arcsC_ok {n : Int} : ∀ {l : List Arc}, arcsC n l = 0 → ∀ a ∈ l, (0 ≤ a.From ∧ a.From < n) ∧ (0 ≤ a.To ∧ a.To < n) ∧ -1099511627776 ≤ a.Weight ∧ a.Weight ≤ 1099511627776
  | [], _, a, h => by simp at h
  | b :: r, h, a, ha => by
    rw [arcsC] at h
    split at h
    · cases h
    · rename_i hb
      rcases List.mem_cons.1 ha with rfl | ha
      · simp [arcBad, hasG] at hb; omega
      · exact arcsC_ok h a ha
theorem graphC_ok {n : Int} {l : List Arc} (h : graphC n l = 0) : (0 ≤ n ∧ n ≤ 1000) ∧ l.length ≤ 20000 ∧ ∀ a ∈ l, (0 ≤ a.From ∧ a.From < n) ∧ (0 ≤ a.To ∧ a.To < n) ∧ -1099511627776 ≤ a.Weight ∧ a.Weight ≤ 1099511627776 := by
  unfold graphC at h
  split at h
  · cases h
  · rename_i hb
    simp at hb
    exact ⟨by omega, by omega, arcsC_ok h⟩
theorem outG_mem {i : Int} : ∀ {l : List Arc} {k : Nat}, ∀ v ∈ outG i l k, (k : Int) ≤ v ∧ v < k + l.length
  | [], k, v, h => by simp [outG] at h
  | a :: r, k, v, h => by
    rw [outG] at h
    simp only [List.length_cons]
    split at h
    · rcases List.mem_cons.1 h with rfl | h
      · omega
      · have := outG_mem v h; omega
    · have := outG_mem v h; omega
theorem outG_len {i : Int} : ∀ {l : List Arc} {k : Nat}, (outG i l k).length ≤ l.length
  | [], k => by simp [outG]
  | a :: r, k => by
    rw [outG]
    split
    · simp only [List.length_cons]; have := outG_len (i := i) (l := r) (k := k + 1); omega
    · simp only [List.length_cons]; have := outG_len (i := i) (l := r) (k := k + 1); omega

/-! ### Sort -/

def inG (n : Nat) (l : List Arc) : List Int := l.foldl (fun d a => addAt d a.To 1) (List.replicate n 0)
def pile0 : List Int → Nat → List Item → List Item
  | [], _, p => p
  | n :: r, i, p => pile0 r (i + 1) (if decide (n = 0) = true then putI p ⟨(i : Int), (i : Int)⟩ else p)
def subAt (l : List Int) (i : Int) : List Int := l.set i.toNat (w64 (l.getD i.toNat 0 - 1))
def sStep (arcs : List Arc) (u : List Int × List Item) (k : Int) : List Int × List Item :=
  (subAt u.1 (arcAt arcs k).To, if decide ((subAt u.1 (arcAt arcs k).To).getD (arcAt arcs k).To.toNat 0 = 0) = true then putI u.2 ⟨(arcAt arcs k).To, (arcAt arcs k).To⟩ else u.2)
def sortL (arcs : List Arc) : Nat → List Item × List Int × List Int → List Item × List Int × List Int
  | 0, s => s
  | f + 1, s => if s.1.length = 0 then s else
    sortL arcs f (((outG (takeI s.1).1.ID arcs 0).foldl (sStep arcs) (s.2.1, (takeI s.1).2)).2, ((outG (takeI s.1).1.ID arcs 0).foldl (sStep arcs) (s.2.1, (takeI s.1).2)).1, s.2.2 ++ [(takeI s.1).1.ID])
def sortS (n : Int) (arcs : List Arc) : List Item × List Int × List Int := sortL arcs n.toNat (pile0 (inG n.toNat arcs) 0 [], inG n.toNat arcs, [])
def sortF (n : Int) (arcs : List Arc) : List Int × Bool :=
  if (!decide (graphC n arcs = 0)) = true then ([], false) else if decide (((sortS n arcs).2.2.length : Int) < n) = true then ([], false) else ((sortS n arcs).2.2, true)

theorem mem_itAt {l : List Item} {k : Nat} (h : k < l.length) : itAt l k ∈ l := by rw [itAt, getD_lt _ h]; exact List.getElem_mem h
theorem mem_swapI {l : List Item} {i j : Nat} (hi : i < l.length) (hj : j < l.length) : ∀ q ∈ swapI l i j, q ∈ l := by
  intro q hq
  unfold swapI at hq
  rcases List.mem_or_eq_of_mem_set hq with hq | rfl
  · rcases List.mem_or_eq_of_mem_set hq with hq | rfl
    · exact hq
    · exact mem_itAt hj
  · exact mem_itAt hi
theorem mem_upI : ∀ {f : Nat} {l : List Item} {j : Nat}, j < l.length → ∀ q ∈ upI f l j, q ∈ l
  | 0, _, _, _, _, h => h
  | f + 1, l, j, hj, q, h => by
    rw [upI] at h
    split at h
    · exact h
    · have hi : (j - 1) / 2 < l.length := by omega
      exact mem_swapI hi hj q (mem_upI (by rw [swapI_len]; exact hi) q h)
theorem downJ_lt {l : List Item} {i n : Nat} (h : ¬ (n : Int) ≤ ((2 * i + 1 : Nat) : Int)) : downJ l i n < n := by
  unfold downJ
  split
  · rename_i hq; simp only [Bool.and_eq_true, decide_eq_true_eq] at hq; omega
  · omega
theorem mem_downI : ∀ {f : Nat} {l : List Item} {i n : Nat}, i < l.length → n ≤ l.length → ∀ q ∈ (downI f l i n).1, q ∈ l
  | 0, _, _, _, _, _, _, h => h
  | f + 1, l, i, n, hi, hn, q, h => by
    rw [downI] at h
    split at h
    · exact h
    · rename_i hc
      split at h
      · exact h
      · have hj := downJ_lt (l := l) hc
        exact mem_swapI hi (by omega) q (mem_downI (by rw [swapI_len]; omega) (by rw [swapI_len]; exact hn) q h)
theorem mem_putI {l : List Item} {x : Item} : ∀ q ∈ putI l x, q ∈ l ∨ q = x := by
  intro q hq
  have := mem_upI (by simp) q hq
  simpa using this
theorem putI_len (l : List Item) (x : Item) : (putI l x).length = l.length + 1 := by rw [putI, upI_len]; simp
theorem mem_popI {l : List Item} (h : 0 < l.length) : ∀ q ∈ popI l, q ∈ l := by
  intro q hq
  have h1 := mem_downI (by rw [swapI_len]; exact h) (by rw [swapI_len]; omega) q hq
  exact mem_swapI h (by omega) q h1
theorem mem_takeI {l : List Item} (h : 0 < l.length) : (takeI l).1 ∈ l ∧ ∀ q ∈ (takeI l).2, q ∈ l := by
  have hp := popI_len l
  exact ⟨mem_popI h _ (mem_itAt (by omega)), fun q hq => mem_popI h q (List.mem_of_mem_take hq)⟩
theorem takeI_len (l : List Item) : (takeI l).2.length = l.length - 1 := by
  have hp := popI_len l
  simp only [takeI, List.length_take]; omega
/-- how many are above nought -/
def cpos : List Int → Nat
  | [] => 0
  | v :: l => (if 0 < v then 1 else 0) + cpos l
theorem cpos_set : ∀ {l : List Int} {k : Nat} {v : Int}, k < l.length → cpos (l.set k v) + (if 0 < l.getD k 0 then 1 else 0) = cpos l + (if 0 < v then 1 else 0)
  | [], k, v, h => by simp at h
  | u :: l, 0, v, _ => by simp [cpos]; omega
  | u :: l, k + 1, v, h => by
    have := cpos_set (l := l) (k := k) (v := v) (by simpa using h)
    simp only [List.set_cons_succ, cpos, List.getD_cons_succ]; omega
theorem cpos_le : ∀ {l : List Int}, cpos l ≤ l.length
  | [] => by simp [cpos]
  | v :: l => by simp only [cpos, List.length_cons]; have := cpos_le (l := l); split <;> omega
/-- the items are nodes -/
def ItIn (n : Int) (p : List Item) : Prop := ∀ q ∈ p, (0 ≤ q.ID ∧ q.ID < n) ∧ I64 q.Key ∧ I64 q.ID
theorem ItIn.put {n j : Int} {p : List Item} (h : ItIn n p) (hj : 0 ≤ j ∧ j < n) (hn : n ≤ 1000) : ItIn n (putI p ⟨j, j⟩) := by
  intro q hq
  rcases mem_putI q hq with hq | rfl
  · exact h q hq
  · exact ⟨hj, w64_id (by simp only; omega), w64_id (by simp only; omega)⟩
structure SI (n : Int) (B : Int) (f : Nat) (inn : List Int) (p : List Item) : Prop where
  len : (inn.length : Int) = n
  lo : ∀ v ∈ inn, -B ≤ v ∧ v ≤ 20000
  mu : p.length + cpos inn ≤ f
  it : ItIn n p
theorem SI.mono {n B B' : Int} {f : Nat} {inn : List Int} {p : List Item} (h : SI n B f inn p) (hb : B ≤ B') : SI n B' f inn p := ⟨h.len, fun v hv => by have := h.lo v hv; omega, h.mu, h.it⟩
theorem pile0_len : ∀ (l : List Int) (i : Nat) (p : List Item), (pile0 l i p).length + cpos l ≤ p.length + l.length
  | [], i, p => by simp [pile0, cpos]
  | v :: l, i, p => by
    rw [pile0]
    have := pile0_len l (i + 1) (if decide (v = 0) = true then putI p ⟨(i : Int), (i : Int)⟩ else p)
    simp only [cpos, List.length_cons]
    by_cases hv : v = 0
    · rw [if_pos (by simpa using hv), putI_len] at this
      rw [if_pos (by simpa using hv), if_neg (by omega)]; omega
    · rw [if_neg (by simpa using hv)] at this
      rw [if_neg (by simpa using hv)]
      split <;> omega
theorem SI.step {n B : Int} {f : Nat} {inn : List Int} {p : List Item} {j : Int} (h : SI n B f inn p) (hn : n ≤ 1000) (hB : 0 ≤ B ∧ B ≤ 1000000000000) (hj : 0 ≤ j ∧ j < n) :
    SI n (B + 1) f (subAt inn j) (if decide ((subAt inn j).getD j.toNat 0 = 0) = true then putI p ⟨j, j⟩ else p) := by
  have hjl : j.toNat < inn.length := by have := h.len; omega
  have hv := h.lo _ (List.getElem_mem hjl)
  have hw : w64 (inn.getD j.toNat 0 - 1) = inn.getD j.toNat 0 - 1 := by rw [getD_lt _ hjl]; exact w64_id (by omega)
  have hg : (subAt inn j).getD j.toNat 0 = inn.getD j.toNat 0 - 1 := by rw [subAt, getD_set hjl, if_pos rfl, hw]
  have hc := cpos_set (l := inn) (k := j.toNat) (v := inn.getD j.toNat 0 - 1) hjl
  have hs : subAt inn j = inn.set j.toNat (inn.getD j.toNat 0 - 1) := by rw [subAt, hw]
  refine ⟨by rw [subAt, List.length_set]; exact h.len, fun v hv' => ?_, ?_, ?_⟩
  · rw [hs] at hv'
    rcases List.mem_or_eq_of_mem_set hv' with hv' | rfl
    · have := h.lo v hv'; omega
    · rw [getD_lt _ hjl]; omega
  · have hm := h.mu
    rw [hg, hs]
    by_cases hz : inn.getD j.toNat 0 - 1 = 0
    · rw [if_pos (by simpa using hz), putI_len]
      rw [hz] at hc
      rw [if_pos (by omega), if_neg (by omega)] at hc
      rw [hz]; omega
    · rw [if_neg (by simpa using hz)]
      by_cases hp : 0 < inn.getD j.toNat 0
      · rw [if_pos hp, if_pos (by omega)] at hc; omega
      · rw [if_neg hp, if_neg (by omega)] at hc; omega
  · split
    · exact h.it.put hj hn
    · exact h.it
theorem sortL_done {arcs : List Arc} {f : Nat} {s : List Item × List Int × List Int} (h : s.1.length = 0) : sortL arcs f s = s := by
  cases f with
  | zero => rfl
  | succ f => rw [sortL, if_pos h]
theorem addAt_lo {n : Int} {l : List Int} {a : Int} {B : Int} (h : ∀ v ∈ l, 0 ≤ v ∧ v ≤ B) (hi : a.toNat < l.length) (hB : 0 ≤ B ∧ B ≤ 100000) (_hn : n ≤ 1000) : ∀ v ∈ addAt l a 1, 0 ≤ v ∧ v ≤ B + 1 := by
  intro v hv
  rcases List.mem_or_eq_of_mem_set hv with hv | rfl
  · have := h v hv; omega
  · rw [getD_lt _ hi]
    have := h _ (List.getElem_mem hi)
    rw [w64_id (by omega)]; omega

/-! ### Late -/

def farBad (v : Int) : Bool := decide (v < -1125899906842624) || decide (1125899906842624 < v)
def idxFar : List Int → Int → Int
  | [], _ => -1
  | v :: r, k => if farBad v = true then k else idxFar r (k + 1)
def lateStep (arcs : List Arc) (i : Int) (out : List Int) (k : Int) : List Int :=
  out.set (arcAt arcs k).To.toNat (max (out.getD (arcAt arcs k).To.toNat 0) (w64 (out.getD i.toNat 0 + (arcAt arcs k).Weight)))
def lateL (arcs : List Arc) (l : List Int) (out : List Int) : List Int := l.foldl (fun o i => (outG i arcs 0).foldl (lateStep arcs i) o) out
def lateF (n : Int) (arcs : List Arc) (fr : List Int) : List Int × Int :=
  if (!decide ((fr.length : Int) = n)) = true then ([], 4)
  else if (!decide (graphC n arcs = 0)) = true then ([], graphC n arcs)
  else if decide (0 ≤ idxFar fr 0) = true then ([], 2)
  else if (!(sortF n arcs).2) = true then ([], 7)
  else (lateL arcs (sortF n arcs).1 fr, 0)
theorem lateStep_len {arcs : List Arc} {i : Int} {out : List Int} {k : Int} : (lateStep arcs i out k).length = out.length := by simp [lateStep]
theorem late1_len {arcs : List Arc} {i : Int} : ∀ {l : List Int} {out : List Int}, (l.foldl (lateStep arcs i) out).length = out.length
  | [], _ => rfl
  | k :: l, out => by rw [List.foldl_cons, late1_len, lateStep_len]
theorem lateL_len {arcs : List Arc} : ∀ {l : List Int} {out : List Int}, (lateL arcs l out).length = out.length
  | [], _ => rfl
  | k :: l, out => by
    have : lateL arcs (k :: l) out = lateL arcs l ((outG k arcs 0).foldl (lateStep arcs k) out) := rfl
    rw [this, lateL_len, late1_len]
theorem lateF_len {n : Int} {arcs : List Arc} {fr : List Int} (h : (lateF n arcs fr).2 = 0) : (lateF n arcs fr).1.length = fr.length ∧ (fr.length : Int) = n := by
  unfold lateF at h ⊢
  split
  · rename_i h1; rw [if_pos h1] at h; cases h
  · rename_i h1
    rw [if_neg h1] at h
    simp at h1
    split
    · rename_i h2; rw [if_pos h2] at h; simp at h2; exact absurd h h2
    · rename_i h2; rw [if_neg h2] at h
      split
      · rename_i h3; rw [if_pos h3] at h; cases h
      · rename_i h3; rw [if_neg h3] at h
        split
        · rename_i h4; rw [if_pos h4] at h; cases h
        · exact ⟨lateL_len, h1⟩
/-- Sort tells each node once at most -/
theorem sStep_mu {n : Int} {arcs : List Arc} (hn : n ≤ 1000) (ha : ∀ a ∈ arcs, 0 ≤ a.To ∧ a.To < n) {f : Nat} : ∀ {l : List Int} {B : Int} {u : List Int × List Item}, (∀ k ∈ l, 0 ≤ k ∧ k < arcs.length) → 0 ≤ B → B + l.length ≤ 1000000000000 → SI n B f u.1 u.2 → SI n (B + l.length) f (l.foldl (sStep arcs) u).1 (l.foldl (sStep arcs) u).2
  | [], B, u, _, _, _, h => by simpa using h
  | k :: l, B, u, hk, h0, hB, h => by
    have h1 := hk k (by simp)
    have hkl : k.toNat < arcs.length := by omega
    have hj := ha _ (List.getElem_mem hkl)
    simp only [List.length_cons] at hB
    rw [List.foldl_cons]
    have e : arcAt arcs k = arcs[k.toNat] := getD_lt _ hkl
    have hs : SI n (B + 1) f (sStep arcs u k).1 (sStep arcs u k).2 := by
      unfold sStep; rw [e]; exact h.step hn (by omega) hj
    have := sStep_mu hn ha (fun q hq => hk q (List.mem_cons_of_mem _ hq)) (by omega) (by omega) hs
    refine this.mono ?_
    simp only [List.length_cons]; omega
theorem sortL_len {n : Int} {arcs : List Arc} (hn : n ≤ 1000) (hal : arcs.length ≤ 20000) (ha : ∀ a ∈ arcs, 0 ≤ a.To ∧ a.To < n) : ∀ {f : Nat} {B : Int} {s : List Item × List Int × List Int}, SI n B f s.2.1 s.1 → 0 ≤ B → B + 20000 * f ≤ 1000000000 → (sortL arcs f s).2.2.length ≤ s.2.2.length + f
  | 0, _, _, _, _, _ => Nat.le_refl _
  | f + 1, B, s, h, h0, hB => by
    rw [sortL]
    split
    · omega
    · rename_i hp
      have hm := mem_takeI (l := s.1) (by omega)
      have hl := takeI_len s.1
      have hmu := h.mu
      have ho := outG_len (i := (takeI s.1).1.ID) (l := arcs) (k := 0)
      have h1 : SI n B f s.2.1 (takeI s.1).2 := ⟨h.len, h.lo, by omega, fun q hq => h.it q (hm.2 q hq)⟩
      have h2 := sStep_mu hn ha (l := outG (takeI s.1).1.ID arcs 0) (B := B) (u := (s.2.1, (takeI s.1).2)) (fun k hk => by have := outG_mem k hk; omega) h0 (by omega) h1
      have := sortL_len hn hal ha (s := (((outG (takeI s.1).1.ID arcs 0).foldl (sStep arcs) (s.2.1, (takeI s.1).2)).2, ((outG (takeI s.1).1.ID arcs 0).foldl (sStep arcs) (s.2.1, (takeI s.1).2)).1, s.2.2 ++ [(takeI s.1).1.ID])) h2 (by omega) (by omega)
      simp only [List.length_append, List.length_singleton] at this
      omega
/-- what Sort tells are nodes -/
theorem sortL_in {n : Int} {arcs : List Arc} (hn : n ≤ 1000) (ha : ∀ a ∈ arcs, 0 ≤ a.To ∧ a.To < n) : ∀ {f : Nat} {s : List Item × List Int × List Int}, ItIn n s.1 → (∀ v ∈ s.2.2, 0 ≤ v ∧ v < n) → ∀ v ∈ (sortL arcs f s).2.2, 0 ≤ v ∧ v < n
  | 0, _, _, h => h
  | f + 1, s, hp, h => by
    rw [sortL]
    split
    · exact h
    · rename_i h0
      have hm := mem_takeI (l := s.1) (by omega)
      refine sortL_in hn ha ?_ ?_
      · have key : ∀ (l : List Int) (u : List Int × List Item), (∀ k ∈ l, 0 ≤ k ∧ k < arcs.length) → ItIn n u.2 → ItIn n (l.foldl (sStep arcs) u).2 := by
          intro l
          induction l with
          | nil => intro u _ hu; exact hu
          | cons k l ih =>
            intro u hk hu
            rw [List.foldl_cons]
            refine ih _ (fun q hq => hk q (List.mem_cons_of_mem _ hq)) ?_
            unfold sStep
            simp only
            split
            · have h1 := hk k (by simp)
              have hkl : k.toNat < arcs.length := by omega
              refine hu.put ?_ hn
              rw [arcAt, getD_lt _ hkl]
              exact ha _ (List.getElem_mem hkl)
            · exact hu
        exact key _ _ (fun k hk => by have := outG_mem k hk; omega) fun q hq => hp q (hm.2 q hq)
      · intro v hv
        rcases List.mem_append.1 hv with hv | hv
        · exact h v hv
        · simp only [List.mem_singleton] at hv; subst hv; exact (hp _ hm.1).1
theorem pile0_in {n : Int} (hn : n ≤ 1000) : ∀ {l : List Int} {i : Nat} {p : List Item}, (i : Int) + l.length ≤ n → ItIn n p → ItIn n (pile0 l i p)
  | [], _, _, _, h => h
  | v :: l, i, p, hi, h => by
    simp only [List.length_cons] at hi
    rw [pile0]
    refine pile0_in hn (by omega) ?_
    split
    · exact h.put (by omega) hn
    · exact h
theorem inG_len {n : Nat} {l : List Arc} : (inG n l).length = n := by
  have : ∀ (l : List Arc) (d : List Int), (l.foldl (fun d a => addAt d a.To 1) d).length = d.length := by
    intro l
    induction l with
    | nil => intro d; rfl
    | cons a l ih => intro d; rw [List.foldl_cons, ih, addAt_len]
  unfold inG; rw [this]; simp
theorem sortF_in {n : Int} {arcs : List Arc} (hg : graphC n arcs = 0) : ∀ v ∈ (sortF n arcs).1, 0 ≤ v ∧ v < n := by
  obtain ⟨h1, h2, h3⟩ := graphC_ok hg
  unfold sortF
  split
  · simp
  · split
    · simp
    · refine sortL_in h1.2 (fun a ha => (h3 a ha).2.1) (pile0_in h1.2 (by rw [inG_len]; omega) (by intro q hq; simp at hq)) (by simp)
theorem inG_lo {n : Int} {arcs : List Arc} (hn : 0 ≤ n ∧ n ≤ 1000) (ha : ∀ a ∈ arcs, 0 ≤ a.To ∧ a.To < n) (hal : arcs.length ≤ 20000) : ∀ v ∈ inG n.toNat arcs, 0 ≤ v ∧ v ≤ 20000 := by
  have key : ∀ (l : List Arc) (d : List Int) (B : Int), (∀ a ∈ l, 0 ≤ a.To ∧ a.To < n) → d.length = n.toNat → 0 ≤ B → B + l.length ≤ 20000 → (∀ v ∈ d, 0 ≤ v ∧ v ≤ B) → ∀ v ∈ l.foldl (fun d a => addAt d a.To 1) d, 0 ≤ v ∧ v ≤ B + l.length := by
    intro l
    induction l with
    | nil => intro d B _ _ _ _ h v hv; simpa using h v hv
    | cons a l ih =>
      intro d B hl hd h0 hB h v hv
      simp only [List.length_cons] at hB
      rw [List.foldl_cons] at hv
      have h1 := hl a (by simp)
      have := ih (addAt d a.To 1) (B + 1) (fun q hq => hl q (List.mem_cons_of_mem _ hq)) (by rw [addAt_len]; exact hd) (by omega) (by omega) (addAt_lo (n := n) h (by omega) (by omega) hn.2) v hv
      simp only [List.length_cons]; omega
  intro v hv
  have := key arcs (List.replicate n.toNat 0) 0 ha (by simp) (by omega) (by omega) (by simp) v hv
  omega
theorem sortF_len {n : Int} {arcs : List Arc} (hg : graphC n arcs = 0) : (sortF n arcs).1.length ≤ 1000 := by
  obtain ⟨h1, h2, h3⟩ := graphC_ok hg
  unfold sortF
  split
  · simp
  · split
    · simp
    · have hp : SI n 0 n.toNat (inG n.toNat arcs) (pile0 (inG n.toNat arcs) 0 []) := by
        have hl := inG_len (n := n.toNat) (l := arcs)
        have h5 := pile0_len (inG n.toNat arcs) 0 []
        have h6 : ([] : List Item).length = 0 := rfl
        exact ⟨by omega, fun v hv => by have := inG_lo h1 (fun a ha => (h3 a ha).2.1) h2 v hv; omega, by omega, pile0_in h1.2 (by omega) (by intro q hq; simp at hq)⟩
      have := sortL_len h1.2 h2 (fun a ha => (h3 a ha).2.1) (f := n.toNat) (B := 0) (s := (pile0 (inG n.toNat arcs) 0 [], inG n.toNat arcs, [])) hp (by omega) (by omega)
      simp only [List.length_nil] at this
      show (sortS n arcs).2.2.length ≤ 1000
      unfold sortS
      omega
end Go.Proofs.Ytdeacehacndopaa

namespace Go.Proofs.Ytdeacehacndopaa

/-- arcs; beginnings; the events at each satellite -/
abbrev Dr := List Arc × List Int × List (List Int)
def frLen (d : Dr) : Int := (d.2.1.length : Int)
def atSet (l : List (List Int)) (s n : Int) : List (List Int) := l.set s.toNat (l.getD s.toNat [] ++ [n])
def evS (x : Instance) (u : Int × Int × Dr) (s : Stop) : Int × Int × Dr :=
  (frLen u.2.2, ns s.Sat, if decide (u.1 < 0) = true then (u.2.2.1, u.2.2.2.1 ++ [tm x 0 (ns s.Sat)], atSet u.2.2.2.2 s.Sat (frLen u.2.2))
    else (u.2.2.1 ++ [⟨u.1, frLen u.2.2, tm x u.2.1 (ns s.Sat)⟩], u.2.2.2.1 ++ [0], atSet u.2.2.2.2 s.Sat (frLen u.2.2)))
def trucksG (x : Instance) : List Truck → Dr → Dr
  | [], d => d
  | t :: ts, d => trucksG x ts (t.Stops.foldl (evS x) (-1, 0, d)).2.2
def cuS (x : Instance) (u : Int × Int × Int × List Arc × List Int) (c : Int) : Int × Int × Int × List Arc × List Int :=
  ((u.2.2.2.2.length : Int), nc x c, (custOf x c).Stay, u.2.2.2.1 ++ [⟨u.1, (u.2.2.2.2.length : Int), w64 (u.2.2.1 + tm x u.2.1 (nc x c))⟩], u.2.2.2.2 ++ [(custOf x c).Open])
def holdA (x : Instance) (sat last : Int) (l : List Int) : List Arc := l.map fun n => ⟨n, last, holdOf x sat⟩
def bikeU (x : Instance) (b : Bike) (d : Dr) : Int × Int × Int × List Arc × List Int :=
  b.Stops.foldl (cuS x) (frLen d, ns b.Sat, 0, d.1 ++ holdA x b.Sat (frLen d) (d.2.2.getD b.Sat.toNat []), d.2.1 ++ [0])
def bikeG (x : Instance) (b : Bike) (d : Dr) : Dr :=
  ((bikeU x b d).2.2.2.1 ++ [⟨(bikeU x b d).1, ((bikeU x b d).2.2.2.2.length : Int), w64 ((bikeU x b d).2.2.1 + tm x (bikeU x b d).2.1 (ns b.Sat))⟩], (bikeU x b d).2.2.2.2 ++ [0], d.2.2)
def bikesG (x : Instance) : List Bike → Dr → Dr
  | [], d => d
  | b :: bs, d => bikesG x bs (bikeG x b d)
def draftG (x : Instance) (y : Plan) : Dr := bikesG x y.Bikes (trucksG x y.Trucks ([], [], List.replicate x.Sats.length []))
def needT (l : List Truck) : Nat := (l.map fun t => t.Stops.length).sum
def needB (l : List Bike) : Nat := (l.map fun b => b.Stops.length + 2).sum
theorem evS_len {x : Instance} : ∀ {l : List Stop} {u : Int × Int × Dr}, (l.foldl (evS x) u).2.2.2.1.length = u.2.2.2.1.length + l.length
  | [], _ => rfl
  | s :: l, u => by
    rw [List.foldl_cons, evS_len]
    have : (evS x u s).2.2.2.1.length = u.2.2.2.1.length + 1 := by unfold evS; simp only; split <;> simp
    rw [this]; simp only [List.length_cons]; omega
theorem trucksG_len {x : Instance} : ∀ {l : List Truck} {d : Dr}, (trucksG x l d).2.1.length = d.2.1.length + needT l
  | [], _ => rfl
  | t :: l, d => by
    rw [trucksG, trucksG_len, evS_len]
    simp only [needT, List.map_cons, List.sum_cons]; omega
theorem cuS_len {x : Instance} : ∀ {l : List Int} {u : Int × Int × Int × List Arc × List Int}, (l.foldl (cuS x) u).2.2.2.2.length = u.2.2.2.2.length + l.length
  | [], _ => rfl
  | s :: l, u => by
    rw [List.foldl_cons, cuS_len]
    simp [cuS]; omega
theorem bikesG_len {x : Instance} : ∀ {l : List Bike} {d : Dr}, (bikesG x l d).2.1.length = d.2.1.length + needB l
  | [], _ => rfl
  | b :: l, d => by
    rw [bikesG, bikesG_len]
    have : (bikeG x b d).2.1.length = d.2.1.length + (b.Stops.length + 2) := by
      unfold bikeG bikeU
      simp only [List.length_append, cuS_len, List.length_singleton]; omega
    rw [this]
    simp only [needB, List.map_cons, List.sum_cons]; omega
theorem draftG_len {x : Instance} {y : Plan} : (draftG x y).2.1.length = needT y.Trucks + needB y.Bikes := by
  unfold draftG; rw [bikesG_len, trucksG_len]; simp

/-! ### Early -/

def cutT : List Truck → List Int → List (List Int)
  | [], _ => []
  | k :: ks, l => l.take k.Stops.length :: cutT ks (l.drop k.Stops.length)
def cutR (n : Nat) (l : List Int) : Ride := ⟨l.getD 0 0, ((l.take (n + 2)).drop 1).take n, l.getD (n + 1) 0⟩
def cutB : List Bike → List Int → List Ride
  | [], _ => []
  | b :: bs, l => cutR b.Stops.length l :: cutB bs (l.drop (b.Stops.length + 2))
def earlyT (y : Plan) (l : List Int) : Times := ⟨cutT y.Trucks l, cutB y.Bikes (l.drop (needT y.Trucks))⟩
def lateD (x : Instance) (y : Plan) : List Int × Int := lateF ((draftG x y).2.1.length : Int) (draftG x y).1 (draftG x y).2.1
def earlyF (x : Instance) (y : Plan) : Times × Int :=
  if (!decide (planCheckF x y = 0)) = true then (⟨[], []⟩, planCheckF x y)
  else if (!decide ((lateD x y).2 = 0)) = true then (⟨[], []⟩, (lateD x y).2)
  else if (!decide (clockCheckF x y (earlyT y (lateD x y).1) = 0)) = true then (⟨[], []⟩, clockCheckF x y (earlyT y (lateD x y).1))
  else (earlyT y (lateD x y).1, 0)
end Go.Proofs.Ytdeacehacndopaa

namespace Go.Proofs.Ytdeacehacndopaa
open Go.RowKit
instance : TMethP Pr ty_p_pile_row "Push" fn_p_pile_row_Push := TMethP.of (by kernel_rfl)
instance : TMethP Pr ty_p_pile_row "Pop" fn_p_pile_row_Pop := TMethP.of (by kernel_rfl)
instance : TMethV Pr ty_p_pile_row "Len" fn_pile_row_Len ty_pile_row := TMethV.of (by kernel_rfl)
instance : TMethV Pr ty_p_pile_row "Less" fn_pile_row_Less ty_pile_row := TMethV.of (by kernel_rfl)
instance : TMethV Pr ty_p_pile_row "Swap" fn_pile_row_Swap ty_pile_row := TMethV.of (by kernel_rfl)
/-- an item's cells, wherever they stand -/
theorem own_items {T : TypeId} {a : Option Addr} {c : Nat} {l : List Item} {sh : Nat → Prop} {w : World} (h : (own T tItem a c l).P sh w) : ∀ q ∈ l, I64 q.Key ∧ I64 q.ID := by
  intro q hq
  obtain ⟨i, hi⟩ := List.mem_iff_getElem?.1 hq
  obtain ⟨xs, _, hr⟩ := h
  exact item_rng (hr i q hi)
theorem GoC.ownItems {P : Program} {C : Cx} {E : Env} {W : List Ent} {R : List RF} {Q : Exit → Act → World → Prop} {code : Code} (a : Option Addr) {T : TypeId} {c : Nat} {l : List Item} [hc : HasOwn a W T tItem c l] (h : (∀ q ∈ l, I64 q.Key ∧ I64 q.ID) → GoC P C E W R code Q) : GoC P C E W R code Q := by
  intro a' w hs
  obtain ⟨sh, hm⟩ := hs.mem
  exact h (own_items (hm.own _ hc.mem)) a' w hs

set_option maxRecDepth 20000 in
theorem rowLen_spec (a : Option Addr) (n c : Nat) (w : World) :
    Calls Pr fn_pile_row_Len #[.slice a n c] w fun e w' => e = .returned (.int .i64 (n : Int)) ∧ Ext w w' := by
  refine Calls.of_go (M := []) (A := fun _ => False) (args := [_]) fn_pile_row_Len_f rfl rfl rfl (Holds.nil (n := 0)) ?_
  refine GoC.seq ?_
  refine GoC.region ?_
  refine GoL.q (op_assign rfl) ?_
  refine GoL.nil .next ?_
  refine GoC.seq ?_
  refine GoC.region ?_
  refine GoL.q (op_move rfl) ?_
  refine GoL.q (op_len rfl) ?_
  refine GoL.q (op_assign rfl) ?_
  refine GoL.nil .next ?_
  refine GoC.ret .here ?_
  refine done1 rfl rfl ?_
  intro w' hw
  exact ⟨rfl, hw.keep⟩
set_option maxRecDepth 20000 in
theorem less_spec (l : List Item) (m : Nat) (hm : m = l.length) (a : Option Addr) (c i j : Nat) (hi : i < l.length) (hj : j < l.length) (sh : Nat → Prop) (w : World) (h : Holds ⟨0, w, [], sh⟩ [] [ro tItem a c l] w) :
    Calls Pr fn_pile_row_Less #[.slice a m c, .int .i64 (i : Int), .int .i64 (j : Int)] w fun e w' => e = .returned (.bool (lessI (itAt l i) (itAt l j))) ∧ Ext w w' := by
  subst hm
  refine Calls.of_go (args := [_, _, _]) fn_pile_row_Less_f rfl rfl rfl h ?_
  refine GoC.openR (n := 2) a i hi (fun _ hq1 => ?_)
  refine GoC.openR (n := 2) a j hj (fun _ hq2 => ?_)
  have e1 : itAt l i = l[i] := getD_lt _ hi
  have e2 : itAt l j = l[j] := getD_lt _ hj
  refine GoC.seq ?_
  refine GoC.region ?_
  refine GoL.q (op_assign rfl) ?_
  refine GoL.nil .next ?_
  refine GoC.seq ?_
  refine GoC.seq ?_
  refine GoC.draw 10 [] [0, 1, 2, 3, 4, 5, 6, 7, 8, 9] (by kernel_rfl) Pr_mixed ?_
  refine Can.q rfl (op_move rfl) ?_
  refine Can.q rfl (op_move rfl) ?_
  refine Can.q rfl (op_indexR rfl rfl rfl (by first | assumption | omega)) ?_
  refine Can.q rfl (op_fieldAddrE rfl) ?_
  refine Can.q rfl (op_loadF rfl rfl) ?_
  refine Can.q rfl (op_move rfl) ?_
  refine Can.q rfl (op_move rfl) ?_
  refine Can.q rfl (op_indexR rfl rfl rfl (by first | assumption | omega)) ?_
  refine Can.q rfl (op_fieldAddrE rfl) ?_
  refine Can.q rfl (op_loadF rfl rfl) ?_
  refine Can.nil rfl ?_
  refine GoL.q (op_neq rfl rfl) ?_
  refine GoL.nil .next ?_
  refine GoC.cond rfl (fun hc0 => ?_) (fun hc0 => ?_)
  · refine GoC.seq ?_
    refine GoC.draw 10 [] [0, 1, 2, 3, 4, 5, 6, 7, 8, 9] (by kernel_rfl) Pr_mixed ?_
    refine Can.q rfl (op_move rfl) ?_
    refine Can.q rfl (op_move rfl) ?_
    refine Can.q rfl (op_indexR rfl rfl rfl (by first | assumption | omega)) ?_
    refine Can.q rfl (op_fieldAddrE rfl) ?_
    refine Can.q rfl (op_loadF rfl rfl) ?_
    refine Can.q rfl (op_move rfl) ?_
    refine Can.q rfl (op_move rfl) ?_
    refine Can.q rfl (op_indexR rfl rfl rfl (by first | assumption | omega)) ?_
    refine Can.q rfl (op_fieldAddrE rfl) ?_
    refine Can.q rfl (op_loadF rfl rfl) ?_
    refine Can.nil rfl ?_
    refine GoL.q (op_lss rfl rfl) ?_
    refine GoL.q (op_assign rfl) ?_
    refine GoL.nil .next ?_
    refine GoC.ret (.thenRet (.here)) ?_
    refine done1 rfl rfl ?_
    intro w' hw
    exact ⟨by rw [e1, e2, lessI, if_pos hc0], hw.keep⟩
  · refine GoC.skipTo .next ?_
    refine GoC.seq ?_
    refine GoC.draw 10 [] [0, 1, 2, 3, 4, 5, 6, 7, 8, 9] (by kernel_rfl) Pr_mixed ?_
    refine Can.q rfl (op_move rfl) ?_
    refine Can.q rfl (op_move rfl) ?_
    refine Can.q rfl (op_indexR rfl rfl rfl (by first | assumption | omega)) ?_
    refine Can.q rfl (op_fieldAddrE rfl) ?_
    refine Can.q rfl (op_loadF rfl rfl) ?_
    refine Can.q rfl (op_move rfl) ?_
    refine Can.q rfl (op_move rfl) ?_
    refine Can.q rfl (op_indexR rfl rfl rfl (by first | assumption | omega)) ?_
    refine Can.q rfl (op_fieldAddrE rfl) ?_
    refine Can.q rfl (op_loadF rfl rfl) ?_
    refine Can.nil rfl ?_
    refine GoL.q (op_lss rfl rfl) ?_
    refine GoL.q (op_assign rfl) ?_
    refine GoL.nil .next ?_
    refine GoC.ret .here ?_
    refine done1 rfl rfl ?_
    intro w' hw
    exact ⟨by rw [e1, e2, lessI, if_neg (Bool.eq_false_iff.1 hc0)], hw.keep⟩
set_option maxRecDepth 20000 in
theorem swap_spec (l : List Item) (m : Nat) (hm : m = l.length) (a : Option Addr) (c i j : Nat) (hi : i < l.length) (hj : j < l.length) (sh : Nat → Prop) (w : World) (h : Holds ⟨0, w, fps [own ty_pile_Item tItem a c l], sh⟩ [own ty_pile_Item tItem a c l] [] w) :
    Calls Pr fn_pile_row_Swap #[.slice a m c, .int .i64 (i : Int), .int .i64 (j : Int)] w fun e w' => ∃ _ : Unit, e = .returned (.tuple #[]) ∧ Holds ⟨0, w, fps [own ty_pile_Item tItem a c l], sh⟩ [own ty_pile_Item tItem a c (swapI l i j)] [] w' := by
  subst hm
  refine Calls.of_go (args := [_, _, _]) fn_pile_row_Swap_f rfl rfl rfl h ?_
  refine GoC.ownItems a (fun hit => ?_)
  have e1 : itAt l i = l[i] := getD_lt _ hi
  have e2 : itAt l j = l[j] := getD_lt _ hj
  have hj2 : j < (l.set i l[j]).length := by simpa using hj
  refine GoC.tree 14 (.op 0 (.op 1 (.op 2 (.op 3 (.op 4 (.op 5 (.op 6 (.op 7 (.op 8 (.op 9 (.op 10 (.op 11 (.op 12 (.s 13 [2, 3] .nil)))))))))))))) (by kernel_rfl) Pr_mixed ?_
  refine CanT.q rfl (op_move rfl) ?_
  refine CanT.q rfl (op_move rfl) ?_
  refine CanT.q rfl (op_move rfl) ?_
  refine CanT.q rfl (op_move rfl) ?_
  refine CanT.q rfl (op_move rfl) ?_
  refine CanT.q rfl (op_move rfl) ?_
  refine CanT.q rfl (op_indexO (k := j) rfl rfl rfl hj (by first | rfl | omega | (simp only [List.length_set] <;> omega))) ?_
  refine CanT.q rfl (op_loadOA (j) hj rfl) ?_
  refine CanT.q rfl (op_move rfl) ?_
  refine CanT.q rfl (op_move rfl) ?_
  refine CanT.q rfl (op_indexO (k := i) rfl rfl rfl hi (by first | rfl | omega | (simp only [List.length_set] <;> omega))) ?_
  refine CanT.q rfl (op_loadOA (i) hi rfl) ?_
  refine CanT.q rfl (op_indexO (k := i) rfl rfl rfl hi (by first | rfl | omega | (simp only [List.length_set] <;> omega))) ?_
  refine CanT.s rfl (op_storeOA i l[j] hi rfl rfl rfl rfl (fun _ _ _ => rep_item (hit _ (List.getElem_mem hj)) _ _)) ?_
  rintro _ _ _ ⟨rfl, rfl, rfl⟩
  refine ⟨⟨Again.q rfl (op_move rfl), Again.q rfl (op_move rfl), trivial⟩, ?_⟩
  refine CanT.nil rfl ?_
  refine GoL.q (op_indexO (k := j) rfl rfl rfl hj2 (by first | rfl | omega | (simp only [List.length_set] <;> omega))) ?_
  refine GoL.y0 (op_storeOA j l[i] hj2 rfl rfl rfl rfl (fun _ _ _ => rep_item (hit _ (List.getElem_mem hi)) _ _)) ?_
  rintro _ _ _ ⟨rfl, rfl, rfl⟩
  refine GoL.nilTo .here ?_
  refine done0 rfl ?_
  intro w' hw
  exact ⟨(), rfl, by rw [swapI, e1, e2]; exact hw.n⟩
set_option maxRecDepth 20000 in
theorem rowPush_spec (l : List Item) (x : Item) (a : Option Addr) (c bp : Nat) (hx : I64 x.Key ∧ I64 x.ID) (hl : l.length ≤ 1000000000) (sh : Nat → Prop) (w : World) (h : Holds ⟨0, w, fps [cel bp ty_pile_Pile [.slice a l.length c], own ty_pile_Item tItem a c l], sh⟩ [cel bp ty_pile_Pile [.slice a l.length c], own ty_pile_Item tItem a c l] [] w) :
    Calls Pr fn_p_pile_row_Push #[.pointer (some ⟨bp, 0, none⟩), .iface ty_pile_Item (.agg #[.int .i64 x.Key, .int .i64 x.ID])] w fun e w' => ∃ g : Hdr, e = .returned (.tuple #[]) ∧ Holds ⟨0, w, fps [cel bp ty_pile_Pile [.slice a l.length c], own ty_pile_Item tItem a c l], sh⟩ [cel bp ty_pile_Pile [.slice g.1 (l ++ [x]).length g.2], own ty_pile_Item tItem g.1 g.2 (l ++ [x])] [] w' := by
  refine Calls.of_go (args := [_, _]) fn_p_pile_row_Push_f rfl rfl rfl h ?_
  refine GoC.tree 8 (.op 0 (.op 1 (.op 2 (.op 3 (.op 4 (.op 5 (.w 6 (.y 7 [0] .nil)))))))) (by kernel_rfl) Pr_mixed ?_
  refine CanT.q rfl (op_move rfl) ?_
  refine CanT.q rfl (op_move rfl) ?_
  refine CanT.q rfl (op_nilCheck rfl) ?_
  refine CanT.q rfl (op_load rfl rfl) ?_
  refine CanT.q rfl (op_move rfl) ?_
  refine CanT.q rfl (op_assert rfl) ?_
  refine CanT.x rfl (op_buildSlice1 rfl rfl rfl) ?_
  rintro _ _ _ ⟨b10, rfl, rfl, rfl⟩
  refine CanT.y rfl (op_append1 (x) rfl rfl (by rfl) (by intro _ _ _; exact rep_item hx _ _) (by omega)) ?_
  rintro _ _ _ ⟨a11, c11, rfl, rfl, rfl⟩
  refine ⟨⟨Again.q rfl (op_move rfl), trivial⟩, ?_⟩
  refine CanT.nil rfl ?_
  refine GoL.q (op_nilCheck rfl) ?_
  refine GoL.y0 (op_store (cs' := [.slice a11 (l ++ [x]).length c11]) rfl rfl rfl rfl (by simp [Value.oneCell']) (Nat.le_of_ble_eq_true rfl) rfl) ?_
  rintro _ _ _ ⟨rfl, rfl, rfl⟩
  refine GoL.nilTo .here ?_
  refine done0 rfl ?_
  intro w' hw
  exact ⟨(a11, c11), rfl, Holds.only (W' := [cel bp ty_pile_Pile [.slice a11 (l ++ [x]).length c11], own ty_pile_Item tItem a11 c11 (l ++ [x])]) hw.n⟩
set_option maxRecDepth 20000 in
theorem rowPop_spec (l : List Item) (a : Option Addr) (c bp : Nat) (h0 : 0 < l.length) (hl : l.length ≤ 1000000000000) (sh : Nat → Prop) (w : World) (h : Holds ⟨0, w, fps [cel bp ty_pile_Pile [.slice a l.length c], own ty_pile_Item tItem a c l], sh⟩ [cel bp ty_pile_Pile [.slice a l.length c], own ty_pile_Item tItem a c l] [] w) :
    Calls Pr fn_p_pile_row_Pop #[.pointer (some ⟨bp, 0, none⟩)] w fun e w' => ∃ _ : Unit, e = .returned (.iface ty_pile_Item (.agg #[.int .i64 (itAt l (l.length - 1)).Key, .int .i64 (itAt l (l.length - 1)).ID])) ∧ Holds ⟨0, w, fps [cel bp ty_pile_Pile [.slice a l.length c], own ty_pile_Item tItem a c l], sh⟩ [cel bp ty_pile_Pile [.slice a (l.take (l.length - 1)).length c], own ty_pile_Item tItem a c (l.take (l.length - 1))] [] w' := by
  refine Calls.of_go (args := [_]) fn_p_pile_row_Pop_f rfl rfl rfl h ?_
  have hk : l.length - 1 < l.length := by omega
  have e1 : itAt l (l.length - 1) = l[l.length - 1] := getD_lt _ hk
  refine GoC.seq ?_
  refine GoC.region ?_
  refine GoL.q (op_assign rfl) ?_
  refine GoL.nil .next ?_
  refine GoC.seq ?_
  refine GoC.region ?_
  refine GoL.q (op_move rfl) ?_
  refine GoL.q (op_nilCheck rfl) ?_
  refine GoL.q (op_load rfl rfl) ?_
  refine GoL.q (op_assign rfl) ?_
  refine GoL.nil .next ?_
  refine GoC.seq ?_
  refine GoC.region ?_
  refine GoL.q (op_move rfl) ?_
  refine GoL.q (op_move rfl) ?_
  refine GoL.q (op_len rfl) ?_
  refine GoL.q (op_subI rfl rfl (by omega)) ?_
  refine GoL.q (op_indexO (k := l.length - 1) rfl rfl (by omega) hk (by first | rfl | omega | (simp only [List.length_set] <;> omega))) ?_
  refine GoL.q (op_loadOA (l.length - 1) hk rfl) ?_
  refine GoL.x (op_alloc) ?_
  rintro _ _ _ ⟨b4, rfl, rfl, rfl⟩
  refine GoL.y0 (op_store (cs' := [.int .i64 l[l.length - 1].Key, .int .i64 l[l.length - 1].ID]) rfl rfl rfl rfl (by simp [Value.oneCell']) (Nat.le_of_ble_eq_true rfl) rfl) ?_
  rintro _ _ _ ⟨rfl, rfl, rfl⟩
  refine GoL.nil .next ?_
  refine GoC.seq ?_
  refine GoC.region ?_
  refine GoL.q (op_move rfl) ?_
  refine GoL.q (op_move rfl) ?_
  refine GoL.q (op_move rfl) ?_
  refine GoL.q (op_len rfl) ?_
  refine GoL.q (op_subI rfl rfl (by omega)) ?_
  refine GoL.x (op_sliceO (kk := .i64) (l.length - 1) rfl rfl (by rw [show ((l.length - 1 : Nat) : Int) = (l.length : Int) - 1 by omega]; rfl) (by omega)) ?_
  rintro _ _ _ ⟨rfl, rfl, rfl⟩
  refine GoL.q (op_nilCheck rfl) ?_
  refine GoL.y0 (op_store (cs' := [.slice a (l.take (l.length - 1)).length c]) rfl rfl rfl rfl (by simp [Value.oneCell']) (Nat.le_of_ble_eq_true rfl) rfl) ?_
  rintro _ _ _ ⟨rfl, rfl, rfl⟩
  refine GoL.nil .next ?_
  refine GoC.seq ?_
  refine GoC.region ?_
  refine GoL.q (op_loadA rfl rfl rfl) ?_
  refine GoL.q (op_mkIface rfl) ?_
  refine GoL.q (op_assign rfl) ?_
  refine GoL.nil .next ?_
  refine GoC.ret .here ?_
  refine done1 rfl rfl ?_
  intro w' hw
  exact ⟨(), by rw [e1]; rfl, Holds.only (W' := [cel bp ty_pile_Pile [.slice a (l.take (l.length - 1)).length c], own ty_pile_Item tItem a c (l.take (l.length - 1))]) hw.n⟩
set_option maxRecDepth 20000 in
theorem up_spec (l : List Item) (a : Option Addr) (c bp j : Nat) (hj : j < l.length) (hl : l.length ≤ 1000000000) (sh : Nat → Prop) (w : World) (h : Holds ⟨0, w, fps [cel bp ty_pile_Pile [.slice a l.length c], own ty_pile_Item tItem a c l], sh⟩ [cel bp ty_pile_Pile [.slice a l.length c], own ty_pile_Item tItem a c l] [] w) :
    Calls Pr fn_container_heap_up #[.iface ty_p_pile_row (.pointer (some ⟨bp, 0, none⟩)), .int .i64 (j : Int)] w fun e w' => ∃ _ : Unit, e = .returned (.tuple #[]) ∧ Holds ⟨0, w, fps [cel bp ty_pile_Pile [.slice a l.length c], own ty_pile_Item tItem a c l], sh⟩ [cel bp ty_pile_Pile [.slice a (upI j l j).length c], own ty_pile_Item tItem a c (upI j l j)] [] w' := by
  refine Calls.of_go (args := [_, _]) fn_container_heap_up_f rfl rfl rfl h ?_
  refine GoC.block ?_
  refine GoC.loop (σ := Nat × List Item) (fun u => [(1, .int .i64 ((u.1 : Nat) : Int))]) [(0, _)] (fun u => [cel bp ty_pile_Pile [.slice a l.length c], own ty_pile_Item tItem a c u.2]) (fun u => _) (fun u => u.2.length = l.length ∧ u.1 ≤ j ∧ ∃ f, u.1 ≤ f ∧ upI f u.2 u.1 = upI j l j) (fun u => u.1) (j, l) ⟨rfl, Nat.le_refl _, j, Nat.le_refl _, rfl⟩ ⟨rfl, rfl, trivial⟩ (fun _ h => h) ?_
  intro u ⟨hu1, hu2, fu, hu3, hu4⟩
  have hu : u.2.length = l.length ∧ u.1 ≤ j := ⟨hu1, hu2⟩
  refine GoC.block ?_
  refine GoC.seq ?_
  have hul := hu.1
  have hk : u.1 < u.2.length := by omega
  have hi : (u.1 - 1) / 2 < u.2.length := by omega
  refine GoC.region ?_
  refine GoL.q (op_move rfl) ?_
  refine GoL.q (op_subI rfl rfl (by omega)) ?_
  refine GoL.q (op_quoT rfl rfl (by decide)) ?_
  rw [quo_half u.1 (by omega)]
  refine GoL.q (op_assign rfl) ?_
  refine GoL.nil .next ?_
  refine GoC.seq ?_
  refine GoC.seq ?_
  refine GoC.region ?_
  refine GoL.q (op_move rfl) ?_
  refine GoL.q (op_move rfl) ?_
  refine GoL.q (op_eql rfl rfl) ?_
  refine GoL.q (op_move rfl) ?_
  apply GoL.or (m := 5) (x := 16) rfl rfl rfl rfl rfl rfl rfl rfl (Wn.none rfl)
  · intro hg0
    refine GoL.q (op_move rfl) ?_ (hg := Wn.some rfl rfl rfl hg0)
    refine GoL.q (op_move rfl) ?_ (hg := Wn.some rfl rfl rfl hg0)
    refine GoL.q (op_move rfl) ?_ (hg := Wn.some rfl rfl rfl hg0)
    refine GoL.p (op_invLV (vs := [.int .i64 ((u.1 : Nat) : Int), .int .i64 ((((u.1 - 1) / 2) : Nat) : Int)]) [ro tItem a c u.2] rfl rfl rfl (fun sh w h => less_spec u.2 _ (by omega) a c u.1 ((u.1 - 1) / 2) hk hi sh w h)) ?_ (hg := Wn.some rfl rfl rfl hg0)
    refine GoL.q (op_not rfl) ?_ (hg := Wn.some rfl rfl rfl hg0)
    exact GoL.part (k := 5) rfl rfl rfl
  refine GoL.nil .next ?_
  refine GoC.cond rfl (fun hc1 => ?_) (fun hc1 => ?_)
  · have hct := hc1
    refine GoC.exitTo (.thenExit (.blockOther rfl (.thenExit (.blockSame (.here))))) ?_
    refine done0 rfl ?_
    intro w' hw
    have he : u.2 = upI j l j := by
      rw [← hu4]
      cases fu with
      | zero => rfl
      | succ f => rw [upI, if_pos hct]
    exact ⟨(), rfl, by rw [← he, show cel bp ty_pile_Pile [.slice a u.2.length c] = cel bp ty_pile_Pile [.slice a l.length c] by rw [hu1]]; exact hw.n⟩
  · have hct := hc1
    have hne : ¬ ((u.1 - 1) / 2 = u.1) := by have h5 := hct; rw [Bool.or_eq_false_iff] at h5; have h6 := of_decide_eq_false h5.1; omega
    have hus : u.1 = (u.1 - 1) + 1 := by omega
    refine GoC.skipTo .next ?_
    refine GoC.seq ?_
    refine GoC.region ?_
    refine GoL.q (op_move rfl) ?_
    refine GoL.q (op_move rfl) ?_
    refine GoL.q (op_move rfl) ?_
    refine GoL.y (op_invMV (vs := [.int .i64 ((((u.1 - 1) / 2) : Nat) : Int), .int .i64 ((u.1 : Nat) : Int)]) (v := fun _ => .tuple #[]) (Wa := [own ty_pile_Item tItem a c u.2]) (W1 := fun _ => [own ty_pile_Item tItem a c (swapI u.2 ((u.1 - 1) / 2) u.1)]) (R1 := fun _ => []) (Ra := []) rfl rfl rfl (fun sh w h => swap_spec u.2 _ (by omega) a c ((u.1 - 1) / 2) u.1 hi hk sh w h)) ?_
    rintro _ _ _ ⟨_, rfl, rfl, rfl⟩
    refine GoL.nil .next ?_
    refine GoC.region ?_
    refine GoL.q (op_move rfl) ?_
    refine GoL.q (op_assign rfl) ?_
    exact GoL.againTo (.blockNormal (.next)) ((u.1 - 1) / 2, swapI u.2 ((u.1 - 1) / 2) u.1) ⟨by show (swapI _ _ _).length = _; rw [swapI_len]; exact hu1, by omega, fu - 1, by omega, by have h5 := hu4; rw [show fu = (fu - 1) + 1 by omega, upI, if_neg (Bool.eq_false_iff.1 hct)] at h5; exact h5⟩ (by simp only; omega) ⟨rfl, rfl, trivial⟩
set_option maxRecDepth 20000 in
theorem down_spec (l : List Item) (m : Nat) (hm : m = l.length) (a : Option Addr) (c bp n : Nat) (hn : n ≤ l.length) (h0 : 0 < l.length) (hl : l.length ≤ 1000000000) (sh : Nat → Prop) (w : World) (h : Holds ⟨0, w, fps [cel bp ty_pile_Pile [.slice a m c], own ty_pile_Item tItem a c l], sh⟩ [cel bp ty_pile_Pile [.slice a m c], own ty_pile_Item tItem a c l] [] w) :
    Calls Pr fn_container_heap_down #[.iface ty_p_pile_row (.pointer (some ⟨bp, 0, none⟩)), .int .i64 0, .int .i64 (n : Int)] w fun e w' => ∃ b : Bool, e = .returned (.bool b) ∧ Holds ⟨0, w, fps [cel bp ty_pile_Pile [.slice a m c], own ty_pile_Item tItem a c l], sh⟩ [cel bp ty_pile_Pile [.slice a m c], own ty_pile_Item tItem a c (downI n l 0 n).1] [] w' := by
  refine Calls.of_go (args := [_, _, _]) fn_container_heap_down_f rfl rfl rfl h ?_
  refine GoC.seq ?_
  refine GoC.region ?_
  refine GoL.q (op_assign rfl) ?_
  refine GoL.nil .next ?_
  refine GoC.seq ?_
  refine GoC.region ?_
  refine GoL.q (op_move rfl) ?_
  refine GoL.q (op_assign rfl) ?_
  refine GoL.nil .next ?_
  refine GoC.seq ?_
  refine GoC.block ?_
  refine GoC.loop (σ := Nat × List Item) (fun u => [(7, .int .i64 ((u.1 : Nat) : Int))]) [(0, _), (1, _), (2, _)] (fun u => [cel bp ty_pile_Pile [.slice a m c], own ty_pile_Item tItem a c u.2]) (fun u => _) (fun u => u.2.length = l.length ∧ u.1 ≤ l.length ∧ ∃ f, n ≤ f + u.1 ∧ downI f u.2 u.1 n = downI n l 0 n) (fun u => l.length - u.1) (0, l) ⟨rfl, Nat.zero_le _, n, by simp, rfl⟩ ⟨rfl, rfl, rfl, rfl, trivial⟩ (fun _ h => h) ?_
  intro u ⟨hu1, hu2, fu, hu3, hu4⟩
  refine GoC.block ?_
  refine GoC.seq ?_
  have hw1 : IntKind.i64.wrap (IntKind.i64.wrap (2 * (u.1 : Int)) + 1) = ((2 * u.1 + 1 : Nat) : Int) := by rw [wrap_i64 (m := 2 * (u.1 : Int)) (by omega), wrap_i64 (by omega)]; omega
  have hw2 : IntKind.i64.wrap (((2 * u.1 + 1 : Nat) : Int) + 1) = ((2 * u.1 + 2 : Nat) : Int) := by rw [wrap_i64 (by omega)]; omega
  refine GoC.region ?_
  refine GoL.q (op_move rfl) ?_
  refine GoL.q (op_mul rfl rfl) ?_
  refine GoL.q (op_add rfl rfl) ?_
  rw [hw1]
  refine GoL.q (op_assign rfl) ?_
  refine GoL.nil .next ?_
  refine GoC.seq ?_
  refine GoC.seq ?_
  refine GoC.region ?_
  refine GoL.q (op_move rfl) ?_
  refine GoL.q (op_move rfl) ?_
  refine GoL.q (op_geq rfl rfl) ?_
  refine GoL.q (op_move rfl) ?_
  apply GoL.or (m := 2) (x := 20) rfl rfl rfl rfl rfl rfl rfl rfl (Wn.none rfl)
  · intro hg0
    refine GoL.q (op_move rfl) ?_ (hg := Wn.some rfl rfl rfl hg0)
    refine GoL.q (op_lss rfl rfl) ?_ (hg := Wn.some rfl rfl rfl hg0)
    exact GoL.part (k := 2) rfl rfl rfl
  refine GoL.nil .next ?_
  refine GoC.cond rfl (fun hc1 => ?_) (fun hc1 => ?_)
  · have hcb := hc1
    have hcn : (n : Int) ≤ ((2 * u.1 + 1 : Nat) : Int) := by simp only [Bool.or_eq_true, decide_eq_true_eq] at hcb; omega
    refine GoC.exit (.thenExit (.blockOther rfl (.thenExit (.blockSame (.next))))) ?_
    refine GoC.seq ?_
    refine GoC.region ?_
    refine GoL.q (op_move rfl) ?_
    refine GoL.q (op_move rfl) ?_
    refine GoL.q (op_gtr rfl rfl) ?_
    refine GoL.q (op_assign rfl) ?_
    refine GoL.nil .next ?_
    refine GoC.ret .here ?_
    refine done1 rfl rfl ?_
    intro w' hw
    have he : u.2 = (downI n l 0 n).1 := by
      rw [← hu4]
      cases fu with
      | zero => rfl
      | succ f => rw [downI, if_pos hcn]
    exact ⟨_, rfl, by rw [← he]; exact hw.n⟩
  · have hcb := hc1
    have hcn : ¬ (n : Int) ≤ ((2 * u.1 + 1 : Nat) : Int) := by simp only [Bool.or_eq_false_iff, decide_eq_false_iff_not] at hcb; exact hcb.1
    have hj1 : 2 * u.1 + 1 < u.2.length := by omega
    have hk : u.1 < u.2.length := by omega
    refine GoC.skipTo .next ?_
    refine GoC.seq ?_
    refine GoC.region ?_
    refine GoL.q (op_move rfl) ?_
    refine GoL.q (op_assign rfl) ?_
    refine GoL.nil .next ?_
    refine GoC.seq ?_
    refine GoC.joinE (γ := Nat) (fun jj => [(9, .int .i64 ((jj : Nat) : Int))]) [(7, _), (0, _), (1, _), (2, _)] (fun jj => jj = (downJ u.2 u.1 n)) ⟨rfl, rfl, rfl, rfl, trivial⟩ ?_ ?_
    · refine GoC.seq ?_
      refine GoC.region ?_
      refine GoL.q (op_move rfl) ?_
      refine GoL.q (op_add rfl rfl) ?_
      rw [hw2]
      refine GoL.q (op_assign rfl) ?_
      refine GoL.nil .next ?_
      refine GoC.seq ?_
      refine GoC.region ?_
      refine GoL.q (op_move rfl) ?_
      refine GoL.q (op_move rfl) ?_
      refine GoL.q (op_lss rfl rfl) ?_
      refine GoL.q (op_move rfl) ?_
      apply GoL.and (m := 4) (x := 32) rfl rfl rfl rfl rfl rfl rfl rfl (Wn.none rfl)
      · intro hg2
        refine GoL.q (op_move rfl) ?_ (hg := Wn.some rfl rfl rfl hg2)
        refine GoL.q (op_move rfl) ?_ (hg := Wn.some rfl rfl rfl hg2)
        refine GoL.q (op_move rfl) ?_ (hg := Wn.some rfl rfl rfl hg2)
        have hj2 : 2 * u.1 + 2 < u.2.length := by have h5 := hg2; simp only [decide_eq_true_eq] at h5; omega
        refine GoL.p (op_invLV (vs := [.int .i64 (((2 * u.1 + 2) : Nat) : Int), .int .i64 (((2 * u.1 + 1) : Nat) : Int)]) [ro tItem a c u.2] rfl rfl rfl (fun sh w h => less_spec u.2 _ (by omega) a c (2 * u.1 + 2) (2 * u.1 + 1) hj2 hj1 sh w h)) ?_ (hg := Wn.some rfl rfl rfl hg2)
        exact GoL.part (k := 4) rfl rfl rfl
      refine GoL.nil .next ?_
      refine GoC.cond rfl (fun hc3 => ?_) (fun hc3 => ?_)
      · have hcj := hc3
        refine GoC.region ?_
        refine GoL.q (op_move rfl) ?_
        refine GoL.q (op_assign rfl) ?_
        refine GoL.meet (2 * u.1 + 2) .next (by unfold downJ; rw [if_pos hcj]) ?_
        exact ⟨rfl, rfl, rfl, rfl, rfl, trivial⟩
      · have hcj := hc3
        refine GoC.meet (2 * u.1 + 1) .next (by unfold downJ; rw [if_neg (Bool.eq_false_iff.1 hcj)]) ?_
        exact ⟨rfl, rfl, rfl, rfl, rfl, trivial⟩
    intro jj hjj
    subst hjj
    have hj : (downJ u.2 u.1 n) < u.2.length := by unfold downJ; split; rename_i hq; simp only [Bool.and_eq_true, decide_eq_true_eq] at hq; omega; omega
    have hju : u.1 < (downJ u.2 u.1 n) := by unfold downJ; split <;> omega
    refine GoC.seq ?_
    refine GoC.seq ?_
    refine GoC.region ?_
    refine GoL.q (op_move rfl) ?_
    refine GoL.q (op_move rfl) ?_
    refine GoL.q (op_move rfl) ?_
    refine GoL.p (op_invLV (vs := [.int .i64 (((downJ u.2 u.1 n) : Nat) : Int), .int .i64 ((u.1 : Nat) : Int)]) [ro tItem a c u.2] rfl rfl rfl (fun sh w h => less_spec u.2 _ (by omega) a c (downJ u.2 u.1 n) u.1 hj hk sh w h)) ?_
    refine GoL.q (op_not rfl) ?_
    refine GoL.nil .next ?_
    refine GoC.cond rfl (fun hc4 => ?_) (fun hc4 => ?_)
    · have hcl := hc4
      refine GoC.exit (.thenExit (.blockOther rfl (.thenExit (.blockSame (.next))))) ?_
      refine GoC.seq ?_
      refine GoC.region ?_
      refine GoL.q (op_move rfl) ?_
      refine GoL.q (op_move rfl) ?_
      refine GoL.q (op_gtr rfl rfl) ?_
      refine GoL.q (op_assign rfl) ?_
      refine GoL.nil .next ?_
      refine GoC.ret .here ?_
      refine done1 rfl rfl ?_
      intro w' hw
      have he : u.2 = (downI n l 0 n).1 := by
        rw [← hu4, show fu = (fu - 1) + 1 by omega, downI, if_neg hcn, if_pos hcl]
      exact ⟨_, rfl, by rw [← he]; exact hw.n⟩
    · have hcl := hc4
      refine GoC.skipTo .next ?_
      refine GoC.seq ?_
      refine GoC.region ?_
      refine GoL.q (op_move rfl) ?_
      refine GoL.q (op_move rfl) ?_
      refine GoL.q (op_move rfl) ?_
      refine GoL.y (op_invMV (vs := [.int .i64 ((u.1 : Nat) : Int), .int .i64 (((downJ u.2 u.1 n) : Nat) : Int)]) (v := fun _ => .tuple #[]) (Wa := [own ty_pile_Item tItem a c u.2]) (W1 := fun _ => [own ty_pile_Item tItem a c (swapI u.2 u.1 (downJ u.2 u.1 n))]) (R1 := fun _ => []) (Ra := []) rfl rfl rfl (fun sh w h => swap_spec u.2 _ (by omega) a c u.1 (downJ u.2 u.1 n) hk hj sh w h)) ?_
      rintro _ _ _ ⟨_, rfl, rfl, rfl⟩
      refine GoL.nil .next ?_
      refine GoC.region ?_
      refine GoL.q (op_move rfl) ?_
      refine GoL.q (op_assign rfl) ?_
      exact GoL.againTo (.blockNormal (.next)) ((downJ u.2 u.1 n), swapI u.2 u.1 (downJ u.2 u.1 n)) ⟨by show (swapI _ _ _).length = _; rw [swapI_len]; exact hu1, by omega, fu - 1, by omega, by have h5 := hu4; rw [show fu = (fu - 1) + 1 by omega, downI, if_neg hcn, if_neg (Bool.eq_false_iff.1 hcl)] at h5; exact h5⟩ (by simp only; omega) ⟨rfl, rfl, rfl, rfl, trivial⟩
set_option maxRecDepth 20000 in
theorem heapPush_spec (l : List Item) (x : Item) (a : Option Addr) (c bp : Nat) (hx : I64 x.Key ∧ I64 x.ID) (hl : l.length ≤ 100000000) (sh : Nat → Prop) (w : World) (h : Holds ⟨0, w, fps [cel bp ty_pile_Pile [.slice a l.length c], own ty_pile_Item tItem a c l], sh⟩ [cel bp ty_pile_Pile [.slice a l.length c], own ty_pile_Item tItem a c l] [] w) :
    Calls Pr fn_container_heap_Push #[.iface ty_p_pile_row (.pointer (some ⟨bp, 0, none⟩)), .iface ty_pile_Item (.agg #[.int .i64 x.Key, .int .i64 x.ID])] w fun e w' => ∃ g : Hdr, e = .returned (.tuple #[]) ∧ Holds ⟨0, w, fps [cel bp ty_pile_Pile [.slice a l.length c], own ty_pile_Item tItem a c l], sh⟩ [cel bp ty_pile_Pile [.slice g.1 (putI l x).length g.2], own ty_pile_Item tItem g.1 g.2 (putI l x)] [] w' := by
  refine Calls.of_go (args := [_, _]) fn_container_heap_Push_f rfl rfl rfl h ?_
  refine GoC.seq ?_
  refine GoC.region ?_
  refine GoL.q (op_move rfl) ?_
  refine GoL.q (op_move rfl) ?_
  refine GoL.y (op_invMP (γ := Hdr) (vs := [.iface ty_pile_Item (.agg #[.int .i64 x.Key, .int .i64 x.ID])]) (v := fun _ => .tuple #[]) (Wa := [cel bp ty_pile_Pile [.slice a l.length c], own ty_pile_Item tItem a c l]) (W1 := fun g => [cel bp ty_pile_Pile [.slice g.1 (l ++ [x]).length g.2], own ty_pile_Item tItem g.1 g.2 (l ++ [x])]) (R1 := fun _ => []) (Ra := []) rfl rfl (fun sh w h => rowPush_spec l x a c bp hx (by omega) sh w h)) ?_
  rintro _ _ _ ⟨g, rfl, rfl, rfl⟩
  refine GoL.nil .next ?_
  refine GoC.region ?_
  refine GoL.q (op_move rfl) ?_
  refine GoL.q (op_move rfl) ?_
  refine GoL.p (op_invLV (vs := []) [] rfl rfl rfl (fun sh w h => rowLen_spec _ _ _ w)) ?_
  refine GoL.q (op_sub rfl rfl) ?_
  rw [show IntKind.i64.wrap (((l ++ [x]).length : Nat) - 1 : Int) = ((l.length : Nat) : Int) by simp only [List.length_append, List.length_singleton]; rw [wrap_i64 (by omega)]; omega]
  refine GoL.y (op_callM (γ := Unit) (vs := [.iface ty_p_pile_row (.pointer (some ⟨bp, 0, none⟩)), .int .i64 ((l.length : Nat) : Int)]) (v := fun _ => .tuple #[]) (Wa := [cel bp ty_pile_Pile [.slice g.1 (l ++ [x]).length g.2], own ty_pile_Item tItem g.1 g.2 (l ++ [x])]) (W1 := fun _ => [cel bp ty_pile_Pile [.slice g.1 (upI l.length (l ++ [x]) l.length).length g.2], own ty_pile_Item tItem g.1 g.2 (upI l.length (l ++ [x]) l.length)]) (R1 := fun _ => []) (Ra := []) rfl (fun sh w h => up_spec (l ++ [x]) g.1 g.2 bp l.length (by simp) (by simp; omega) sh w h)) ?_
  rintro _ _ _ ⟨_, rfl, rfl, rfl⟩
  refine GoL.nilTo .here ?_
  refine done0 rfl ?_
  intro w' hw
  exact ⟨g, rfl, hw.n⟩
set_option maxRecDepth 20000 in
theorem heapPop_spec (l : List Item) (a : Option Addr) (c bp : Nat) (h0 : 0 < l.length) (hl : l.length ≤ 100000000) (sh : Nat → Prop) (w : World) (h : Holds ⟨0, w, fps [cel bp ty_pile_Pile [.slice a l.length c], own ty_pile_Item tItem a c l], sh⟩ [cel bp ty_pile_Pile [.slice a l.length c], own ty_pile_Item tItem a c l] [] w) :
    Calls Pr fn_container_heap_Pop #[.iface ty_p_pile_row (.pointer (some ⟨bp, 0, none⟩))] w fun e w' => ∃ _ : Unit, e = .returned (.iface ty_pile_Item (.agg #[.int .i64 (takeI l).1.Key, .int .i64 (takeI l).1.ID])) ∧ Holds ⟨0, w, fps [cel bp ty_pile_Pile [.slice a l.length c], own ty_pile_Item tItem a c l], sh⟩ [cel bp ty_pile_Pile [.slice a (takeI l).2.length c], own ty_pile_Item tItem a c (takeI l).2] [] w' := by
  refine Calls.of_go (args := [_]) fn_container_heap_Pop_f rfl rfl rfl h ?_
  have hw1 : IntKind.i64.wrap (((l.length : Nat) : Int) - 1) = ((l.length - 1 : Nat) : Int) := by rw [wrap_i64 (by omega)]; omega
  have hp := popI_len l
  have hs : (swapI l 0 (l.length - 1)).length = l.length := swapI_len _ _ _
  refine GoC.seq ?_
  refine GoC.region ?_
  refine GoL.q (op_assign rfl) ?_
  refine GoL.nil .next ?_
  refine GoC.seq ?_
  refine GoC.region ?_
  refine GoL.q (op_move rfl) ?_
  refine GoL.p (op_invLV (vs := []) [] rfl rfl rfl (fun sh w h => rowLen_spec _ _ _ w)) ?_
  refine GoL.q (op_sub rfl rfl) ?_
  rw [hw1]
  refine GoL.q (op_assign rfl) ?_
  refine GoL.nil .next ?_
  refine GoC.seq ?_
  refine GoC.region ?_
  refine GoL.q (op_move rfl) ?_
  refine GoL.q (op_move rfl) ?_
  refine GoL.y (op_invMV (vs := [.int .i64 0, .int .i64 (((l.length - 1) : Nat) : Int)]) (v := fun _ => .tuple #[]) (Wa := [own ty_pile_Item tItem a c l]) (W1 := fun _ => [own ty_pile_Item tItem a c (swapI l 0 (l.length - 1))]) (R1 := fun _ => []) (Ra := []) rfl rfl rfl (fun sh w h => swap_spec l _ rfl a c 0 (l.length - 1) h0 (by omega) sh w h)) ?_
  rintro _ _ _ ⟨_, rfl, rfl, rfl⟩
  refine GoL.nil .next ?_
  refine GoC.seq ?_
  refine GoC.region ?_
  refine GoL.q (op_move rfl) ?_
  refine GoL.q (op_move rfl) ?_
  refine GoL.y (op_callM (γ := Bool) (vs := [.iface ty_p_pile_row (.pointer (some ⟨bp, 0, none⟩)), .int .i64 0, .int .i64 (((l.length - 1) : Nat) : Int)]) (v := fun b => .bool b) (Wa := [cel bp ty_pile_Pile [.slice a l.length c], own ty_pile_Item tItem a c (swapI l 0 (l.length - 1))]) (W1 := fun _ => [cel bp ty_pile_Pile [.slice a l.length c], own ty_pile_Item tItem a c (popI l)]) (R1 := fun _ => []) (Ra := []) rfl (fun sh w h => down_spec (swapI l 0 (l.length - 1)) l.length hs.symm a c bp (l.length - 1) (by omega) (by omega) (by omega) sh w h)) ?_
  rintro _ _ _ ⟨_, rfl, rfl, rfl⟩
  refine GoL.nil .next ?_
  refine GoC.seq ?_
  refine GoC.recel bp [.slice a (popI l).length c] (by rw [hp]) ?_
  refine GoC.region ?_
  refine GoL.q (op_move rfl) ?_
  refine GoL.y (op_invMP (γ := Unit) (vs := []) (v := fun _ => .iface ty_pile_Item (.agg #[.int .i64 (takeI l).1.Key, .int .i64 (takeI l).1.ID])) (Wa := [cel bp ty_pile_Pile [.slice a (popI l).length c], own ty_pile_Item tItem a c (popI l)]) (W1 := fun _ => [cel bp ty_pile_Pile [.slice a (takeI l).2.length c], own ty_pile_Item tItem a c (takeI l).2]) (R1 := fun _ => []) (Ra := []) rfl rfl (fun sh w h => by have h5 := rowPop_spec (popI l) a c bp (by omega) (by omega) sh w h; rw [hp] at h5; rw [takeI, ← hp]; rw [hp]; exact h5)) ?_
  rintro _ _ _ ⟨_, rfl, rfl, rfl⟩
  refine GoL.q (op_assign rfl) ?_
  refine GoL.nil .next ?_
  refine GoC.ret .here ?_
  refine done1 rfl rfl ?_
  intro w' hw
  exact ⟨(), rfl, hw.n⟩
set_option maxRecDepth 20000 in
theorem put4_spec (l : List Item) (x : Item) (a : Option Addr) (c bp : Nat) (hx : I64 x.Key ∧ I64 x.ID) (hl : l.length ≤ 100000000) (sh : Nat → Prop) (w : World) (h : Holds ⟨0, w, fps [cel bp ty_pile_Pile [.slice a l.length c], own ty_pile_Item tItem a c l], sh⟩ [cel bp ty_pile_Pile [.slice a l.length c], own ty_pile_Item tItem a c l] [] w) :
    Calls Pr fn_p_pile_Pile_Put #[.pointer (some ⟨bp, 0, none⟩), .agg #[.int .i64 x.Key, .int .i64 x.ID]] w fun e w' => ∃ g : Hdr, e = .returned (.tuple #[]) ∧ Holds ⟨0, w, fps [cel bp ty_pile_Pile [.slice a l.length c], own ty_pile_Item tItem a c l], sh⟩ [cel bp ty_pile_Pile [.slice g.1 (putI l x).length g.2], own ty_pile_Item tItem g.1 g.2 (putI l x)] [] w' := by
  refine Calls.of_go (args := [_, _]) fn_p_pile_Pile_Put_f rfl rfl rfl h ?_
  refine GoC.seq ?_
  refine GoC.region ?_
  refine GoL.x (op_box rfl rfl) ?_
  rintro _ _ _ ⟨b3, rfl, rfl, rfl⟩
  refine GoL.nil .next ?_
  refine GoC.seq ?_
  refine GoC.region ?_
  refine GoL.q (op_move rfl) ?_
  refine GoL.q (op_neq_pointer rfl rfl) ?_
  refine GoL.nil .next ?_
  refine GoC.cond rfl (fun hc0 => ?_) (fun hc0 => ?_)
  · skip
    refine GoC.tree 6 (.op 0 (.op 1 (.op 2 (.op 3 (.op 4 (.op 5 .nil)))))) (by kernel_rfl) Pr_mixed ?_
    refine CanT.q rfl (op_move rfl) ?_
    refine CanT.q rfl (op_nilCheck rfl) ?_
    refine CanT.q rfl (op_fieldAddr rfl) ?_
    refine CanT.q rfl (op_mkIface rfl) ?_
    refine CanT.q rfl (op_loadA rfl rfl rfl) ?_
    refine CanT.q rfl (op_mkIface rfl) ?_
    refine CanT.nil rfl ?_
    refine GoL.y (op_callM (γ := Hdr) (vs := [.iface ty_p_pile_row (.pointer (some ⟨bp, 0, none⟩)), .iface ty_pile_Item (.agg #[.int .i64 x.Key, .int .i64 x.ID])]) (v := fun _ => .tuple #[]) (Wa := [cel bp ty_pile_Pile [.slice a l.length c], own ty_pile_Item tItem a c l]) (W1 := fun g => [cel bp ty_pile_Pile [.slice g.1 (putI l x).length g.2], own ty_pile_Item tItem g.1 g.2 (putI l x)]) (R1 := fun _ => []) (Ra := []) rfl (fun sh w h => heapPush_spec l x a c bp hx hl sh w h)) ?_
    rintro _ _ _ ⟨g, rfl, rfl, rfl⟩
    refine GoL.nilTo .here ?_
    refine done0 rfl ?_
    intro w' hw
    exact ⟨g, rfl, Holds.only (W' := [cel bp ty_pile_Pile [.slice g.1 (putI l x).length g.2], own ty_pile_Item tItem g.1 g.2 (putI l x)]) hw.n⟩
  · exact absurd hc0 (by simp)
set_option maxRecDepth 20000 in
theorem take4_spec (l : List Item) (a : Option Addr) (c bp : Nat) (hl : l.length ≤ 100000000) (sh : Nat → Prop) (w : World) (h : Holds ⟨0, w, fps [cel bp ty_pile_Pile [.slice a l.length c], own ty_pile_Item tItem a c l], sh⟩ [cel bp ty_pile_Pile [.slice a l.length c], own ty_pile_Item tItem a c l] [] w) :
    Calls Pr fn_p_pile_Pile_Take #[.pointer (some ⟨bp, 0, none⟩)] w fun e w' => ∃ _ : Unit, e = .returned (.tuple #[.agg #[.int .i64 (if l.length = 0 then ⟨0, 0⟩ else (takeI l).1 : Item).Key, .int .i64 (if l.length = 0 then ⟨0, 0⟩ else (takeI l).1 : Item).ID], .bool (!decide ((l.length : Int) = 0))]) ∧ Holds ⟨0, w, fps [cel bp ty_pile_Pile [.slice a l.length c], own ty_pile_Item tItem a c l], sh⟩ [cel bp ty_pile_Pile [.slice a (if l.length = 0 then l else (takeI l).2).length c], own ty_pile_Item tItem a c (if l.length = 0 then l else (takeI l).2)] [] w' := by
  refine Calls.of_go (args := [_]) fn_p_pile_Pile_Take_f rfl rfl rfl h ?_
  refine GoC.seq ?_
  refine GoC.region ?_
  refine GoL.x (op_alloc) ?_
  rintro _ _ _ ⟨b2, rfl, rfl, rfl⟩
  refine GoL.q (op_assign rfl) ?_
  refine GoL.nil .next ?_
  refine GoC.seq ?_
  refine GoC.seq ?_
  refine GoC.region ?_
  refine GoL.q (op_move rfl) ?_
  refine GoL.q (op_eql_pointer rfl rfl) ?_
  refine GoL.q (op_move rfl) ?_
  apply GoL.or (m := 6) (x := 12) rfl rfl rfl rfl rfl rfl rfl rfl (Wn.none rfl)
  · intro hg0
    refine GoL.q (op_move rfl) ?_ (hg := Wn.some rfl rfl rfl hg0)
    refine GoL.q (op_nilCheck rfl) ?_ (hg := Wn.some rfl rfl rfl hg0)
    refine GoL.q (op_fieldAddr rfl) ?_ (hg := Wn.some rfl rfl rfl hg0)
    refine GoL.q (op_load rfl rfl) ?_ (hg := Wn.some rfl rfl rfl hg0)
    refine GoL.q (op_len rfl) ?_ (hg := Wn.some rfl rfl rfl hg0)
    refine GoL.q (op_eql rfl rfl) ?_ (hg := Wn.some rfl rfl rfl hg0)
    exact GoL.part (k := 6) rfl rfl rfl
  refine GoL.nil .next ?_
  refine GoC.cond rfl (fun hc1 => ?_) (fun hc1 => ?_)
  · have hz : l.length = 0 := by have h5 := hc1; simp at h5; simp [h5]
    refine GoC.seq ?_
    refine GoC.region ?_
    refine GoL.q (op_build1 ([.int .i64 0, .int .i64 0]) rfl rfl) ?_
    refine GoL.y0 (op_store (cs' := [.int .i64 0, .int .i64 0]) rfl rfl rfl rfl (by simp [Value.oneCell']) (Nat.le_of_ble_eq_true rfl) rfl) ?_
    rintro _ _ _ ⟨rfl, rfl, rfl⟩
    refine GoL.q (op_assign rfl) ?_
    refine GoL.nil .next ?_
    refine GoC.ret (.thenRet (.here)) ?_
    refine doneC2 rfl rfl rfl rfl ?_
    intro w' hw
    exact ⟨(), by rw [if_pos hz, hz]; rfl, by rw [if_pos hz]; exact Holds.only (W' := [cel bp ty_pile_Pile [.slice a l.length c], own ty_pile_Item tItem a c l]) hw.n⟩
  · have hz : ¬ l.length = 0 := by have h5 := hc1; simp at h5; simp [h5]
    refine GoC.skipTo .next ?_
    refine GoC.seq ?_
    refine GoC.region ?_
    refine GoL.q (op_move rfl) ?_
    refine GoL.q (op_nilCheck rfl) ?_
    refine GoL.q (op_fieldAddr rfl) ?_
    refine GoL.q (op_mkIface rfl) ?_
    refine GoL.y (op_callM (γ := Unit) (vs := [.iface ty_p_pile_row (.pointer (some ⟨bp, 0, none⟩))]) (v := fun _ => .iface ty_pile_Item (.agg #[.int .i64 (takeI l).1.Key, .int .i64 (takeI l).1.ID])) (Wa := [cel bp ty_pile_Pile [.slice a l.length c], own ty_pile_Item tItem a c l]) (W1 := fun _ => [cel bp ty_pile_Pile [.slice a (takeI l).2.length c], own ty_pile_Item tItem a c (takeI l).2]) (R1 := fun _ => []) (Ra := []) rfl (fun sh w h => heapPop_spec l a c bp (by omega) hl sh w h)) ?_
    rintro _ _ _ ⟨_, rfl, rfl, rfl⟩
    refine GoL.q (op_assert rfl) ?_
    refine GoL.y0 (op_store (cs' := [.int .i64 (takeI l).1.Key, .int .i64 (takeI l).1.ID]) rfl rfl rfl rfl (by simp [Value.oneCell']) (Nat.le_of_ble_eq_true rfl) rfl) ?_
    rintro _ _ _ ⟨rfl, rfl, rfl⟩
    refine GoL.q (op_assign rfl) ?_
    refine GoL.nil .next ?_
    refine GoC.ret .here ?_
    refine doneC2 rfl rfl rfl rfl ?_
    intro w' hw
    exact ⟨(), by rw [if_neg hz]; simp [hz], by rw [if_neg hz]; exact Holds.only (W' := [cel bp ty_pile_Pile [.slice a (takeI l).2.length c], own ty_pile_Item tItem a c (takeI l).2]) hw.n⟩
set_option maxRecDepth 20000 in
theorem new4_spec (sh : Nat → Prop) (w : World) :
    Calls Pr fn_pile_New #[] w fun e w' => ∃ bp : Nat, e = .returned (.pointer (some ⟨bp, 0, none⟩)) ∧ Holds ⟨0, w, [], sh⟩ [cel bp ty_pile_Pile [.slice none 0 0]] [] w' := by
  refine Calls.of_go (M := []) (A := sh) (args := []) fn_pile_New_f rfl rfl rfl (Holds.nil (n := 0)) ?_
  refine GoC.seq ?_
  refine GoC.region ?_
  refine GoL.q (op_assign rfl) ?_
  refine GoL.nil .next ?_
  refine GoC.seq ?_
  refine GoC.region ?_
  refine GoL.q (op_build1 ([.slice none 0 0]) rfl rfl) ?_
  refine GoL.x (op_box rfl rfl) ?_
  rintro _ _ _ ⟨b2, rfl, rfl, rfl⟩
  refine GoL.q (op_assign rfl) ?_
  refine GoL.nil .next ?_
  refine GoC.ret .here ?_
  refine done1 rfl rfl ?_
  intro w' hw
  exact ⟨b2, rfl, hw.n⟩
end Go.Proofs.Ytdeacehacndopaa
