/- What plan.Check computes, in plain words. What clock.Check computes, in plain words. What the statement's own judges compute, in plain words: Fits, sane, Can. What the statement's own judge of plans computes (Code), in plain words. What Make computes, in plain words. slices.Insert over rows of one's own. Small functions of the program, without rounds: their contracts. inst.Check: may an instance be? plan.Loads: what the bikes of each satellite carry. No conditions beyond those that each theorem names. -/
import Derived.Test.YtdeacehacndopaaL4
import Derived.Shelf.Spec.SlicesInsertGrow
import Derived.Test.YtdeacehacndopaaL3
namespace Go.Proofs.Ytdeacehacndopaa

theorem getD_lt {α : Type} {l : List α} {i : Nat} (d : α) (h : i < l.length) : l.getD i d = l[i] := by simp [List.getD, h]

def hasF (s n : Int) : Bool := (decide (0 ≤ n) && decide (n < 64)) && decide (iand .u64 (ishr .u64 s n) 1 = 1)
def stopBad (x : Instance) (seen : Int) (s : Stop) : Bool :=
  (((decide (s.Sat < 0) || decide ((x.Sats.length : Int) ≤ s.Sat)) || hasF seen s.Sat) || decide (s.Load < 1)) || decide (1000000000 < s.Load)
def stopsF (x : Instance) : List Stop → Int → Int → Option Int
  | [], _, left => some left
  | s :: r, seen, left => if stopBad x seen s = true then none else stopsF x r (withF seen s.Sat) (w64 (left - s.Load))
def trucksF (x : Instance) : List Truck → Bool → Bool → Bool × Bool
  | [], r, l => (r, l)
  | t :: ts, r, l => match stopsF x t.Stops 0 x.Trucks.Room with
    | none => (false, l)
    | some left => trucksF x ts (r && decide (0 < (t.Stops.length : Int))) (l && decide (0 ≤ left))
def custBad (x : Instance) (seen c : Int) : Bool := (decide (c < 0) || decide ((x.Customers.length : Int) ≤ c)) || hasF seen c
def loadOf (x : Instance) (c : Int) : Int := (x.Customers.getD c.toNat ⟨0, 0, 0, 0⟩).Load
def bstopsF (x : Instance) : List Int → Int → Int → Option (Int × Int)
  | [], seen, left => some (seen, left)
  | c :: r, seen, left => if custBad x seen c = true then none else bstopsF x r (withF seen c) (w64 (left - loadOf x c))
def bikeBad (x : Instance) (b : Bike) : Bool := (decide (b.Sat < 0) || decide ((x.Sats.length : Int) ≤ b.Sat)) || decide ((b.Stops.length : Int) = 0)
def bikesF (x : Instance) : List Bike → Int → Bool → Bool × Bool × Bool
  | [], seen, load => (true, decide (onesF seen = x.Customers.length), load)
  | b :: r, seen, load => if bikeBad x b = true then (false, false, load) else
    match bstopsF x b.Stops seen x.Bikes.Room with
    | none => (false, false, load)
    | some u => bikesF x r u.1 (load && decide (0 ≤ u.2))
def dropsC (out : List Int) (s : Stop) : List Int := out.set s.Sat.toNat (w64 (out.getD s.Sat.toNat 0 + s.Load))
def dropsF (x : Instance) (l : List Truck) : List Int := l.foldl (fun out t => t.Stops.foldl dropsC out) (List.replicate x.Sats.length 0)
theorem dropsC_len (out : List Int) (s : Stop) : (dropsC out s).length = out.length := by simp [dropsC]
def roomsF : List Int → List Sat → Bool
  | n :: r, s :: t => decide (s.Room < n) || roomsF r t
  | _, _ => false
def planCheckF (x : Instance) (p : Plan) : Int :=
  if (!decide (instCheckF x = 0)) = true then instCheckF x
  else if (decide (x.Trucks.Many < (p.Trucks.length : Int)) || decide (x.Bikes.Many < (p.Bikes.length : Int))) = true then 11
  else if (!(trucksF x p.Trucks true true).1 || !(bikesF x p.Bikes 0 true).1) = true then 15
  else if (!(bikesF x p.Bikes 0 true).2.1) = true then 8
  else if (!(trucksF x p.Trucks true true).2 || !(bikesF x p.Bikes 0 true).2.2) = true then 10
  else if roomsF (loadsF x p.Bikes) x.Sats = true then 10
  else if (!decide (loadsF x p.Bikes = dropsF x p.Trucks)) = true then 13 else 0

/-- all stops of trucks are at satellites that there are -/
def Sited (x : Instance) (l : List Truck) : Prop := ∀ t ∈ l, ∀ s ∈ t.Stops, 0 ≤ s.Sat ∧ s.Sat < x.Sats.length
theorem stopsF_sited {x : Instance} : ∀ {l : List Stop} {seen left v : Int}, stopsF x l seen left = some v → ∀ s ∈ l, 0 ≤ s.Sat ∧ s.Sat < x.Sats.length
  | [], _, _, _, _, s, hs => by simp at hs
  | a :: r, seen, left, v, h, s, hs => by
    simp only [stopsF] at h
    split at h
    · cases h
    · rename_i hb
      rcases List.mem_cons.1 hs with rfl | hs
      · simp [stopBad] at hb; omega
      · exact stopsF_sited h s hs
theorem trucksF_sited {x : Instance} : ∀ {l : List Truck} {r o : Bool}, (trucksF x l r o).1 = true → Sited x l
  | [], _, _, _ => by simp [Sited]
  | t :: ts, r, o, h => by
    simp only [trucksF] at h
    split at h
    · cases h
    · rename_i left hl
      intro t' ht
      rcases List.mem_cons.1 ht with rfl | ht
      · exact stopsF_sited hl
      · exact trucksF_sited h t' ht
theorem len_foldl {α β : Type} (f : List α → β → List α) (hf : ∀ o b, (f o b).length = o.length) : ∀ (l : List β) (o : List α), (l.foldl f o).length = o.length
  | [], _ => rfl
  | b :: r, o => by rw [List.foldl_cons, len_foldl f hf r, hf]
theorem loadsF_len (x : Instance) (l : List Bike) : (loadsF x l).length = x.Sats.length := by
  unfold loadsF
  rw [len_foldl _ (fun o b => len_foldl _ (loadsC_len x b) _ _)]
  simp
theorem dropsF_len (x : Instance) (l : List Truck) : (dropsF x l).length = x.Sats.length := by
  unfold dropsF
  rw [len_foldl _ (fun o b => len_foldl _ dropsC_len _ _)]
  simp
end Go.Proofs.Ytdeacehacndopaa

namespace Go.Proofs.Ytdeacehacndopaa

theorem i64_max {a b : Int} (ha : I64 a) (hb : I64 b) : I64 (max a b) := by
  rcases Int.le_total a b with h | h
  · rw [Int.max_eq_right h]; exact hb
  · rw [Int.max_eq_left h]; exact ha
theorem i64_rng {a : Int} (h : I64 a) : -9223372036854775808 ≤ a ∧ a ≤ 9223372036854775807 := by
  unfold I64 at h
  rw [IntKind.wrap_i64] at h
  omega

/-- the times are a square as wide as there are nodes; there are few -/
structure Sq (x : Instance) : Prop where
  s : x.Sats.length ≤ 12
  u : x.Customers.length ≤ 48
  n : x.Time.length = 1 + x.Sats.length + x.Customers.length
  r : ∀ (i : Nat) (h : i < x.Time.length), x.Time[i].length = 1 + x.Sats.length + x.Customers.length

theorem idxNe_all {n : Int} : ∀ {l : List (List Int)} {k : Int}, 0 ≤ k → ¬ 0 ≤ idxNe n l k → ∀ r ∈ l, (r.length : Int) = n
  | [], _, _, _, r, hr => by simp at hr
  | a :: t, k, hk, h, r, hr => by
    simp only [idxNe] at h
    split at h
    · exact absurd hk h
    · rename_i h1
      rcases List.mem_cons.1 hr with rfl | hr
      · simpa using h1
      · exact idxNe_all (by omega) h r hr
theorem squareF_spec {l : List (List Int)} {n : Int} (h : squareF l n = true) : (l.length : Int) = n ∧ ∀ r ∈ l, (r.length : Int) = n := by
  simp only [squareF, Bool.and_eq_true, decide_eq_true_eq, Bool.not_eq_true', decide_eq_false_iff_not] at h
  exact ⟨h.1, idxNe_all (Int.le_refl 0) h.2⟩
theorem Sq.of {x : Instance} (h : instCheckF x = 0) : Sq x := by
  unfold instCheckF at h
  split at h
  · cases h
  · rename_i h1
    split at h
    · cases h
    · rename_i h2
      simp [manyF] at h1
      have h3 : squareF x.Time (nodesF x) = true := by
        cases hq : squareF x.Time (nodesF x) with
        | true => rfl
        | false => simp [hq] at h2
      obtain ⟨h4, h5⟩ := squareF_spec h3
      have hn : nodesF x = ((1 + x.Sats.length + x.Customers.length : Nat) : Int) := by
        unfold nodesF
        rw [w64_id (n := 1 + (x.Sats.length : Int)) (by omega), w64_id (by omega)]
        omega
      rw [hn] at h4 h5
      exact ⟨by omega, by omega, by omega, fun i hi => by have := h5 _ (List.getElem_mem hi); omega⟩

def tm (x : Instance) (i j : Int) : Int := (x.Time.getD i.toNat []).getD j.toNat 0
def holdOf (x : Instance) (s : Int) : Int := (x.Sats.getD s.toNat ⟨0, 0⟩).Hold
def custOf (x : Instance) (c : Int) : Customer := x.Customers.getD c.toNat ⟨0, 0, 0, 0⟩
/-- the node of a satellite, of a customer -/
abbrev ns (s : Int) : Int := w64 (1 + s)
abbrev nc (x : Instance) (c : Int) : Int := w64 (w64 (1 + x.Sats.length) + c)
def btw (a f t : Int) : Bool := decide (f ≤ a) && decide (a ≤ t)
def truckF (x : Instance) : List Stop → List Int → Int → Int → List Int → Bool × List Int
  | [], _, a, node, rd => (decide (w64 (a + tm x node 0) ≤ x.End), rd)
  | s :: r, h :: l, a, node, rd => if (!btw h (w64 (a + tm x node (ns s.Sat))) x.End) = true then (false, rd)
    else truckF x r l h (ns s.Sat) (rd.set s.Sat.toNat (max (rd.getD s.Sat.toNat 0) (w64 (h + holdOf x s.Sat))))
  | _ :: _, [], _, _, rd => (false, rd)
theorem truckF_len {x : Instance} : ∀ {r : List Stop} {l : List Int} {a n : Int} {rd : List Int}, (truckF x r l a n rd).2.length = rd.length
  | [], _, _, _, _ => rfl
  | s :: r, h :: l, a, n, rd => by
    simp only [truckF]
    split
    · rfl
    · rw [truckF_len]; simp
  | _ :: _, [], _, _, _ => rfl
def bikeL (x : Instance) (sat back : Int) : List Int → List Int → Int → Int → Bool
  | [], _, a, node => btw back (w64 (a + tm x node (ns sat))) x.End
  | c :: r, h :: l, a, node => if (!btw h (max (custOf x c).Open (w64 (a + tm x node (nc x c)))) (min (custOf x c).Close x.End)) = true then false
    else bikeL x sat back r l (w64 (h + (custOf x c).Stay)) (nc x c)
  | _ :: _, [], _, _ => false
def bikeF (x : Instance) (b : Bike) (r : Ride) (rd : List Int) : Bool :=
  if (!btw r.Out (rd.getD b.Sat.toNat 0) x.End) = true then false else bikeL x b.Sat r.Back b.Stops r.Starts r.Out (ns b.Sat)
def fitT : List Truck → List (List Int) → Bool → Bool
  | k :: ks, l :: ls, ok => fitT ks ls (ok && decide ((l.length : Int) = k.Stops.length))
  | [], _, ok => ok
  | _ :: _, [], _ => false
def fitK : List Bike → List Ride → Bool → Bool
  | k :: ks, l :: ls, ok => fitK ks ls (ok && decide ((l.Starts.length : Int) = k.Stops.length))
  | [], _, ok => ok
  | _ :: _, [], _ => false
def fitsF (y : Plan) (t : Times) : Bool := fitK y.Bikes t.Bikes (fitT y.Trucks t.Trucks true)
def trucksT (x : Instance) : List Truck → List (List Int) → List Int → Bool × List Int
  | k :: ks, l :: ls, rd => if (!(truckF x k.Stops l 0 0 rd).1) = true then (false, rd) else trucksT x ks ls (truckF x k.Stops l 0 0 rd).2
  | [], _, rd => (true, rd)
  | _ :: _, [], rd => (false, rd)
theorem trucksT_len {x : Instance} : ∀ {r : List Truck} {l : List (List Int)} {rd : List Int}, (trucksT x r l rd).2.length = rd.length
  | [], _, _ => rfl
  | s :: r, h :: l, rd => by
    simp only [trucksT]
    split
    · rfl
    · rw [trucksT_len, truckF_len]
  | _ :: _, [], _ => rfl
def bikesT (x : Instance) : List Bike → List Ride → List Int → Bool
  | k :: ks, l :: ls, rd => if (!bikeF x k l rd) = true then false else bikesT x ks ls rd
  | [], _, _ => true
  | _ :: _, [], _ => false
def clockCheckF (x : Instance) (y : Plan) (t : Times) : Int :=
  if (!decide (planCheckF x y = 0)) = true then planCheckF x y
  else if ((!decide ((t.Trucks.length : Int) = y.Trucks.length) || !decide ((t.Bikes.length : Int) = y.Bikes.length)) || !fitsF y t) = true then 4
  else if (!(trucksT x y.Trucks t.Trucks (List.replicate x.Sats.length 0)).1) = true then 12
  else if (!bikesT x y.Bikes t.Bikes (trucksT x y.Trucks t.Trucks (List.replicate x.Sats.length 0)).2) = true then 12 else 0

/-- all stops of bikes are satellites and customers that there are -/
def Served (x : Instance) (l : List Bike) : Prop := ∀ b ∈ l, (0 ≤ b.Sat ∧ b.Sat < x.Sats.length) ∧ ∀ c ∈ b.Stops, 0 ≤ c ∧ c < x.Customers.length
theorem bstopsF_ok {x : Instance} : ∀ {l : List Int} {seen left : Int} {v : Int × Int}, bstopsF x l seen left = some v → ∀ c ∈ l, 0 ≤ c ∧ c < x.Customers.length
  | [], _, _, _, _, s, hs => by simp at hs
  | a :: r, seen, left, v, h, s, hs => by
    simp only [bstopsF] at h
    split at h
    · cases h
    · rename_i hb
      rcases List.mem_cons.1 hs with rfl | hs
      · simp [custBad] at hb; omega
      · exact bstopsF_ok h s hs
theorem bikesF_ok {x : Instance} : ∀ {l : List Bike} {seen : Int} {o : Bool}, (bikesF x l seen o).1 = true → Served x l
  | [], _, _, _ => by simp [Served]
  | t :: ts, seen, o, h => by
    simp only [bikesF] at h
    split at h
    · cases h
    · rename_i hb
      split at h
      · cases h
      · rename_i u hu
        intro t' ht
        rcases List.mem_cons.1 ht with rfl | ht
        · refine ⟨?_, bstopsF_ok hu⟩
          simp [bikeBad] at hb; omega
        · exact bikesF_ok h t' ht
/-- what plan.Check has seen -/
structure PlanOk (x : Instance) (y : Plan) : Prop where
  i : instCheckF x = 0
  t : Sited x y.Trucks
  b : Served x y.Bikes
theorem PlanOk.of {x : Instance} {y : Plan} (h : planCheckF x y = 0) : PlanOk x y := by
  unfold planCheckF at h
  split at h
  · rename_i h1
    rw [h] at h1; simp at h1
  · rename_i h1
    split at h
    · cases h
    · split at h
      · cases h
      · rename_i h3
        refine ⟨by simpa using h1, trucksF_sited (r := true) (o := true) ?_, bikesF_ok (seen := 0) (o := true) ?_⟩
        · cases hq : (trucksF x y.Trucks true true).1 with
          | true => rfl
          | false => simp [hq] at h3
        · cases hq : (bikesF x y.Bikes 0 true).1 with
          | true => rfl
          | false => simp [hq] at h3

theorem fitT_false : ∀ {k : List Truck} {l : List (List Int)}, fitT k l false = false
  | [], _ => rfl
  | a :: k, b :: l => by simp only [fitT, Bool.false_and]; exact fitT_false
  | _ :: _, [] => rfl
theorem fitK_false : ∀ {k : List Bike} {l : List Ride}, fitK k l false = false
  | [], _ => rfl
  | a :: k, b :: l => by simp only [fitK, Bool.false_and]; exact fitK_false
  | _ :: _, [] => rfl
theorem fitT_len : ∀ {k : List Truck} {l : List (List Int)} {o : Bool}, fitT k l o = true → o = true ∧ ∀ (i : Nat) (h : i < k.length) (h2 : i < l.length), l[i].length = k[i].Stops.length
  | [], _, _, h => ⟨h, fun i h _ => by simp at h⟩
  | a :: k, b :: l, o, h => by
    simp only [fitT] at h
    obtain ⟨h1, h2⟩ := fitT_len h
    simp at h1
    refine ⟨h1.1, fun i hi hi2 => ?_⟩
    cases i with
    | zero => simp; omega
    | succ i => simpa using h2 i (by simpa using hi) (by simpa using hi2)
  | _ :: _, [], _, h => by simp [fitT] at h
theorem fitK_len : ∀ {k : List Bike} {l : List Ride} {o : Bool}, fitK k l o = true → o = true ∧ ∀ (i : Nat) (h : i < k.length) (h2 : i < l.length), l[i].Starts.length = k[i].Stops.length
  | [], _, _, h => ⟨h, fun i h _ => by simp at h⟩
  | a :: k, b :: l, o, h => by
    simp only [fitK] at h
    obtain ⟨h1, h2⟩ := fitK_len h
    simp at h1
    refine ⟨h1.1, fun i hi hi2 => ?_⟩
    cases i with
    | zero => simp; omega
    | succ i => simpa using h2 i (by simpa using hi) (by simpa using hi2)
  | _ :: _, [], _, h => by simp [fitK] at h
structure Fit3 (y : Plan) (t : Times) : Prop where
  nt : t.Trucks.length = y.Trucks.length
  nb : t.Bikes.length = y.Bikes.length
  lt : ∀ (i : Nat) (h : i < y.Trucks.length) (h2 : i < t.Trucks.length), t.Trucks[i].length = y.Trucks[i].Stops.length
  lb : ∀ (i : Nat) (h : i < y.Bikes.length) (h2 : i < t.Bikes.length), t.Bikes[i].Starts.length = y.Bikes[i].Stops.length
theorem Fit3.of {y : Plan} {t : Times} (h : ((!decide ((t.Trucks.length : Int) = y.Trucks.length) || !decide ((t.Bikes.length : Int) = y.Bikes.length)) || !fitsF y t) = false) : Fit3 y t := by
  simp at h
  obtain ⟨h1, h3⟩ := h
  obtain ⟨h1, h2⟩ := h1
  obtain ⟨h4, h5⟩ := fitK_len h3
  obtain ⟨_, h6⟩ := fitT_len h4
  exact ⟨by omega, by omega, h6, h5⟩
end Go.Proofs.Ytdeacehacndopaa

namespace Go.Proofs.Ytdeacehacndopaa

def inF (ok : Bool) (n : Int) : Bool := (ok && decide (0 ≤ n)) && decide (n ≤ 1099511627776)
def saneR (ok : Bool) (r : Ride) : Bool := r.Starts.foldl inF (inF (inF ok r.Out) r.Back)
def saneF (t : Times) : Bool := t.Bikes.foldl saneR (t.Trucks.foldl (fun o l => l.foldl inF o) true)
def fitsB (y : Plan) (t : Times) : Bool := !(!decide ((t.Trucks.length : Int) = y.Trucks.length) || !decide ((t.Bikes.length : Int) = y.Bikes.length)) && fitsF y t

def canTL (x : Instance) : List Stop → List Int → Int → Int → Bool → Bool × Int × Int
  | s :: r, h :: l, a, n, ok => canTL x r l h (ns s.Sat) (((ok && decide (a ≤ h)) && decide (tm x n (ns s.Sat) ≤ w64 (h - a))) && decide (h ≤ x.End))
  | [], _, a, n, ok => (ok, a, n)
  | _ :: _, [], a, n, _ => (false, a, n)
def canEnd (x : Instance) (u : Bool × Int × Int) : Bool := (u.1 && decide (u.2.1 ≤ x.End)) && decide (w64 (u.2.1 + tm x u.2.2 0) ≤ x.End)
def canT (x : Instance) : List Truck → List (List Int) → Bool → Bool
  | k :: ks, l :: ls, ok => canT x ks ls (canEnd x (canTL x k.Stops l 0 0 ok))
  | [], _, ok => ok
  | _ :: _, [], _ => false
def canRL (x : Instance) (sat out : Int) : List Stop → List Int → Bool → Bool
  | s :: r, h :: l, ok => canRL x sat out r l (ok && (!decide (s.Sat = sat) || decide (w64 (h + holdOf x sat) ≤ out)))
  | [], _, ok => ok
  | _ :: _, [], _ => false
def canRT (x : Instance) (sat out : Int) : List Truck → List (List Int) → Bool → Bool
  | k :: ks, l :: ls, ok => canRT x sat out ks ls (canRL x sat out k.Stops l ok)
  | [], _, ok => ok
  | _ :: _, [], _ => false
def canC (x : Instance) (c h a n : Int) (ok : Bool) : Bool :=
  (((ok && decide ((custOf x c).Open ≤ h)) && decide (h ≤ (custOf x c).Close)) && decide (h ≤ x.End)) && decide (tm x n (nc x c) ≤ w64 (h - a))
def canBL (x : Instance) : List Int → List Int → Int → Int → Bool → Option (Bool × Int × Int)
  | c :: r, h :: l, a, n, ok => if (!canC x c h a n ok) = true then none else canBL x r l (w64 (h + (custOf x c).Stay)) (nc x c) (canC x c h a n ok)
  | [], _, a, n, ok => some (ok, a, n)
  | _ :: _, [], _, _, _ => none
def canBack (x : Instance) (sat back : Int) (u : Bool × Int × Int) : Bool :=
  ((u.1 && decide (back ≤ x.End)) && decide (u.2.1 ≤ back)) && decide (tm x u.2.2 (ns sat) ≤ w64 (back - u.2.1))
def canK (x : Instance) (ts : List Truck) (tl : List (List Int)) : List Bike → List Ride → Bool → Bool
  | b :: bs, r :: rs, ok => match canBL x b.Stops r.Starts r.Out (ns b.Sat) (canRT x b.Sat r.Out ts tl ((ok && decide (0 ≤ r.Out)) && decide (r.Out ≤ x.End))) with
    | none => false
    | some u => canK x ts tl bs rs (canBack x b.Sat r.Back u)
  | [], _, ok => ok
  | _ :: _, [], _ => false
def canF (x : Instance) (y : Plan) (t : Times) : Bool :=
  if (!canT x y.Trucks t.Trucks true) = true then false else canK x y.Trucks t.Trucks y.Bikes t.Bikes (canT x y.Trucks t.Trucks true)
end Go.Proofs.Ytdeacehacndopaa

namespace Go.Proofs.Ytdeacehacndopaa

def thereF (x : Instance) (s : Int) : Bool := decide (0 ≤ s) && decide (s < x.Sats.length)
def distF (s : Stop) (l : List Stop) (r : Bool) : Bool := l.foldl (fun r o => r && !decide (o.Sat = s.Sat)) r
def stop1 (x : Instance) (r : Bool) (s : Stop) : Bool := ((r && thereF x s.Sat) && decide (1 ≤ s.Load)) && decide (s.Load ≤ 1000000000)
def addAt (l : List Int) (i n : Int) : List Int := l.set i.toNat (w64 (l.getD i.toNat 0 + n))
def codeS (x : Instance) (full : List Stop) : List Stop → Nat → Bool × Int × List Int → Bool × Int × List Int
  | [], _, u => u
  | s :: r, i, u => codeS x full r (i + 1) (if distF s (full.take i) (stop1 x u.1 s) = true then (true, w64 (u.2.1 + s.Load), addAt u.2.2 s.Sat s.Load) else (false, u.2.1, u.2.2))
def codeT (x : Instance) : List Truck → Bool × Bool × List Int → Bool × Bool × List Int
  | [], u => u
  | t :: ts, u => codeT x ts ((codeS x t.Stops t.Stops 0 (u.1 && decide (0 < (t.Stops.length : Int)), 0, u.2.2)).1,
      u.2.1 && decide ((codeS x t.Stops t.Stops 0 (u.1 && decide (0 < (t.Stops.length : Int)), 0, u.2.2)).2.1 ≤ x.Trucks.Room),
      (codeS x t.Stops t.Stops 0 (u.1 && decide (0 < (t.Stops.length : Int)), 0, u.2.2)).2.2)
def codeC (x : Instance) (sat : Int) : List Int → Bool × Int × List Int × List Int → Bool × Int × List Int × List Int
  | [], u => u
  | c :: r, u => codeC x sat r (if ((u.1 && decide (0 ≤ c)) && decide (c < x.Customers.length)) = true then
      (decide ((addAt u.2.2.1 c 1).getD c.toNat 0 = 1), w64 (u.2.1 + loadOf x c), addAt u.2.2.1 c 1, addAt u.2.2.2 sat (loadOf x c)) else (false, u.2.1, u.2.2.1, u.2.2.2))
def codeB (x : Instance) : List Bike → Bool × Bool × List Int × List Int → Bool × Bool × List Int × List Int
  | [], u => u
  | b :: bs, u => codeB x bs ((codeC x b.Sat b.Stops ((u.1 && decide (0 < (b.Stops.length : Int))) && thereF x b.Sat, 0, u.2.2.1, u.2.2.2)).1,
      u.2.1 && decide ((codeC x b.Sat b.Stops ((u.1 && decide (0 < (b.Stops.length : Int))) && thereF x b.Sat, 0, u.2.2.1, u.2.2.2)).2.1 ≤ x.Bikes.Room),
      (codeC x b.Sat b.Stops ((u.1 && decide (0 < (b.Stops.length : Int))) && thereF x b.Sat, 0, u.2.2.1, u.2.2.2)).2.2.1,
      (codeC x b.Sat b.Stops ((u.1 && decide (0 < (b.Stops.length : Int))) && thereF x b.Sat, 0, u.2.2.1, u.2.2.2)).2.2.2)
def noneF : List Int → Bool
  | [] => false
  | k :: r => if decide (k = 0) = true then true else noneF r
def roomL : List Int → List Sat → Bool → Bool
  | m :: r, s :: t, l => roomL r t (l && decide (m ≤ s.Room))
  | _, _, l => l
def code1 (x : Instance) (y : Plan) : Bool × Bool × List Int := codeT x y.Trucks (true, true, List.replicate x.Sats.length 0)
def code2 (x : Instance) (y : Plan) : Bool × Bool × List Int × List Int := codeB x y.Bikes ((code1 x y).1, (code1 x y).2.1, List.replicate x.Customers.length 0, List.replicate x.Sats.length 0)
def codeF (x : Instance) (y : Plan) : Int :=
  if (decide (x.Trucks.Many < (y.Trucks.length : Int)) || decide (x.Bikes.Many < (y.Bikes.length : Int))) = true then 11
  else if (!(code2 x y).1) = true then 15
  else if noneF (code2 x y).2.2.1 = true then 8
  else if (!roomL (code2 x y).2.2.2 x.Sats (code2 x y).2.1) = true then 10
  else if (!decide ((code2 x y).2.2.2 = (code1 x y).2.2)) = true then 13 else 0

theorem distF_true {s : Stop} : ∀ {l : List Stop} {r : Bool}, distF s l r = true → r = true
  | [], _, h => h
  | o :: l, r, h => by
    have h2 : distF s l (r && !decide (o.Sat = s.Sat)) = true := h
    have := distF_true h2
    simp at this; exact this.1
theorem stop1_there {x : Instance} {r : Bool} {s : Stop} (h : stop1 x r s = true) : r = true ∧ 0 ≤ s.Sat ∧ s.Sat < x.Sats.length := by
  simp [stop1, thereF] at h
  exact ⟨h.1.1.1, h.1.1.2⟩
theorem addAt_len (l : List Int) (i n : Int) : (addAt l i n).length = l.length := by simp [addAt]
end Go.Proofs.Ytdeacehacndopaa

namespace Go.Proofs.Ytdeacehacndopaa

def cellStep (l : List Int) (i : Nat) (st : List Int × Int) (j : Nat) : List Int × Int :=
  if (!decide ((i : Int) = (j : Int)) && decide (0 < (l.length : Int))) = true then (st.1.set j (w64 (l.getD (st.2 % (l.length : Int)).toNat 0 % 30)), w64 (st.2 + 1)) else st
def rowStep (l : List Int) (n : Nat) (st : List (List Int) × Int) (i : Nat) : List (List Int) × Int :=
  (st.1 ++ [((List.range n).foldl (cellStep l i) (List.replicate n 0, st.2)).1], ((List.range n).foldl (cellStep l i) (List.replicate n 0, st.2)).2)
def squareN (l : List Int) (n : Nat) : List (List Int) := ((List.range n).foldl (rowStep l n) ([], 0)).1
def wideF (x : Small) : Int := if x.Loose = true then 9 else 1
def satStep (wide : Int) (l : List Sat) (s : Sat8) : List Sat :=
  if (l.length : Int) < 3 then l ++ [⟨w64 (4 + w64 (wide * w64 (s.Room % 40))), w64 (s.Hold % 12)⟩] else l
def satsM (x : Small) : List Sat := if ((x.Sats.foldl (satStep (wideF x)) []).length : Int) = 0 then [⟨60, 2⟩] else x.Sats.foldl (satStep (wideF x)) []
def custM (wide : Int) (tight : Bool) (c : Who) : Customer :=
  ⟨if tight = true then w64 (w64 (1 + w64 (c.Load % 6)) + w64 (c.Load / 32)) else w64 (1 + w64 (c.Load % 6)), w64 (c.Open % 50), w64 (w64 (c.Open % 50) + w64 (wide * w64 c.Wide)), w64 (c.Stay % 8)⟩
def custStep (wide : Int) (tight : Bool) (l : List Customer) (c : Who) : List Customer := if (l.length : Int) < 6 then l ++ [custM wide tight c] else l
def custsM (x : Small) : List Customer := if ((x.Customers.foldl (custStep (wideF x) x.Tight) []).length : Int) = 0 then [⟨2, 5, 90, 1⟩] else x.Customers.foldl (custStep (wideF x) x.Tight) []
def nM (x : Small) : Nat := 1 + (satsM x).length + (custsM x).length
def makeF (x : Small) : Instance :=
  ⟨w64 (40 + w64 (w64 x.End * wideF x)), ⟨w64 (1 + w64 (x.Trucks % 4)), w64 (5 + w64 (wideF x * w64 (x.TruckRoom % 40)))⟩, ⟨w64 (1 + w64 (x.Bikes % 6)), w64 (3 + w64 (wideF x * w64 (x.BikeRoom % 20)))⟩, satsM x, custsM x, squareN x.Cost (nM x), squareN x.Time (nM x)⟩
def atF (l : List Int) (i : Int) : Int := if (l.length : Int) = 0 then 0 else w64 (l.getD (i % (l.length : Int)).toNat 0)
end Go.Proofs.Ytdeacehacndopaa

namespace Go.Proofs.Ytdeacehacndopaa
open Go.RowKit Go.Shelf

def insF (n : Nat) : Nat := match n with | 21 => fn_slices_Insert_s_int_int | 27 => 45 | 28 => 46 | 35 => 72 | 39 => 88 | _ => 0
def insT (n : Nat) : Nat := match n with | 3 => 3 | 4 => 4 | 22 => 66 | _ => 0
def insR : Ren := ⟨insF, insT, fun x => x⟩
theorem ins_lays : Lays2.n21 Pr insR where
  mixed := Pr_mixed
  f21 := by kernel_rfl
  f27 := by kernel_rfl
  f28 := by kernel_rfl
  f35 := by kernel_rfl
  f39 := by kernel_rfl
  t0 := Try.underlying0
  a0 := Try.isAgg0
  z0 := Try.sizeOf0
  v0 := Try.zeroValue0
  t3 := Try.underlying3
  a3 := Try.isAgg3
  z3 := Try.sizeOf3
  v3 := Try.zeroValue3
  t4 := Try.underlying4
  a4 := Try.isAgg4
  z4 := Try.sizeOf4
  v4 := Try.zeroValue4
  t22 := Try.underlying66
  a22 := Try.isAgg66
  z22 := Try.sizeOf66
  v22 := Try.zeroValue66
  i3 := by kernel_rfl

theorem setCells_row (b : Nat) : ∀ (vs : List Value) (o : Nat) (w : World) (cur : List Value) (T : TypeId), w.heap[b]? = some (.cells cur.toArray T (0, 0)) → o + vs.length ≤ cur.length →
    (w.setCells b o vs).heap[b]? = some (.cells (cur.take o ++ vs ++ cur.drop (o + vs.length)).toArray T (0, 0))
  | [], o, w, cur, T, h, _ => by simpa [World.setCells] using h
  | v :: r, o, w, cur, T, h, hf => by
    rw [World.setCells]
    have h1 : (w.setCell ⟨b, o, none⟩ v).heap[b]? = some (.cells (cur.set o v).toArray T (0, 0)) := by
      have := heap_setCell_same w b o cur.toArray T v h
      simpa using this
    simp only [List.length_cons] at hf
    rw [setCells_row b r (o + 1) _ (cur.set o v) T h1 (by rw [List.length_set]; omega)]
    have h2 : (cur.set o v).take (o + 1) = cur.take o ++ [v] := by
      rw [List.take_succ_eq_append_getElem (by rw [List.length_set]; omega)]
      simp [List.take_set_of_le]
    have h3 : (cur.set o v).drop (o + 1 + r.length) = cur.drop (o + (v :: r).length) := by
      rw [List.drop_set_of_lt (by omega)]
      congr 1
      simp; omega
    rw [h2, h3]
    simp
theorem setCells_other (b : Nat) : ∀ (vs : List Value) (o : Nat) (w : World) (k : Nat), k ≠ b → (w.setCells b o vs).heap[k]? = w.heap[k]?
  | [], _, _, _, _ => rfl
  | v :: r, o, w, k, h => by rw [World.setCells, setCells_other b r _ _ k h, heap_setCell_other _ _ _ _ h]
theorem setCells_keep (b : Nat) (vs : List Value) (o : Nat) (w : World) : Keep [b] w (w.setCells b o vs) := by
  have key : ∀ (vs : List Value) (o : Nat) (w : World), (w.setCells b o vs).os = w.os ∧ (w.setCells b o vs).tape = w.tape ∧ (w.setCells b o vs).output = w.output ∧ (w.setCells b o vs).heap.size = w.heap.size := by
    intro vs
    induction vs with
    | nil => intro o w; exact ⟨rfl, rfl, rfl, rfl⟩
    | cons v r ih => intro o w; rw [World.setCells]; obtain ⟨h1, h2, h3, h4⟩ := ih (o + 1) (w.setCell ⟨b, o, none⟩ v); exact ⟨h1, h2, h3, h4.trans (by simp [World.setCell])⟩
  obtain ⟨h1, h2, h3, h4⟩ := key vs o w
  exact ⟨h1, h2, h3, by omega, fun k _ hk => setCells_other b vs o w k (by simpa using hk)⟩

/-- a row of numbers of one's own: its cells -/
theorem own_ints {T : TypeId} {k : IntKind} {a : Option Addr} {c : Nat} {l : List Int} {sh : Nat → Prop} {w : World} (h : (own T (tI k) a c l).P sh w) :
    w.ownsRow 0 T 1 (.slice a l.length c) l.length (l.map (.int k)) ∧ ∀ v ∈ l, k.wrap v = v := by
  obtain ⟨xs, ho, hr⟩ := h
  have hn : (tI k).n = 1 := rfl
  rw [hn] at ho
  have hx : xs = l.map (.int k) := by
    have hxl : xs.length = l.length := by simpa using ho.1
    refine List.ext_getElem? fun i => ?_
    rcases Nat.lt_or_ge i l.length with hi | hi
    · have h1 := (hr i l[i] (by simp [hi])).1
      simp only [slot, hn, Nat.mul_one] at h1
      have h2 := congrArg (fun q => q[0]?) h1
      simp at h2
      rw [h2]
      simp [hi]
    · rw [List.getElem?_eq_none (by omega), List.getElem?_eq_none (by simpa using hi)]
  subst hx
  refine ⟨ho, fun v hv => ?_⟩
  obtain ⟨i, hi⟩ := List.mem_iff_getElem?.1 hv
  exact (hr i v hi).2
theorem ints_own {T : TypeId} {k : IntKind} {a : Option Addr} {c : Nat} {l : List Int} {sh : Nat → Prop} {w : World} (ho : w.ownsRow 0 T 1 (.slice a l.length c) l.length (l.map (.int k))) (hw : ∀ v ∈ l, k.wrap v = v) :
    (own T (tI k) a c l).P sh w := by
  refine ⟨l.map (.int k), ho, fun i x hx => ⟨?_, hw x (List.mem_of_getElem? hx)⟩⟩
  have hi : i < l.length := (List.getElem?_eq_some_iff.1 hx).1
  have h1 : l[i] = x := by rw [List.getElem?_eq_getElem hi] at hx; exact Option.some.inj hx
  show (List.map (Value.int k) l |>.drop (i * 1)).take 1 = [.int k x]
  rw [Nat.mul_one, List.drop_eq_getElem_cons (by simpa using hi)]
  simp [h1]

/-- what Insert leaves -/
def insL (l : List Int) (i : Nat) (x : Int) : List Int := l.take i ++ x :: l.drop i
theorem insL_len {l : List Int} {i : Nat} {x : Int} (h : i ≤ l.length) : (insL l i x).length = l.length + 1 := by simp [insL]; omega
theorem insL_map {k : IntKind} {l : List Int} {i : Nat} {x : Int} : (insL l i x).map (Value.int k) = (l.map (Value.int k)).take i ++ Value.int k x :: (l.map (Value.int k)).drop i := by
  simp [insL, List.map_take, List.map_drop]
theorem insert_spec (l : List Int) (a : Option Addr) (c vb i : Nat) (x : Int) (hi : i ≤ l.length) (hl : l.length ≤ 1000000000) (hx : w64 x = x) (sh : Nat → Prop) (w : World)
    (h : Holds ⟨0, w, fps [own 3 t64 a c l, cel vb 3 [.int .i64 x]], sh⟩ [own 3 t64 a c l, cel vb 3 [.int .i64 x]] [] w) :
    Calls Pr fn_slices_Insert_s_int_int #[.slice a l.length c, .int .i64 i, .slice (some ⟨vb, 0, none⟩) 1 1] w fun e w' =>
      ∃ g : Hdr, e = .returned (.slice g.1 (insL l i x).length g.2) ∧ Holds ⟨0, w, fps [own 3 t64 a c l, cel vb 3 [.int .i64 x]], sh⟩ [own 3 t64 g.1 g.2 (insL l i x)] [] w' := by
  have hh := h
  obtain ⟨s0, hm⟩ := h
  have hown := hm.own _ (List.mem_cons_self ..)
  obtain ⟨ho, hwr⟩ := own_ints hown
  have hvb : w.heap[vb]? = some (.cells [Value.int .i64 x].toArray 3 (0, 0)) := hm.own _ (List.mem_cons_of_mem _ (List.mem_cons_self ..))
  have hvs : ∀ j v, [Value.int .i64 x][j]? = some v → w.cell? ⟨vb, 0 + j, none⟩ = some v := fun j v hj => by rw [cell_of_cel hvb, Nat.zero_add]; exact hj
  have h1v : ∀ v ∈ [Value.int .i64 x], v.oneCell' = true := by simp [Value.oneCell']
  have h1c : ∀ v ∈ l.map (Value.int .i64), v.oneCell' = true := by simp [Value.oneCell']
  have hwn : ∀ v ∈ insL l i x, IntKind.i64.wrap v = v := by
    intro v hv
    simp only [insL, List.mem_append, List.mem_cons] at hv
    rcases hv with hv | rfl | hv
    · exact hwr v (List.mem_of_mem_take hv)
    · exact hx
    · exact hwr v (List.mem_of_mem_drop hv)
  have hlen := insL_len (x := x) hi
  have fin : ∀ (g : Hdr) (w' : World), Keep (own 3 t64 a c l).fp w w' → w'.ownsRow 0 3 1 (.slice g.1 (insL l i x).length g.2) (insL l i x).length ((insL l i x).map (.int .i64)) → (∀ b ∈ (own 3 t64 g.1 g.2 (insL l i x)).fp, b ∈ (own 3 t64 a c l).fp ∨ w.heap.size ≤ b) →
      Holds ⟨0, w, fps [own 3 t64 a c l, cel vb 3 [.int .i64 x]], sh⟩ [own 3 t64 g.1 g.2 (insL l i x)] [] w' := by
    intro g w' hk how hfp
    have h2 : Holds ⟨0, w, fps [own 3 t64 a c l, cel vb 3 [.int .i64 x]], sh⟩ [own 3 t64 g.1 g.2 (insL l i x), cel vb 3 [.int .i64 x]] [] w' :=
      hh.upd (e := own 3 t64 a c l) (e' := own 3 t64 g.1 g.2 (insL l i x)) hk (fun _ _ => ints_own how hwn) (by cases g.1 <;> simp [own]) hfp
    exact h2.drop (SubL.sub) (by simp)
  have new : ∀ (cap : Nat) (w' : World) (rest : List Value), Keep [] w w' → w'.heap[w.heap.size]? = some (.cells ((insL l i x).map (Value.int .i64) ++ rest).toArray 3 (0, 0)) → (insL l i x).length ≤ cap → cap ≤ maxLen → rest.length = cap - (insL l i x).length →
      Holds ⟨0, w, fps [own 3 t64 a c l, cel vb 3 [.int .i64 x]], sh⟩ [own 3 t64 (some ⟨w.heap.size, 0, none⟩) cap (insL l i x)] [] w' := by
    intro cap w' rest hk hheap hc1 hc2 hr
    refine fin (some ⟨w.heap.size, 0, none⟩, cap) w' (hk.mono (by simp)) ⟨by simp, .inr ⟨w.heap.size, cap, _, rfl, Nat.zero_le _, hheap, hc1, hc2, ?_, ?_⟩⟩ (by simp [own])
    · simp [hr]; omega
    · rw [Nat.mul_one, List.toList_toArray, List.take_append_of_le_length (by simp), List.take_of_length_le (by simp)]
  have hvbw : vb < w.heap.size := lt_of_heap hvb
  have zc : ∀ n, (Builtin.zeroCells (Value.int .i64 0).cells n).toList.length = n := by intro n; simp [Builtin.zeroCells, Value.cells]
  rcases ho.2 with ⟨h2, h3⟩ | ⟨g, cap, cur, hv, _, hg, hn, hcm, hcs, htake⟩
  · simp only [Value.slice.injEq] at h2
    obtain ⟨rfl, h4, rfl⟩ := h2
    have hl0 : l = [] := List.eq_nil_of_length_eq_zero h3
    subst hl0
    obtain rfl : i = 0 := by simpa using hi
    refine (Any2.slices_Insert_int_end_grow ins_lays none 0 0 vb 0 1 1 [] [.int .i64 x] w (by omega) (by omega) (by omega) (by omega) rfl rfl (fun _ => rfl) (by simp) hvs h1v).mono ?_
    rintro e w' ⟨rfl, rfl⟩
    refine ⟨(some ⟨w.heap.size, 0, none⟩, grownCap w 1 0 3), rfl, ?_⟩
    have hge := grownCap_ge w 1 0 3
    refine new _ _ (Builtin.zeroCells (Value.int .i64 0).cells (grownCap w 1 0 3 - 1)).toList ((Keep.drew w).trans (Keep.alloc _ _)) ?_ (by simpa [insL] using hge) (grownCap_le_maxLen _ _ _ _ (by simp [maxLen])) (by rw [zc]; simp [insL])
    have := heap_new w.drew (.cells (([] ++ [Value.int .i64 x]).toArray ++ Builtin.zeroCells (Value.int .i64 0).cells (grownCap w 1 0 3 - 1)) 3)
    refine Eq.trans this ?_
    simp [insL]
  · simp only [Value.slice.injEq, true_and] at hv
    obtain ⟨rfl, rfl⟩ := hv
    rw [Nat.mul_one] at hcs
    obtain ⟨cur, rfl⟩ : ∃ c : List Value, cur = c.toArray := ⟨cur.toList, by simp⟩
    simp only [List.size_toArray] at hcs
    rw [Nat.mul_one, List.toList_toArray] at htake
    have hgw : g < w.heap.size := lt_of_heap hg
    have hcell : ∀ j, w.cell? ⟨g, j, none⟩ = cur[j]? := fun j => cell_of_cel hg j
    have hfro : ∀ j, w.frozen? ⟨g, j, none⟩ = false := fun j => by simp [World.frozen?, hg]
    have hcsl : ∀ j v, (l.map (Value.int .i64))[j]? = some v → w.cell? ⟨g, 0 + j, none⟩ = some v := fun j v hj => by
      have h5 : j < l.length := by have := (List.getElem?_eq_some_iff.1 hj).1; simpa using this
      rw [Nat.zero_add, hcell]
      rw [← htake, List.getElem?_take, if_pos h5] at hj; exact hj
    have hne : vb ≠ g := by
      have := hm.nodup
      simp [fps, own, cel] at this
      exact fun e => this e.symm
    by_cases hiL : i = l.length
    · subst hiL
      have hins : insL l l.length x = l ++ [x] := by simp [insL]
      by_cases hroom : l.length + 1 ≤ c
      · refine (Any2.slices_Insert_int_end_room ins_lays g 0 l.length c vb 0 1 1 [.int .i64 x] w (by omega) hroom hcm rfl (fun j hj => by rw [hcell, List.getElem?_eq_getElem (by omega)]; rfl) (fun j _ => hfro _) hvs h1v).mono ?_
        rintro e w' ⟨rfl, rfl⟩
        refine ⟨(some ⟨g, 0, none⟩, c), by rw [hlen], fin (some ⟨g, 0, none⟩, c) _ ((setCells_keep g _ _ w).mono (by simp [own])) ?_ (by simp [own])⟩
        refine ⟨by simp, .inr ⟨g, c, _, rfl, Nat.zero_le _, setCells_row g [.int .i64 x] (0 + l.length) w cur 3 hg (by simp; omega), by omega, hcm, by simp; omega, ?_⟩⟩
        simp only [Nat.zero_add, htake, hins, Nat.mul_one, List.toList_toArray]
        rw [List.take_append_of_le_length (by simp), List.take_of_length_le (by simp)]
        simp
      · refine (Any2.slices_Insert_int_end_grow ins_lays (some ⟨g, 0, none⟩) l.length c vb 0 1 1 (l.map (.int .i64)) [.int .i64 x] w (by omega) hn (by omega) (by omega) (by simp) rfl (by simp) (fun a ha j v hj => by
          simp only [Option.some.injEq] at ha; subst ha; rw [Addr.add_lit]; exact hcsl j v hj) hvs h1v).mono ?_
        rintro e w' ⟨rfl, rfl⟩
        have hge := grownCap_ge w (l.length + 1) c 3
        refine ⟨(some ⟨w.heap.size, 0, none⟩, grownCap w (l.length + 1) c 3), by rw [hlen]; rfl, ?_⟩
        refine new _ _ (Builtin.zeroCells (Value.int .i64 0).cells (grownCap w (l.length + 1) c 3 - (l.length + 1))).toList ((Keep.drew w).trans (Keep.alloc _ _)) ?_ (by rw [hlen]; exact hge) (grownCap_le_maxLen _ _ _ _ (by simp only [maxLen]; omega)) (by rw [zc, hlen])
        have := heap_new w.drew (.cells ((l.map (Value.int .i64) ++ [Value.int .i64 x]).toArray ++ Builtin.zeroCells (Value.int .i64 0).cells (grownCap w (l.length + 1) c 3 - (l.length + 1))) 3)
        refine Eq.trans this ?_
        simp [hins]
    · have hlt : i < l.length := by omega
      by_cases hroom : l.length + 1 ≤ c
      · refine (Any2.slices_Insert_int_shift ins_lays g 0 l.length c i vb 0 1 1 (l.map (.int .i64)) [.int .i64 x] w hlt (by omega) hroom hcm hne (by simp) rfl hcsl (fun j hj => by rw [hcell, List.getElem?_eq_getElem (by omega)]; rfl) (fun j _ => hfro _) hvs h1c h1v
          3 3 1 cur.length (by simp [World.shape?, hvb]) (by simp [World.shape?, hg]) (by omega) (by simp [World.frozen?, hvb]) (by simp [World.frozen?, hvb])).mono ?_
        rintro e w' ⟨rfl, rfl⟩
        have r1 := setCells_row g ((l.map (Value.int .i64)).drop i) (0 + (i + 1)) w.drew cur 3 hg (by simp; omega)
        have r2 := setCells_row g [Value.int .i64 x] (0 + i) _ _ 3 r1 (by simp; omega)
        refine ⟨(some ⟨g, 0, none⟩, c), by rw [hlen], fin (some ⟨g, 0, none⟩, c) _ ((((Keep.drew w).trans (setCells_keep g _ _ w.drew)).trans (setCells_keep g _ _ _)).mono (by simp [own])) ?_ (by simp [own])⟩
        refine ⟨by simp, .inr ⟨g, c, _, rfl, Nat.zero_le _, r2, by omega, hcm, by simp; omega, ?_⟩⟩
        rw [insL_map, hlen, Nat.mul_one, ← htake]
        simp only [Nat.zero_add, List.toList_toArray]
        have hti : (cur.take (i + 1) ++ (cur.take l.length).drop i ++ cur.drop (i + 1 + ((cur.take l.length).drop i).length)).take i = cur.take i := by
          rw [List.append_assoc, List.take_append_of_le_length (by simp; omega), List.take_take]; congr 1; omega
        have htd : (cur.take (i + 1) ++ (cur.take l.length).drop i ++ cur.drop (i + 1 + ((cur.take l.length).drop i).length)).drop (i + 1) = (cur.take l.length).drop i ++ cur.drop (i + 1 + ((cur.take l.length).drop i).length) := by
          rw [List.append_assoc, List.drop_append_of_le_length (by simp; omega), List.drop_eq_nil_of_le (by simp; omega)]; rfl
        simp only [List.length_singleton]
        rw [hti, htd, ← List.append_assoc, List.take_append_of_le_length (by simp; omega), List.take_of_length_le (by simp; omega), List.take_take]
        simp [Nat.min_eq_left (Nat.le_of_lt hlt)]
      · refine (Any2.slices_Insert_int_grow ins_lays g 0 l.length c i vb 0 1 1 (l.map (.int .i64)) [.int .i64 x] w hlt (by omega) hn (by omega) (by omega) (by simp) rfl hcsl hvs h1c h1v).mono ?_
        rintro e w' ⟨rfl, rfl⟩
        have hge := grownCap_ge w (l.length + 1) c 3
        generalize hG : grownCap w (l.length + 1) c 3 = G at hge ⊢
        have hcmG : G ≤ maxLen := by rw [← hG]; exact grownCap_le_maxLen _ _ _ _ (by simp only [maxLen]; omega)
        refine ⟨(some ⟨w.heap.size, 0, none⟩, G), by rw [hlen]; exact congrArg (fun q => Ending.returned (Value.slice (some ⟨w.heap.size, 0, none⟩) (l.length + 1) q)) hG, ?_⟩
        obtain ⟨Z, hZ⟩ : ∃ Z : List Value, Z = (Builtin.zeroCells (Value.int .i64 0).cells (l.length + 1 - i)).toList := ⟨_, rfl⟩
        obtain ⟨Y, hY⟩ : ∃ Y : List Value, Y = (Builtin.zeroCells (Value.int .i64 0).cells (G - (l.length + 1))).toList := ⟨_, rfl⟩
        have hZl : Z.length = l.length + 1 - i := by rw [hZ]; exact zc _
        have hYl : Y.length = G - (l.length + 1) := by rw [hY]; exact zc _
        obtain ⟨D, hD⟩ : ∃ D : List Value, D = l.map (Value.int .i64) := ⟨_, rfl⟩
        have hDl : D.length = l.length := by rw [hD]; simp
        have e0 : ((w.alloc (.cells (((l.map (Value.int .i64)).take i).toArray ++ Builtin.zeroCells (Value.int .i64 0).cells (l.length + 1 - i) ++ Builtin.zeroCells (Value.int .i64 0).cells (grownCap w (l.length + 1) c (insR.t 3) - (l.length + 1))) (insR.t 3))).drew).heap[w.heap.size]? = some (.cells (D.take i ++ Z ++ Y).toArray 3 (0, 0)) := by
          refine Eq.trans (heap_new w _) ?_
          rw [show grownCap w (l.length + 1) c (insR.t 3) = G from hG, hZ, hY, hD]
          simp
          rfl
        have r1 := setCells_row w.heap.size [Value.int .i64 x] i _ _ 3 e0 (by simp; omega)
        obtain ⟨WA, hWA⟩ : ∃ WA, WA = (w.alloc (.cells (((l.map (Value.int .i64)).take i).toArray ++ Builtin.zeroCells (Value.int .i64 0).cells (l.length + 1 - i) ++ Builtin.zeroCells (Value.int .i64 0).cells (grownCap w (l.length + 1) c (insR.t 3) - (l.length + 1))) (insR.t 3))).drew := ⟨_, rfl⟩
        rw [← hWA] at r1
        have a1 : (D.take i ++ Z ++ Y).take i = D.take i := by rw [List.append_assoc, List.take_append_of_le_length (by simp; omega), List.take_take]; simp
        have a2 : (D.take i ++ [Value.int .i64 x] ++ (D.take i ++ Z ++ Y).drop (i + 1)).take (i + 1) = D.take i ++ [Value.int .i64 x] := by
          rw [List.take_append_of_le_length (by simp; omega), List.take_of_length_le (by simp; omega)]
        have a3 : (D.take i ++ [Value.int .i64 x] ++ (D.take i ++ Z ++ Y).drop (i + 1)).drop (i + 1 + (D.length - i)) = Y := by
          rw [List.drop_append, List.drop_eq_nil_of_le (by simp; omega), List.nil_append, List.drop_drop, List.drop_append, List.drop_eq_nil_of_le (by simp; omega), List.nil_append]
          simp only [List.length_append, List.length_take, List.length_singleton]
          rw [show i + 1 + (i + 1 + (D.length - i) - (min i D.length + 1)) - (min i D.length + Z.length) = 0 by omega]
          rfl
        rw [a1] at r1
        have r1' : ((WA.setCells w.heap.size i [Value.int .i64 x]).drew).heap[w.heap.size]? = some (.cells (D.take i ++ [Value.int .i64 x] ++ (D.take i ++ Z ++ Y).drop (i + [Value.int .i64 x].length)).toArray 3 (0, 0)) := r1
        have r2 := setCells_row w.heap.size (D.drop i) (i + 1) _ _ 3 r1' (by simp; omega)
        have hk1 : Keep [] w WA := by rw [hWA]; exact (Keep.alloc w _).trans (Keep.drew _)
        have hk2 := ((hk1.mono (M' := [w.heap.size]) (by simp)).trans (setCells_keep w.heap.size [Value.int .i64 x] i _)).trans (Keep.drew _)
        have hk3 := hk2.trans (setCells_keep w.heap.size (D.drop i) (i + 1) _)
        have r3 : ((WA.setCells w.heap.size i [Value.int .i64 x]).drew.setCells w.heap.size (i + 1) (D.drop i)).heap[w.heap.size]? = some (.cells ((insL l i x).map (Value.int .i64) ++ Y).toArray 3 (0, 0)) := by
          refine Eq.trans r2 ?_
          rw [insL_map, ← hD]
          simp only [List.length_singleton, List.length_drop]
          rw [a2, a3]
          simp
        have r4 := new G _ Y (hk3.mono (by simp)) r3 (by rw [hlen]; exact hge) hcmG (by rw [hYl, hlen])
        rw [hWA, hD] at r4
        exact r4
end Go.Proofs.Ytdeacehacndopaa

namespace Go.Proofs.Ytdeacehacndopaa
open Go.RowKit

set_option maxRecDepth 20000 in
theorem sat_spec (cs : List Value) (s : Int) (w : World) :
    Calls Pr fn_inst_Instance_Sat #[.agg cs.toArray, .int .i64 s] w fun e w' => e = .returned (.int .i64 (w64 (1 + s))) ∧ Ext w w' := by
  refine Calls.of_go (M := []) (A := fun _ => False) (args := [_, _]) fn_inst_Instance_Sat_f rfl rfl rfl (Holds.nil (n := 0)) ?_
  refine GoC.seq ?_
  refine GoC.region ?_
  refine GoL.x (op_box rfl rfl) ?_
  rintro _ _ _ ⟨b2, rfl, rfl, rfl⟩
  refine GoL.q (op_assign rfl) ?_
  refine GoL.nil .next ?_
  refine GoC.seq ?_
  refine GoC.region ?_
  refine GoL.q (op_move rfl) ?_
  refine GoL.q (op_add rfl rfl) ?_
  refine GoL.q (op_assign rfl) ?_
  refine GoL.nil .next ?_
  refine GoC.ret .here ?_
  refine done1 rfl rfl ?_
  intro w' hw
  exact ⟨rfl, hw.keep⟩
set_option maxRecDepth 20000 in
theorem customer_spec (x : Instance) (p : HI) (c : Int) (w : World) :
    Calls Pr fn_inst_Instance_Customer #[.agg (cI x p).toArray, .int .i64 c] w fun e w' => e = .returned (.int .i64 (w64 (w64 (1 + x.Sats.length) + c))) ∧ Ext w w' := by
  refine Calls.of_go (M := []) (A := fun _ => False) (args := [_, _]) fn_inst_Instance_Customer_f rfl rfl rfl (Holds.nil (n := 0)) ?_
  refine GoC.seq ?_
  refine GoC.region ?_
  refine GoL.x (op_box rfl rfl) ?_
  rintro _ _ _ ⟨b2, rfl, rfl, rfl⟩
  refine GoL.q (op_assign rfl) ?_
  refine GoL.nil .next ?_
  refine GoC.seq ?_
  refine GoC.region ?_
  refine GoL.q (op_fieldAddr rfl) ?_
  refine GoL.q (op_load rfl rfl) ?_
  refine GoL.q (op_len rfl) ?_
  refine GoL.q (op_add rfl rfl) ?_
  refine GoL.q (op_move rfl) ?_
  refine GoL.q (op_add rfl rfl) ?_
  refine GoL.q (op_assign rfl) ?_
  refine GoL.nil .next ?_
  refine GoC.ret .here ?_
  refine done1 rfl rfl ?_
  intro w' hw
  exact ⟨rfl, hw.keep⟩
set_option maxRecDepth 20000 in
theorem nodes_spec (x : Instance) (p : HI) (w : World) :
    Calls Pr fn_inst_Instance_Nodes #[.agg (cI x p).toArray] w fun e w' => e = .returned (.int .i64 (w64 (w64 (1 + x.Sats.length) + x.Customers.length))) ∧ Ext w w' := by
  refine Calls.of_go (M := []) (A := fun _ => False) (args := [_]) fn_inst_Instance_Nodes_f rfl rfl rfl (Holds.nil (n := 0)) ?_
  refine GoC.seq ?_
  refine GoC.region ?_
  refine GoL.x (op_box rfl rfl) ?_
  rintro _ _ _ ⟨b1, rfl, rfl, rfl⟩
  refine GoL.q (op_assign rfl) ?_
  refine GoL.nil .next ?_
  refine GoC.seq ?_
  refine GoC.region ?_
  refine GoL.q (op_fieldAddr rfl) ?_
  refine GoL.q (op_load rfl rfl) ?_
  refine GoL.q (op_len rfl) ?_
  refine GoL.q (op_add rfl rfl) ?_
  refine GoL.q (op_fieldAddr rfl) ?_
  refine GoL.q (op_load rfl rfl) ?_
  refine GoL.q (op_len rfl) ?_
  refine GoL.q (op_add rfl rfl) ?_
  refine GoL.q (op_assign rfl) ?_
  refine GoL.nil .next ?_
  refine GoC.ret .here ?_
  refine done1 rfl rfl ?_
  intro w' hw
  exact ⟨rfl, hw.keep⟩
set_option maxRecDepth 20000 in
theorem nodes11_spec (x : Instance) (p : HI) (w : World) :
    Calls Pr fn_law11_Nodes #[.agg (cI x p).toArray] w fun e w' => e = .returned (.int .i64 (w64 (w64 (1 + x.Sats.length) + x.Customers.length))) ∧ Ext w w' := by
  refine Calls.of_go (M := []) (A := fun _ => False) (args := [_]) fn_law11_Nodes_f rfl rfl rfl (Holds.nil (n := 0)) ?_
  refine GoC.seq ?_
  refine GoC.region ?_
  refine GoL.x (op_box rfl rfl) ?_
  rintro _ _ _ ⟨b1, rfl, rfl, rfl⟩
  refine GoL.q (op_assign rfl) ?_
  refine GoL.nil .next ?_
  refine GoC.seq ?_
  refine GoC.region ?_
  refine GoL.q (op_fieldAddr rfl) ?_
  refine GoL.q (op_load rfl rfl) ?_
  refine GoL.q (op_len rfl) ?_
  refine GoL.q (op_add rfl rfl) ?_
  refine GoL.q (op_fieldAddr rfl) ?_
  refine GoL.q (op_load rfl rfl) ?_
  refine GoL.q (op_len rfl) ?_
  refine GoL.q (op_add rfl rfl) ?_
  refine GoL.q (op_assign rfl) ?_
  refine GoL.nil .next ?_
  refine GoC.ret .here ?_
  refine done1 rfl rfl ?_
  intro w' hw
  exact ⟨rfl, hw.keep⟩
set_option maxRecDepth 20000 in
theorem at11_spec (x : Instance) (p : HI) (c : Int) (w : World) :
    Calls Pr fn_law11_At #[.agg (cI x p).toArray, .int .i64 c] w fun e w' => e = .returned (.int .i64 (w64 (w64 (1 + x.Sats.length) + c))) ∧ Ext w w' := by
  refine Calls.of_go (M := []) (A := fun _ => False) (args := [_, _]) fn_law11_At_f rfl rfl rfl (Holds.nil (n := 0)) ?_
  refine GoC.seq ?_
  refine GoC.region ?_
  refine GoL.x (op_box rfl rfl) ?_
  rintro _ _ _ ⟨b2, rfl, rfl, rfl⟩
  refine GoL.q (op_assign rfl) ?_
  refine GoL.nil .next ?_
  refine GoC.seq ?_
  refine GoC.region ?_
  refine GoL.q (op_fieldAddr rfl) ?_
  refine GoL.q (op_load rfl rfl) ?_
  refine GoL.q (op_len rfl) ?_
  refine GoL.q (op_add rfl rfl) ?_
  refine GoL.q (op_move rfl) ?_
  refine GoL.q (op_add rfl rfl) ?_
  refine GoL.q (op_assign rfl) ?_
  refine GoL.nil .next ?_
  refine GoC.ret .here ?_
  refine done1 rfl rfl ?_
  intro w' hw
  exact ⟨rfl, hw.keep⟩
set_option maxRecDepth 20000 in
theorem may_spec (n l : Int) (w : World) :
    Calls Pr fn_inst_may #[.int .i64 n, .int .i64 l] w fun e w' => e = .returned (.bool (decide (l ≤ n) && decide (n ≤ 1000000000))) ∧ Ext w w' := by
  refine Calls.of_go (M := []) (A := fun _ => False) (args := [_, _]) fn_inst_may_f rfl rfl rfl (Holds.nil (n := 0)) ?_
  refine GoC.seq ?_
  refine GoC.region ?_
  refine GoL.q (op_assign rfl) ?_
  refine GoL.nil .next ?_
  refine GoC.seq ?_
  refine GoC.region ?_
  refine GoL.q (op_move rfl) ?_
  refine GoL.q (op_move rfl) ?_
  refine GoL.q (op_geq rfl rfl) ?_
  refine GoL.q (op_move rfl) ?_
  apply GoL.and (m := 2) (x := 10) rfl rfl rfl rfl rfl rfl rfl rfl (Wn.none rfl)
  · intro hg0
    refine GoL.q (op_move rfl) ?_ (hg := Wn.some rfl rfl rfl hg0)
    refine GoL.q (op_leq rfl rfl) ?_ (hg := Wn.some rfl rfl rfl hg0)
    exact GoL.part (k := 2) rfl rfl rfl
  refine GoL.q (op_assign rfl) ?_
  refine GoL.nil .next ?_
  refine GoC.ret .here ?_
  refine done1 rfl rfl ?_
  intro w' hw
  exact ⟨rfl, hw.keep⟩
set_option maxRecDepth 20000 in
theorem between_spec (a f t : Int) (w : World) :
    Calls Pr fn_clock_between #[.int .i64 a, .int .i64 f, .int .i64 t] w fun e w' => e = .returned (.bool (decide (f ≤ a) && decide (a ≤ t))) ∧ Ext w w' := by
  refine Calls.of_go (M := []) (A := fun _ => False) (args := [_, _, _]) fn_clock_between_f rfl rfl rfl (Holds.nil (n := 0)) ?_
  refine GoC.seq ?_
  refine GoC.region ?_
  refine GoL.q (op_assign rfl) ?_
  refine GoL.nil .next ?_
  refine GoC.seq ?_
  refine GoC.region ?_
  refine GoL.q (op_move rfl) ?_
  refine GoL.q (op_move rfl) ?_
  refine GoL.q (op_geq rfl rfl) ?_
  refine GoL.q (op_move rfl) ?_
  apply GoL.and (m := 3) (x := 13) rfl rfl rfl rfl rfl rfl rfl rfl (Wn.none rfl)
  · intro hg0
    refine GoL.q (op_move rfl) ?_ (hg := Wn.some rfl rfl rfl hg0)
    refine GoL.q (op_move rfl) ?_ (hg := Wn.some rfl rfl rfl hg0)
    refine GoL.q (op_leq rfl rfl) ?_ (hg := Wn.some rfl rfl rfl hg0)
    exact GoL.part (k := 3) rfl rfl rfl
  refine GoL.q (op_assign rfl) ?_
  refine GoL.nil .next ?_
  refine GoC.ret .here ?_
  refine done1 rfl rfl ?_
  intro w' hw
  exact ⟨rfl, hw.keep⟩
set_option maxRecDepth 20000 in
theorem in_spec (n : Int) (w : World) :
    Calls Pr fn_set_in #[.int .i64 n] w fun e w' => e = .returned (.bool (decide (0 ≤ n) && decide (n < 64))) ∧ Ext w w' := by
  refine Calls.of_go (M := []) (A := fun _ => False) (args := [_]) fn_set_in_f rfl rfl rfl (Holds.nil (n := 0)) ?_
  refine GoC.seq ?_
  refine GoC.region ?_
  refine GoL.q (op_assign rfl) ?_
  refine GoL.nil .next ?_
  refine GoC.seq ?_
  refine GoC.region ?_
  refine GoL.q (op_move rfl) ?_
  refine GoL.q (op_geq rfl rfl) ?_
  refine GoL.q (op_move rfl) ?_
  apply GoL.and (m := 2) (x := 7) rfl rfl rfl rfl rfl rfl rfl rfl (Wn.none rfl)
  · intro hg0
    refine GoL.q (op_move rfl) ?_ (hg := Wn.some rfl rfl rfl hg0)
    refine GoL.q (op_lss rfl rfl) ?_ (hg := Wn.some rfl rfl rfl hg0)
    exact GoL.part (k := 2) rfl rfl rfl
  refine GoL.q (op_assign rfl) ?_
  refine GoL.nil .next ?_
  refine GoC.ret .here ?_
  refine done1 rfl rfl ?_
  intro w' hw
  exact ⟨rfl, hw.keep⟩
set_option maxRecDepth 20000 in
theorem has_spec (s n : Int) (w : World) :
    Calls Pr fn_set_Set_Has #[.int .u64 s, .int .i64 n] w fun e w' => e = .returned (.bool ((decide (0 ≤ n) && decide (n < 64)) && decide (iand .u64 (ishr .u64 s n) 1 = 1))) ∧ Ext w w' := by
  refine Calls.of_go (M := []) (A := fun _ => False) (args := [_, _]) fn_set_Set_Has_f rfl rfl rfl (Holds.nil (n := 0)) ?_
  refine GoC.seq ?_
  refine GoC.region ?_
  refine GoL.q (op_assign rfl) ?_
  refine GoL.nil .next ?_
  refine GoC.seq ?_
  refine GoC.region ?_
  refine GoL.q (op_move rfl) ?_
  refine GoL.p (op_callP rfl fun w _ => in_spec _ w) ?_
  refine GoL.q (op_move rfl) ?_
  apply GoL.and (m := 5) (x := 12) rfl rfl rfl rfl rfl rfl rfl rfl (Wn.none rfl)
  · intro hg0
    refine GoL.q (op_move rfl) ?_ (hg := Wn.some rfl rfl rfl hg0)
    refine GoL.q (op_move rfl) ?_ (hg := Wn.some rfl rfl rfl hg0)
    refine GoL.q (op_shr rfl rfl (by simp at hg0; exact hg0.1)) ?_ (hg := Wn.some rfl rfl rfl hg0)
    refine GoL.q (op_and rfl rfl) ?_ (hg := Wn.some rfl rfl rfl hg0)
    refine GoL.q (op_eql rfl rfl) ?_ (hg := Wn.some rfl rfl rfl hg0)
    exact GoL.part (k := 5) rfl rfl rfl
  refine GoL.q (op_assign rfl) ?_
  refine GoL.nil .next ?_
  refine GoC.ret .here ?_
  refine done1 rfl rfl ?_
  intro w' hw
  exact ⟨rfl, hw.keep⟩
set_option maxRecDepth 20000 in
theorem with_spec (s n : Int) (w : World) :
    Calls Pr fn_set_Set_With #[.int .u64 s, .int .i64 n] w fun e w' => e = .returned (.int .u64 (withF s n)) ∧ Ext w w' := by
  refine Calls.of_go (M := []) (A := fun _ => False) (args := [_, _]) fn_set_Set_With_f rfl rfl rfl (Holds.nil (n := 0)) ?_
  refine GoC.seq ?_
  refine GoC.region ?_
  refine GoL.q (op_assign rfl) ?_
  refine GoL.nil .next ?_
  refine GoC.seq ?_
  refine GoC.seq ?_
  refine GoC.region ?_
  refine GoL.q (op_move rfl) ?_
  refine GoL.p (op_callP rfl fun w _ => in_spec _ w) ?_
  refine GoL.q (op_not rfl) ?_
  refine GoL.nil .next ?_
  refine GoC.cond rfl (fun hc0 => ?_) (fun hc0 => ?_)
  · refine GoC.seq ?_
    refine GoC.region ?_
    refine GoL.q (op_move rfl) ?_
    refine GoL.q (op_assign rfl) ?_
    refine GoL.nil .next ?_
    refine GoC.ret (.thenRet (.here)) ?_
    refine done1 rfl rfl ?_
    intro w' hw
    exact ⟨by rw [withF, if_neg (by simp at hc0; omega)], hw.keep⟩
  · refine GoC.skipTo .next ?_
    refine GoC.seq ?_
    refine GoC.region ?_
    refine GoL.q (op_move rfl) ?_
    refine GoL.q (op_move rfl) ?_
    refine GoL.q (op_shl rfl rfl (by simp at hc0; exact hc0.1)) ?_
    refine GoL.q (op_or rfl rfl) ?_
    refine GoL.q (op_assign rfl) ?_
    refine GoL.nil .next ?_
    refine GoC.ret .here ?_
    refine done1 rfl rfl ?_
    intro w' hw
    exact ⟨by rw [withF, if_pos (by simp at hc0; omega)], hw.keep⟩
set_option maxRecDepth 20000 in
theorem many_spec (n m : Int) (w : World) :
    Calls Pr fn_inst_Instance_Check_c1 #[.int .i64 n, .int .i64 m] w fun e w' => e = .returned (.bool (decide (1 ≤ n) && decide (n ≤ m))) ∧ Ext w w' := by
  refine Calls.of_go (M := []) (A := fun _ => False) (args := [_, _]) fn_inst_Instance_Check_c1_f rfl rfl rfl (Holds.nil (n := 0)) ?_
  refine GoC.seq ?_
  refine GoC.region ?_
  refine GoL.q (op_assign rfl) ?_
  refine GoL.nil .next ?_
  refine GoC.seq ?_
  refine GoC.region ?_
  refine GoL.q (op_move rfl) ?_
  refine GoL.q (op_geq rfl rfl) ?_
  refine GoL.q (op_move rfl) ?_
  apply GoL.and (m := 3) (x := 10) rfl rfl rfl rfl rfl rfl rfl rfl (Wn.none rfl)
  · intro hg0
    refine GoL.q (op_move rfl) ?_ (hg := Wn.some rfl rfl rfl hg0)
    refine GoL.q (op_move rfl) ?_ (hg := Wn.some rfl rfl rfl hg0)
    refine GoL.q (op_leq rfl rfl) ?_ (hg := Wn.some rfl rfl rfl hg0)
    exact GoL.part (k := 3) rfl rfl rfl
  refine GoL.q (op_assign rfl) ?_
  refine GoL.nil .next ?_
  refine GoC.ret .here ?_
  refine done1 rfl rfl ?_
  intro w' hw
  exact ⟨rfl, hw.keep⟩
set_option maxRecDepth 20000 in
theorem late1_spec (n : Int) (w : World) :
    Calls Pr fn_order_Late_c1 #[.int .i64 n] w fun e w' => e = .returned (.bool (decide (n < -1125899906842624) || decide (1125899906842624 < n))) ∧ Ext w w' := by
  refine Calls.of_go (M := []) (A := fun _ => False) (args := [_]) fn_order_Late_c1_f rfl rfl rfl (Holds.nil (n := 0)) ?_
  refine GoC.seq ?_
  refine GoC.region ?_
  refine GoL.q (op_assign rfl) ?_
  refine GoL.nil .next ?_
  refine GoC.seq ?_
  refine GoC.region ?_
  refine GoL.q (op_move rfl) ?_
  refine GoL.q (op_lss rfl rfl) ?_
  refine GoL.q (op_move rfl) ?_
  apply GoL.or (m := 2) (x := 7) rfl rfl rfl rfl rfl rfl rfl rfl (Wn.none rfl)
  · intro hg0
    refine GoL.q (op_move rfl) ?_ (hg := Wn.some rfl rfl rfl hg0)
    refine GoL.q (op_gtr rfl rfl) ?_ (hg := Wn.some rfl rfl rfl hg0)
    exact GoL.part (k := 2) rfl rfl rfl
  refine GoL.q (op_assign rfl) ?_
  refine GoL.nil .next ?_
  refine GoC.ret .here ?_
  refine done1 rfl rfl ?_
  intro w' hw
  exact ⟨rfl, hw.keep⟩
set_option maxRecDepth 20000 in
theorem ghas_spec (n i : Int) (v : Value) (h1 : v.oneCell' = true) (w : World) :
    Calls Pr fn_graph_Graph_Has #[.agg #[.int .i64 n, v], .int .i64 i] w fun e w' => e = .returned (.bool (decide (0 ≤ i) && decide (i < n))) ∧ Ext w w' := by
  refine Calls.of_go (M := []) (A := fun _ => False) (args := [_, _]) fn_graph_Graph_Has_f rfl rfl rfl (Holds.nil (n := 0)) ?_
  refine GoC.seq ?_
  refine GoC.region ?_
  refine GoL.x (op_box rfl rfl) ?_
  rintro _ _ _ ⟨b2, rfl, rfl, rfl⟩
  refine GoL.q (op_assign rfl) ?_
  refine GoL.nil .next ?_
  refine GoC.seq ?_
  refine GoC.region ?_
  refine GoL.q (op_move rfl) ?_
  refine GoL.q (op_geq rfl rfl) ?_
  refine GoL.q (op_move rfl) ?_
  apply GoL.and (m := 4) (x := 11) rfl rfl rfl rfl rfl rfl rfl rfl (Wn.none rfl)
  · intro hg0
    refine GoL.q (op_move rfl) ?_ (hg := Wn.some rfl rfl rfl hg0)
    refine GoL.q (op_fieldAddr rfl) ?_ (hg := Wn.some rfl rfl rfl hg0)
    refine GoL.q (op_load rfl rfl) ?_ (hg := Wn.some rfl rfl rfl hg0)
    refine GoL.q (op_lss rfl rfl) ?_ (hg := Wn.some rfl rfl rfl hg0)
    exact GoL.part (k := 4) rfl rfl rfl
  refine GoL.q (op_assign rfl) ?_
  refine GoL.nil .next ?_
  refine GoC.ret .here ?_
  refine done1 rfl rfl ?_
  intro w' hw
  exact ⟨rfl, hw.keep⟩
set_option maxRecDepth 20000 in
theorem ones_spec (x : Int) (w : World) :
    Calls Pr fn_math_bits_OnesCount64 #[.int .u64 x] w fun e w' => e = .returned (.int .i64 (onesF x)) ∧ Ext w w' := by
  refine Calls.of_go (M := []) (A := fun _ => False) (args := [_]) fn_math_bits_OnesCount64_f rfl rfl rfl (Holds.nil (n := 0)) ?_
  refine GoC.seq ?_
  refine GoC.region ?_
  refine GoL.q (op_assign rfl) ?_
  refine GoL.nil .next ?_
  refine GoC.seq ?_
  refine GoC.region ?_
  refine GoL.q (op_move rfl) ?_
  refine GoL.q (op_shr rfl rfl (by first | decide | omega)) ?_
  refine GoL.q (op_and rfl rfl) ?_
  refine GoL.q (op_move rfl) ?_
  refine GoL.q (op_and rfl rfl) ?_
  refine GoL.q (op_add rfl rfl) ?_
  refine GoL.q (op_assign rfl) ?_
  refine GoL.nil .next ?_
  refine GoC.seq ?_
  refine GoC.region ?_
  refine GoL.q (op_move rfl) ?_
  refine GoL.q (op_shr rfl rfl (by first | decide | omega)) ?_
  refine GoL.q (op_and rfl rfl) ?_
  refine GoL.q (op_move rfl) ?_
  refine GoL.q (op_and rfl rfl) ?_
  refine GoL.q (op_add rfl rfl) ?_
  refine GoL.q (op_assign rfl) ?_
  refine GoL.nil .next ?_
  refine GoC.seq ?_
  refine GoC.region ?_
  refine GoL.q (op_move rfl) ?_
  refine GoL.q (op_shr rfl rfl (by first | decide | omega)) ?_
  refine GoL.q (op_move rfl) ?_
  refine GoL.q (op_add rfl rfl) ?_
  refine GoL.q (op_and rfl rfl) ?_
  refine GoL.q (op_assign rfl) ?_
  refine GoL.nil .next ?_
  refine GoC.seq ?_
  refine GoC.region ?_
  refine GoL.q (op_move rfl) ?_
  refine GoL.q (op_move rfl) ?_
  refine GoL.q (op_shr rfl rfl (by first | decide | omega)) ?_
  refine GoL.q (op_add rfl rfl) ?_
  refine GoL.q (op_assign rfl) ?_
  refine GoL.nil .next ?_
  refine GoC.seq ?_
  refine GoC.region ?_
  refine GoL.q (op_move rfl) ?_
  refine GoL.q (op_move rfl) ?_
  refine GoL.q (op_shr rfl rfl (by first | decide | omega)) ?_
  refine GoL.q (op_add rfl rfl) ?_
  refine GoL.q (op_assign rfl) ?_
  refine GoL.nil .next ?_
  refine GoC.sub (E' := [(0, _), (2, _)]) ⟨rfl, rfl, trivial⟩ ?_
  refine GoC.seq ?_
  refine GoC.region ?_
  refine GoL.q (op_move rfl) ?_
  refine GoL.q (op_move rfl) ?_
  refine GoL.q (op_shr rfl rfl (by first | decide | omega)) ?_
  refine GoL.q (op_add rfl rfl) ?_
  refine GoL.q (op_assign rfl) ?_
  refine GoL.nil .next ?_
  refine GoC.seq ?_
  refine GoC.region ?_
  refine GoL.q (op_move rfl) ?_
  refine GoL.q (op_conv rfl) ?_
  refine GoL.q (op_and rfl rfl) ?_
  refine GoL.q (op_assign rfl) ?_
  refine GoL.nil .next ?_
  refine GoC.ret .here ?_
  refine done1 rfl rfl ?_
  intro w' hw
  exact ⟨rfl, hw.keep⟩
set_option maxRecDepth 20000 in
theorem len_spec (x : Int) (w : World) :
    Calls Pr fn_set_Set_Len #[.int .u64 x] w fun e w' => e = .returned (.int .i64 (onesF x)) ∧ Ext w w' := by
  refine Calls.of_go (M := []) (A := fun _ => False) (args := [_]) fn_set_Set_Len_f rfl rfl rfl (Holds.nil (n := 0)) ?_
  refine GoC.seq ?_
  refine GoC.region ?_
  refine GoL.q (op_assign rfl) ?_
  refine GoL.nil .next ?_
  refine GoC.seq ?_
  refine GoC.region ?_
  refine GoL.q (op_move rfl) ?_
  refine GoL.p (op_callP rfl fun w _ => ones_spec _ w) ?_
  refine GoL.q (op_assign rfl) ?_
  refine GoL.nil .next ?_
  refine GoC.ret .here ?_
  refine done1 rfl rfl ?_
  intro w' hw
  exact ⟨rfl, hw.keep⟩
end Go.Proofs.Ytdeacehacndopaa

namespace Go.Proofs.Ytdeacehacndopaa
open Go.RowKit

set_option maxRecDepth 20000 in
theorem square1_spec (a : Option Addr) (m c b : Nat) (n : Int) (sh : Nat → Prop) (w : World) (h : Holds ⟨0, w, [], sh⟩ [] [cells (some ⟨b, 0, none⟩) 0 [.int .i64 n]] w) :
    Calls Pr fn_inst_square_c1 #[.slice a m c, .pointer (some ⟨b, 0, none⟩)] w fun e w' => e = .returned (.bool (!decide ((m : Int) = n))) ∧ Ext w w' := by
  refine Calls.of_go (args := [_, _]) fn_inst_square_c1_f rfl rfl rfl h ?_
  refine GoC.seq ?_
  refine GoC.region ?_
  refine GoL.q (op_assign rfl) ?_
  refine GoL.nil .next ?_
  refine GoC.seq ?_
  refine GoC.region ?_
  refine GoL.q (op_move rfl) ?_
  refine GoL.q (op_len rfl) ?_
  refine GoL.q (op_loadB rfl rfl) ?_
  refine GoL.q (op_neq rfl rfl) ?_
  refine GoL.q (op_assign rfl) ?_
  refine GoL.nil .next ?_
  refine GoC.ret .here ?_
  refine done1 rfl rfl ?_
  intro w' hw
  exact ⟨rfl, hw.keep⟩
set_option maxRecDepth 20000 in
theorem indexNe_spec (l : List (List Int)) (a : Option Addr) (c b : Nat) (n : Int) (hl : l.length ≤ 9223372036854775807) (sh : Nat → Prop) (w : World) (h : Holds ⟨0, w, [], sh⟩ [] [ro (tSl t64) a c l, cells (some ⟨b, 0, none⟩) 0 [.int .i64 n]] w) :
    Calls Pr fn_slices_IndexFunc_s_s_int64_s_int64 #[.slice a l.length c, .func (.func fn_inst_square_c1) #[] #[.pointer (some ⟨b, 0, none⟩)]] w fun e w' => e = .returned (.int .i64 (idxNe n l 0)) ∧ Ext w w' := by
  refine Calls.of_go (args := [_, _]) fn_slices_IndexFunc_s_s_int64_s_int64_f rfl rfl rfl h ?_
  refine GoC.seq ?_
  refine GoC.region ?_
  refine GoL.q (op_assign rfl) ?_
  refine GoL.nil .next ?_
  refine GoC.seq ?_
  refine GoC.seq ?_
  refine GoC.region ?_
  refine GoL.q (op_move rfl) ?_
  refine GoL.q (op_len rfl) ?_
  refine GoL.q (op_move rfl) ?_
  refine GoL.nil .next ?_
  refine GoC.block ?_
  refine GoC.loop (σ := Nat) (fun s => [(8, .int .i64 (s : Int))]) [(0, _), (1, _), (7, _)] (fun s => _) (fun s => _) (fun s => s ≤ l.length ∧ idxNe n (l.drop s) s = idxNe n l 0) (fun s => l.length - s) 0 ⟨by simp, by simp⟩ ⟨rfl, rfl, rfl, rfl, trivial⟩ (fun _ h => h) ?_
  intro s ⟨hs1, hs2⟩
  refine GoC.seq ?_
  refine GoC.region ?_
  refine GoL.q (op_lss rfl rfl) ?_
  refine GoL.nil .next ?_
  refine GoC.seq ?_
  refine GoC.cond rfl (fun hc0 => ?_) (fun hc0 => ?_)
  · have hlt : s < l.length := by simpa using hc0
    refine GoC.skipTo .next ?_
    refine GoC.seq ?_
    refine GoC.block ?_
    refine GoC.seq ?_
    refine GoC.region ?_
    refine GoL.q (op_move rfl) ?_
    refine GoL.q (op_assign rfl) ?_
    refine GoL.nil .next ?_
    refine GoC.seq ?_
    refine GoC.openR (n := 1) a s hlt (fun q hq => ?_)
    refine GoC.region ?_
    refine GoL.q (op_move rfl) ?_
    refine GoL.q (op_move rfl) ?_
    refine GoL.q (op_move rfl) ?_
    refine GoL.q (op_indexR rfl rfl rfl (by first | assumption | omega)) ?_
    refine GoL.q (op_loadE rfl rfl) ?_
    refine GoL.p (op_cValV (us := [_]) (f := fn_inst_square_c1) rfl rfl (fun sh w h => square1_spec _ _ _ _ n sh w h) ) ?_
    refine GoL.nil .next ?_
    refine GoC.cond rfl (fun hc1 => ?_) (fun hc1 => ?_)
    · refine GoC.seq ?_
      refine GoC.region ?_
      refine GoL.q (op_move rfl) ?_
      refine GoL.q (op_assign rfl) ?_
      refine GoL.nil .next ?_
      refine GoC.ret (.blockRet (.thenRet (.thenRet (.blockRet (.thenRet (.here)))))) ?_
      refine done1 rfl rfl ?_
      intro w' hw
      exact ⟨by rw [List.drop_eq_getElem_cons hlt, idxNe, if_pos hc1] at hs2; rw [hs2], hw.keep⟩
    · refine GoC.skipTo (.blockNormal (.next)) ?_
      refine GoC.region ?_
      refine GoL.q (op_inc rfl (by omega)) ?_
      refine GoL.q (op_move rfl) ?_
      exact GoL.again (s + 1) ⟨by omega, by rw [List.drop_eq_getElem_cons hlt, idxNe, if_neg (by simp [hc1])] at hs2; simpa using hs2⟩ (by omega) ⟨rfl, rfl, rfl, rfl, trivial⟩
  · have hge : l.length ≤ s := by simpa using hc0
    refine GoC.exit (.thenExit (.thenExit (.blockSame (.next)))) ?_
    refine GoC.seq ?_
    refine GoC.region ?_
    refine GoL.q (op_assign rfl) ?_
    refine GoL.nil .next ?_
    refine GoC.ret .here ?_
    refine done1 rfl rfl ?_
    intro w' hw
    exact ⟨by rw [List.drop_of_length_le hge, idxNe] at hs2; rw [← hs2], hw.keep⟩
set_option maxRecDepth 20000 in
theorem containsNe_spec (l : List (List Int)) (a : Option Addr) (c b : Nat) (n : Int) (hl : l.length ≤ 9223372036854775807) (sh : Nat → Prop) (w : World) (h : Holds ⟨0, w, [], sh⟩ [] [ro (tSl t64) a c l, cells (some ⟨b, 0, none⟩) 0 [.int .i64 n]] w) :
    Calls Pr fn_slices_ContainsFunc_s_s_int64_s_int64 #[.slice a l.length c, .func (.func fn_inst_square_c1) #[] #[.pointer (some ⟨b, 0, none⟩)]] w fun e w' => e = .returned (.bool (decide (0 ≤ idxNe n l 0))) ∧ Ext w w' := by
  refine Calls.of_go (args := [_, _]) fn_slices_ContainsFunc_s_s_int64_s_int64_f rfl rfl rfl h ?_
  refine GoC.seq ?_
  refine GoC.region ?_
  refine GoL.q (op_assign rfl) ?_
  refine GoL.nil .next ?_
  refine GoC.seq ?_
  refine GoC.region ?_
  refine GoL.q (op_move rfl) ?_
  refine GoL.q (op_move rfl) ?_
  refine GoL.p (op_callV rfl (fun sh w h => indexNe_spec l a c b n hl sh w h)) ?_
  refine GoL.q (op_geq rfl rfl) ?_
  refine GoL.q (op_assign rfl) ?_
  refine GoL.nil .next ?_
  refine GoC.ret .here ?_
  refine done1 rfl rfl ?_
  intro w' hw
  exact ⟨rfl, hw.keep⟩
set_option maxRecDepth 20000 in
theorem square_spec (l : List (List Int)) (a : Option Addr) (c : Nat) (n : Int) (hl : l.length ≤ 9223372036854775807) (sh : Nat → Prop) (w : World) (h : Holds ⟨0, w, [], sh⟩ [] [ro (tSl t64) a c l] w) :
    Calls Pr fn_inst_square #[.slice a l.length c, .int .i64 n] w fun e w' => e = .returned (.bool (squareF l n)) ∧ Ext w w' := by
  refine Calls.of_go (args := [_, _]) fn_inst_square_f rfl rfl rfl h ?_
  refine GoC.seq ?_
  refine GoC.region ?_
  refine GoL.x (op_box rfl rfl) ?_
  rintro _ _ _ ⟨b3, rfl, rfl, rfl⟩
  refine GoL.q (op_assign rfl) ?_
  refine GoL.nil .next ?_
  refine GoC.seq ?_
  refine GoC.shareCel b3 ?_
  refine GoC.region ?_
  refine GoL.q (op_move rfl) ?_
  refine GoL.q (op_len rfl) ?_
  refine GoL.q (op_loadB rfl rfl) ?_
  refine GoL.q (op_eql rfl rfl) ?_
  refine GoL.q (op_move rfl) ?_
  apply GoL.and (m := 4) (x := 13) rfl rfl rfl rfl rfl rfl rfl rfl (Wn.none rfl)
  · intro hg0
    refine GoL.q (op_move rfl) ?_ (hg := Wn.some rfl rfl rfl hg0)
    refine GoL.q (op_makeFunc rfl rfl) ?_ (hg := Wn.some rfl rfl rfl hg0)
    refine GoL.p (op_callV rfl (fun sh w h => containsNe_spec l a c b3 n hl sh w h)) ?_ (hg := Wn.some rfl rfl rfl hg0)
    refine GoL.q (op_not rfl) ?_ (hg := Wn.some rfl rfl rfl hg0)
    exact GoL.part (k := 4) rfl rfl rfl
  refine GoL.q (op_assign rfl) ?_
  refine GoL.nil .next ?_
  refine GoC.ret .here ?_
  refine done1 rfl rfl ?_
  intro w' hw
  exact ⟨rfl, hw.keep⟩
set_option maxRecDepth 20000 in
theorem numbers_spec (x : Instance) (p : HI) (hI : OkI x) (sh : Nat → Prop) (w : World) (h : Holds ⟨0, w, [], sh⟩ [] (rI x p []) w) :
    Calls Pr fn_inst_Instance_numbers #[.agg (cI x p).toArray] w fun e w' => e = .returned (.bool (numbersF x)) ∧ Ext w w' := by
  have g1 := hI.s
  have g2 := hI.u
  have g3 := hI.k
  have g4 := hI.t
  unfold maxLen at g1 g2 g3 g4
  refine Calls.of_go (args := [_]) fn_inst_Instance_numbers_f rfl rfl rfl h ?_
  refine GoC.seq ?_
  refine GoC.region ?_
  refine GoL.x (op_box rfl rfl) ?_
  rintro _ _ _ ⟨b1, rfl, rfl, rfl⟩
  refine GoL.q (op_assign rfl) ?_
  refine GoL.nil .next ?_
  refine GoC.seq ?_
  refine GoC.region ?_
  refine GoL.q (op_fieldAddr rfl) ?_
  refine GoL.q (op_load rfl rfl) ?_
  refine GoL.p (op_callP rfl fun w _ => may_spec _ _ w) ?_
  refine GoL.q (op_move rfl) ?_
  apply GoL.and (m := 4) (x := 21) rfl rfl rfl rfl rfl rfl rfl rfl (Wn.none rfl)
  · intro hg0
    refine GoL.q (op_fieldAddr rfl) ?_ (hg := Wn.some rfl rfl rfl hg0)
    refine GoL.q (op_fieldAddr rfl) ?_ (hg := Wn.some rfl rfl rfl hg0)
    refine GoL.q (op_load rfl rfl) ?_ (hg := Wn.some rfl rfl rfl hg0)
    refine GoL.p (op_callP rfl fun w _ => may_spec _ _ w) ?_ (hg := Wn.some rfl rfl rfl hg0)
    exact GoL.part (k := 4) rfl rfl rfl
  refine GoL.q (op_move rfl) ?_
  apply GoL.and (m := 4) (x := 27) rfl rfl rfl rfl rfl rfl rfl rfl (Wn.none rfl)
  · intro hg1
    refine GoL.q (op_fieldAddr rfl) ?_ (hg := Wn.some rfl rfl rfl hg1)
    refine GoL.q (op_fieldAddr rfl) ?_ (hg := Wn.some rfl rfl rfl hg1)
    refine GoL.q (op_load rfl rfl) ?_ (hg := Wn.some rfl rfl rfl hg1)
    refine GoL.p (op_callP rfl fun w _ => may_spec _ _ w) ?_ (hg := Wn.some rfl rfl rfl hg1)
    exact GoL.part (k := 4) rfl rfl rfl
  refine GoL.q (op_assign rfl) ?_
  refine GoL.nil .next ?_
  refine GoC.seq ?_
  refine GoC.seq ?_
  refine GoC.region ?_
  refine GoL.q (op_fieldAddr rfl) ?_
  refine GoL.q (op_load rfl rfl) ?_
  refine GoL.q (op_len rfl) ?_
  refine GoL.q (op_move rfl) ?_
  refine GoL.nil .next ?_
  refine GoC.block ?_
  refine GoC.loop (σ := Nat × Bool) (fun s => [(32, .int .i64 (s.1 : Int)), (3, .bool s.2)]) [(1, _), (30, _), (31, _)] (fun s => _) (fun s => _) (fun s => s.1 ≤ x.Sats.length ∧ (x.Sats.drop s.1).foldl satsF s.2 = numS x) (fun s => x.Sats.length - s.1) (0, _) ⟨by simp, rfl⟩ ⟨rfl, rfl, rfl, rfl, rfl, trivial⟩ (fun _ h => h) ?_
  intro s ⟨hs1, hs2⟩
  refine GoC.seq ?_
  refine GoC.region ?_
  refine GoL.q (op_lss rfl rfl) ?_
  refine GoL.nil .next ?_
  refine GoC.seq ?_
  refine GoC.cond rfl (fun hc2 => ?_) (fun hc2 => ?_)
  · have hlt : s.1 < x.Sats.length := by simpa using hc2
    refine GoC.skipTo .next ?_
    refine GoC.seq ?_
    refine GoC.block ?_
    refine GoC.seq ?_
    refine GoC.openR (n := 2) p.s.1 s.1 hlt (fun q hq => ?_)
    refine GoC.region ?_
    refine GoL.q (op_indexR rfl rfl rfl (by first | assumption | omega)) ?_
    refine GoL.q (op_loadEA rfl rfl) ?_
    refine GoL.x (op_alloc) ?_
    rintro _ _ _ ⟨b5, rfl, rfl, rfl⟩
    refine GoL.y0 (op_store rfl rfl rfl rfl (by simp [Value.oneCell']) (Nat.le_of_ble_eq_true rfl) rfl) ?_
    rintro _ _ _ ⟨rfl, rfl, rfl⟩
    refine GoL.nil .next ?_
    refine GoC.region ?_
    refine GoL.q (op_move rfl) ?_
    refine GoL.q (op_move rfl) ?_
    apply GoL.and (m := 3) (x := 40) rfl rfl rfl rfl rfl rfl rfl rfl (Wn.none rfl)
    · intro hg3
      refine GoL.q (op_fieldAddr rfl) ?_ (hg := Wn.some rfl rfl rfl hg3)
      refine GoL.q (op_load rfl rfl) ?_ (hg := Wn.some rfl rfl rfl hg3)
      refine GoL.p (op_callP rfl fun w _ => may_spec _ _ w) ?_ (hg := Wn.some rfl rfl rfl hg3)
      exact GoL.part (k := 3) rfl rfl rfl
    refine GoL.q (op_move rfl) ?_
    apply GoL.and (m := 3) (x := 45) rfl rfl rfl rfl rfl rfl rfl rfl (Wn.none rfl)
    · intro hg4
      refine GoL.q (op_fieldAddr rfl) ?_ (hg := Wn.some rfl rfl rfl hg4)
      refine GoL.q (op_load rfl rfl) ?_ (hg := Wn.some rfl rfl rfl hg4)
      refine GoL.p (op_callP rfl fun w _ => may_spec _ _ w) ?_ (hg := Wn.some rfl rfl rfl hg4)
      exact GoL.part (k := 3) rfl rfl rfl
    refine GoL.q (op_assign rfl) ?_
    refine GoL.nil (.blockNormal (.next)) ?_
    refine GoC.region ?_
    refine GoL.q (op_inc rfl (by omega)) ?_
    refine GoL.q (op_move rfl) ?_
    exact GoL.again (s.1 + 1, _) ⟨by omega, by rw [List.drop_eq_getElem_cons hlt, List.foldl_cons] at hs2; exact hs2⟩ (by simp only; omega) ⟨rfl, rfl, rfl, rfl, rfl, trivial⟩
  · have hge : x.Sats.length ≤ s.1 := by simpa using hc2
    refine GoC.exit (.thenExit (.thenExit (.blockSame (.next)))) ?_
    refine GoC.seq ?_
    refine GoC.seq ?_
    refine GoC.region ?_
    refine GoL.q (op_fieldAddr rfl) ?_
    refine GoL.q (op_load rfl rfl) ?_
    refine GoL.q (op_len rfl) ?_
    refine GoL.q (op_move rfl) ?_
    refine GoL.nil .next ?_
    refine GoC.block ?_
    have e1 : s.2 = numS x := by rw [← hs2, List.drop_of_length_le hge]; rfl
    refine GoC.loop (σ := Nat × Bool) (fun s2 => [(51, .int .i64 (s2.1 : Int)), (3, .bool s2.2)]) [(1, _), (49, _), (50, _)] (fun s2 => _) (fun s2 => _) (fun s2 => s2.1 ≤ x.Customers.length ∧ (x.Customers.drop s2.1).foldl custF s2.2 = numC x) (fun s2 => x.Customers.length - s2.1) (0, _) ⟨by simp, by rw [e1]; rfl⟩ ⟨rfl, rfl, rfl, rfl, rfl, trivial⟩ (fun _ h => h) ?_
    intro s2 ⟨hs21, hs22⟩
    refine GoC.seq ?_
    refine GoC.region ?_
    refine GoL.q (op_lss rfl rfl) ?_
    refine GoL.nil .next ?_
    refine GoC.seq ?_
    refine GoC.cond rfl (fun hc5 => ?_) (fun hc5 => ?_)
    · have hlt : s2.1 < x.Customers.length := by simpa using hc5
      refine GoC.skipTo .next ?_
      refine GoC.seq ?_
      refine GoC.block ?_
      refine GoC.seq ?_
      refine GoC.openR (n := 4) p.u.1 s2.1 hlt (fun q hq => ?_)
      refine GoC.region ?_
      refine GoL.q (op_indexR rfl rfl rfl (by first | assumption | omega)) ?_
      refine GoL.q (op_loadEA rfl rfl) ?_
      refine GoL.x (op_alloc) ?_
      rintro _ _ _ ⟨b7, rfl, rfl, rfl⟩
      refine GoL.y0 (op_store rfl rfl rfl rfl (by simp [Value.oneCell']) (Nat.le_of_ble_eq_true rfl) rfl) ?_
      rintro _ _ _ ⟨rfl, rfl, rfl⟩
      refine GoL.nil .next ?_
      refine GoC.region ?_
      refine GoL.q (op_move rfl) ?_
      refine GoL.q (op_move rfl) ?_
      apply GoL.and (m := 3) (x := 59) rfl rfl rfl rfl rfl rfl rfl rfl (Wn.none rfl)
      · intro hg6
        refine GoL.q (op_fieldAddr rfl) ?_ (hg := Wn.some rfl rfl rfl hg6)
        refine GoL.q (op_load rfl rfl) ?_ (hg := Wn.some rfl rfl rfl hg6)
        refine GoL.p (op_callP rfl fun w _ => may_spec _ _ w) ?_ (hg := Wn.some rfl rfl rfl hg6)
        exact GoL.part (k := 3) rfl rfl rfl
      refine GoL.q (op_move rfl) ?_
      apply GoL.and (m := 3) (x := 64) rfl rfl rfl rfl rfl rfl rfl rfl (Wn.none rfl)
      · intro hg7
        refine GoL.q (op_fieldAddr rfl) ?_ (hg := Wn.some rfl rfl rfl hg7)
        refine GoL.q (op_load rfl rfl) ?_ (hg := Wn.some rfl rfl rfl hg7)
        refine GoL.p (op_callP rfl fun w _ => may_spec _ _ w) ?_ (hg := Wn.some rfl rfl rfl hg7)
        exact GoL.part (k := 3) rfl rfl rfl
      refine GoL.q (op_move rfl) ?_
      apply GoL.and (m := 5) (x := 71) rfl rfl rfl rfl rfl rfl rfl rfl (Wn.none rfl)
      · intro hg8
        refine GoL.q (op_fieldAddr rfl) ?_ (hg := Wn.some rfl rfl rfl hg8)
        refine GoL.q (op_load rfl rfl) ?_ (hg := Wn.some rfl rfl rfl hg8)
        refine GoL.q (op_fieldAddr rfl) ?_ (hg := Wn.some rfl rfl rfl hg8)
        refine GoL.q (op_load rfl rfl) ?_ (hg := Wn.some rfl rfl rfl hg8)
        refine GoL.p (op_callP rfl fun w _ => may_spec _ _ w) ?_ (hg := Wn.some rfl rfl rfl hg8)
        exact GoL.part (k := 5) rfl rfl rfl
      refine GoL.q (op_move rfl) ?_
      apply GoL.and (m := 3) (x := 76) rfl rfl rfl rfl rfl rfl rfl rfl (Wn.none rfl)
      · intro hg9
        refine GoL.q (op_fieldAddr rfl) ?_ (hg := Wn.some rfl rfl rfl hg9)
        refine GoL.q (op_load rfl rfl) ?_ (hg := Wn.some rfl rfl rfl hg9)
        refine GoL.p (op_callP rfl fun w _ => may_spec _ _ w) ?_ (hg := Wn.some rfl rfl rfl hg9)
        exact GoL.part (k := 3) rfl rfl rfl
      refine GoL.q (op_assign rfl) ?_
      refine GoL.nil (.blockNormal (.next)) ?_
      refine GoC.region ?_
      refine GoL.q (op_inc rfl (by omega)) ?_
      refine GoL.q (op_move rfl) ?_
      exact GoL.again (s2.1 + 1, _) ⟨by omega, by rw [List.drop_eq_getElem_cons hlt, List.foldl_cons] at hs22; exact hs22⟩ (by simp only; omega) ⟨rfl, rfl, rfl, rfl, rfl, trivial⟩
    · have hge : x.Customers.length ≤ s2.1 := by simpa using hc5
      refine GoC.exit (.thenExit (.thenExit (.blockSame (.next)))) ?_
      refine GoC.seq ?_
      refine GoC.seq ?_
      refine GoC.region ?_
      refine GoL.q (op_fieldAddr rfl) ?_
      refine GoL.q (op_load rfl rfl) ?_
      refine GoL.q (op_fieldAddr rfl) ?_
      refine GoL.q (op_load rfl rfl) ?_
      refine GoL.q (op_build1 ([.slice p.k.1 x.Cost.length p.k.2, .slice p.t.1 x.Time.length p.t.2]) rfl rfl) ?_
      refine GoL.q (op_move rfl) ?_
      refine GoL.nil .next ?_
      refine GoC.block ?_
      have e2 : s2.2 = numC x := by rw [← hs22, List.drop_of_length_le hge]; rfl
      refine GoC.loop (σ := Nat × Bool) (fun s3 => [(84, .int .i64 (s3.1 : Int)), (3, .bool s3.2)]) [(83, _)] (fun s3 => _) (fun s3 => _) (fun s3 => s3.1 ≤ 2 ∧ numI x s3.1 s3.2) (fun s3 => 2 - s3.1) (0, _) ⟨by simp, by rw [e2]; rfl⟩ ⟨rfl, rfl, rfl, trivial⟩ (fun _ h => h) ?_
      intro s3 ⟨hs31, hs32⟩
      refine GoC.seq ?_
      refine GoC.region ?_
      refine GoL.q (op_lss rfl rfl) ?_
      refine GoL.nil .next ?_
      refine GoC.seq ?_
      refine GoC.cond rfl (fun hc10 => ?_) (fun hc10 => ?_)
      · have hlt3 : s3.1 < 2 := by have := of_decide_eq_true hc10; omega
        refine GoC.skipTo .next ?_
        refine GoC.seq ?_
        refine GoC.block ?_
        refine GoC.seq ?_
        obtain ⟨M, hd, hM1, hM2, hM3, hM4⟩ : ∃ (M : List (List Int)) (hd : Hdr), ([Value.slice p.k.1 x.Cost.length p.k.2, .slice p.t.1 x.Time.length p.t.2][s3.1]? = some (.slice hd.1 M.length hd.2)) ∧ ((M, hd) = (x.Cost, p.k) ∨ (M, hd) = (x.Time, p.t)) ∧ M.length ≤ 9223372036854775807 ∧ numI x (s3.1 + 1) (matF M 0 s3.2) := by
          obtain h0 | h0 : s3.1 = 0 ∨ s3.1 = 1 := by omega
          · exact ⟨x.Cost, p.k, by rw [h0]; rfl, .inl rfl, g3, by rw [h0] at hs32 ⊢; simp only [numI] at hs32 ⊢; rw [hs32]⟩
          · exact ⟨x.Time, p.t, by rw [h0]; rfl, .inr rfl, g4, by rw [h0] at hs32 ⊢; simp only [numI] at hs32 ⊢; rw [hs32]; rfl⟩
        refine GoC.mem (fun w hw => hw.more (r := ro (tSl t64) hd.1 hd.2 M) (fun sh hm => ?_)) ?_
        · rcases hM2 with hM2 | hM2 <;> (simp only [Prod.mk.injEq] at hM2; obtain ⟨rfl, rfl⟩ := hM2; exact hm.facts _ (by simp [rI]))
        refine GoC.region ?_
        refine GoL.q (op_indexA rfl rfl (by omega) hM1 rfl) ?_
        refine GoL.q (op_assign rfl) ?_
        refine GoL.nil .next ?_
        refine GoC.seq ?_
        refine GoC.region ?_
        refine GoL.q (op_move rfl) ?_
        refine GoL.q (op_len rfl) ?_
        refine GoL.q (op_move rfl) ?_
        refine GoL.nil .next ?_
        refine GoC.block ?_
        refine GoC.loop (σ := Nat × Bool) (fun s4 => [(89, .int .i64 (s4.1 : Int)), (3, .bool s4.2)]) [(84, _), (83, _), (87, _), (88, _)] (fun s4 => _) (fun s4 => _) (fun s4 => s4.1 ≤ M.length ∧ matF (M.drop s4.1) s4.1 s4.2 = matF M 0 s3.2) (fun s4 => M.length - s4.1) (0, _) ⟨by simp, rfl⟩ ⟨rfl, rfl, rfl, rfl, rfl, rfl, trivial⟩ (fun _ h => h) ?_
        intro s4 ⟨hs41, hs42⟩
        refine GoC.seq ?_
        refine GoC.region ?_
        refine GoL.q (op_lss rfl rfl) ?_
        refine GoL.nil .next ?_
        refine GoC.seq ?_
        refine GoC.cond rfl (fun hc11 => ?_) (fun hc11 => ?_)
        · have hlt4 : s4.1 < M.length := by simpa using hc11
          refine GoC.skipTo .next ?_
          refine GoC.seq ?_
          refine GoC.block ?_
          refine GoC.seq ?_
          refine GoC.openR (n := 1) hd.1 s4.1 hlt4 (fun q hq => ?_)
          refine GoC.region ?_
          refine GoL.q (op_move rfl) ?_
          refine GoL.q (op_indexR rfl rfl rfl (by first | assumption | omega)) ?_
          refine GoL.q (op_loadE rfl rfl) ?_
          refine GoL.q (op_assign rfl) ?_
          refine GoL.q (op_assign rfl) ?_
          refine GoL.nil .next ?_
          refine GoC.seq ?_
          refine GoC.region ?_
          refine GoL.q (op_move rfl) ?_
          refine GoL.q (op_len rfl) ?_
          refine GoL.q (op_move rfl) ?_
          refine GoL.nil .next ?_
          refine GoC.block ?_
          refine GoC.loop (σ := Nat × Bool) (fun s5 => [(96, .int .i64 (s5.1 : Int)), (3, .bool s5.2)]) [(89, _), (84, _), (83, _), (87, _), (88, _), (10, _), (94, _), (95, _)] (fun s5 => _) (fun s5 => _) (fun s5 => s5.1 ≤ M[s4.1].length ∧ rowF s4.1 (M[s4.1].drop s5.1) s5.1 s5.2 = rowF s4.1 M[s4.1] 0 s4.2) (fun s5 => M[s4.1].length - s5.1) (0, _) ⟨by simp, rfl⟩ ⟨rfl, rfl, rfl, rfl, rfl, rfl, rfl, rfl, rfl, rfl, trivial⟩ (fun _ h => h) ?_
          intro s5 ⟨hs51, hs52⟩
          refine GoC.seq ?_
          refine GoC.region ?_
          refine GoL.q (op_lss rfl rfl) ?_
          refine GoL.nil .next ?_
          refine GoC.seq ?_
          refine GoC.cond rfl (fun hc12 => ?_) (fun hc12 => ?_)
          · have hlt5 : s5.1 < M[s4.1].length := by simpa using hc12
            refine GoC.skipTo .next ?_
            refine GoC.seq ?_
            refine GoC.block ?_
            refine GoC.seq ?_
            refine GoC.openR (n := 1) q.1 s5.1 hlt5 (fun _ hq5 => ?_)
            refine GoC.region ?_
            refine GoL.q (op_move rfl) ?_
            refine GoL.q (op_indexR rfl rfl rfl (by first | assumption | omega)) ?_
            refine GoL.q (op_loadE rfl rfl) ?_
            refine GoL.q (op_assign rfl) ?_
            refine GoL.q (op_assign rfl) ?_
            refine GoL.nil .next ?_
            refine GoC.region ?_
            refine GoL.q (op_move rfl) ?_
            refine GoL.q (op_move rfl) ?_
            apply GoL.and (m := 2) (x := 104) rfl rfl rfl rfl rfl rfl rfl rfl (Wn.none rfl)
            · intro hg13
              refine GoL.q (op_move rfl) ?_ (hg := Wn.some rfl rfl rfl hg13)
              refine GoL.p (op_callP rfl fun w _ => may_spec _ _ w) ?_ (hg := Wn.some rfl rfl rfl hg13)
              exact GoL.part (k := 2) rfl rfl rfl
            refine GoL.q (op_move rfl) ?_
            apply GoL.and (m := 7) (x := 113) rfl rfl rfl rfl rfl rfl rfl rfl (Wn.none rfl)
            · intro hg14
              refine GoL.q (op_move rfl) ?_ (hg := Wn.some rfl rfl rfl hg14)
              refine GoL.q (op_move rfl) ?_ (hg := Wn.some rfl rfl rfl hg14)
              refine GoL.q (op_neq rfl rfl) ?_ (hg := Wn.some rfl rfl rfl hg14)
              refine GoL.q (op_move rfl) ?_ (hg := Wn.some rfl rfl rfl hg14)
              apply GoL.or (m := 2) (x := 112) rfl rfl rfl rfl rfl rfl rfl rfl (Wn.some rfl rfl rfl hg14)
              · intro hg15
                refine GoL.q (op_move rfl) ?_ (hg := Wn.some rfl rfl rfl hg15)
                refine GoL.q (op_eql rfl rfl) ?_ (hg := Wn.some rfl rfl rfl hg15)
                exact GoL.part (k := 2) rfl rfl rfl
              exact GoL.part (k := 5) rfl rfl rfl
            refine GoL.q (op_assign rfl) ?_
            refine GoL.nil (.blockNormal (.next)) ?_
            refine GoC.region ?_
            refine GoL.q (op_inc rfl (by omega)) ?_
            refine GoL.q (op_move rfl) ?_
            exact GoL.again (s5.1 + 1, _) ⟨by omega, by rw [List.drop_eq_getElem_cons hlt5, rowF] at hs52; exact hs52⟩ (by simp only; omega) ⟨rfl, rfl, rfl, rfl, rfl, rfl, rfl, rfl, rfl, rfl, trivial⟩
          · have hge5 : M[s4.1].length ≤ s5.1 := by simpa using hc12
            refine GoC.exit (.thenExit (.thenExit (.blockSame (.blockNormal (.next))))) ?_
            refine GoC.region ?_
            refine GoL.q (op_inc rfl (by omega)) ?_
            refine GoL.q (op_move rfl) ?_
            exact GoL.again (s4.1 + 1, s5.2) ⟨by omega, by rw [List.drop_eq_getElem_cons hlt4, matF, ← hs52, List.drop_of_length_le hge5] at hs42; exact hs42⟩ (by simp only; omega) ⟨rfl, rfl, rfl, rfl, rfl, rfl, trivial⟩
        · have hge4 : M.length ≤ s4.1 := by simpa using hc11
          refine GoC.exit (.thenExit (.thenExit (.blockSame (.blockNormal (.next))))) ?_
          refine GoC.region ?_
          refine GoL.q (op_inc rfl (by omega)) ?_
          refine GoL.q (op_move rfl) ?_
          exact GoL.again (s3.1 + 1, s4.2) ⟨by omega, by rw [← hs42, List.drop_of_length_le hge4] at hM4; exact hM4⟩ (by simp only; omega) ⟨rfl, rfl, rfl, trivial⟩
      · have hge : 2 ≤ s3.1 := by have := of_decide_eq_false hc10; omega
        refine GoC.exit (.thenExit (.thenExit (.blockSame (.next)))) ?_
        refine GoC.seq ?_
        refine GoC.region ?_
        refine GoL.q (op_move rfl) ?_
        refine GoL.q (op_assign rfl) ?_
        refine GoL.nil .next ?_
        refine GoC.ret .here ?_
        refine done1 rfl rfl ?_
        intro w' hw
        have e3 : s3.1 = 2 := by omega
        rw [e3] at hs32
        exact ⟨by rw [show s3.2 = numbersF x from hs32], hw.keep⟩
set_option maxRecDepth 20000 in
theorem instCheck_spec (x : Instance) (p : HI) (hI : OkI x) (sh : Nat → Prop) (w : World) (h : Holds ⟨0, w, [], sh⟩ [] (rI x p []) w) :
    Calls Pr fn_inst_Instance_Check #[.agg (cI x p).toArray] w fun e w' => e = .returned (.int .i64 (instCheckF x)) ∧ Ext w w' := by
  refine Calls.of_go (args := [_]) fn_inst_Instance_Check_f rfl rfl rfl h ?_
  refine GoC.seq ?_
  refine GoC.region ?_
  refine GoL.x (op_box rfl rfl) ?_
  rintro _ _ _ ⟨b1, rfl, rfl, rfl⟩
  refine GoL.q (op_assign rfl) ?_
  refine GoL.nil .next ?_
  refine GoC.seq ?_
  refine GoC.region ?_
  refine GoL.q (op_assign rfl) ?_
  refine GoL.nil .next ?_
  refine GoC.seq ?_
  refine GoC.block ?_
  refine GoC.seq ?_
  refine GoC.region ?_
  refine GoL.q (op_move rfl) ?_
  refine GoL.q (op_fieldAddr rfl) ?_
  refine GoL.q (op_fieldAddr rfl) ?_
  refine GoL.q (op_load rfl rfl) ?_
  refine GoL.p (op_cValP (f := fn_inst_Instance_Check_c1) (us := []) rfl rfl fun w _ => many_spec _ _ w) ?_
  refine GoL.q (op_not rfl) ?_
  refine GoL.q (op_move rfl) ?_
  apply GoL.or (m := 6) (x := 17) rfl rfl rfl rfl rfl rfl rfl rfl (Wn.none rfl)
  · intro hg0
    refine GoL.q (op_move rfl) ?_ (hg := Wn.some rfl rfl rfl hg0)
    refine GoL.q (op_fieldAddr rfl) ?_ (hg := Wn.some rfl rfl rfl hg0)
    refine GoL.q (op_fieldAddr rfl) ?_ (hg := Wn.some rfl rfl rfl hg0)
    refine GoL.q (op_load rfl rfl) ?_ (hg := Wn.some rfl rfl rfl hg0)
    refine GoL.p (op_cValP (f := fn_inst_Instance_Check_c1) (us := []) rfl rfl fun w _ => many_spec _ _ w) ?_ (hg := Wn.some rfl rfl rfl hg0)
    refine GoL.q (op_not rfl) ?_ (hg := Wn.some rfl rfl rfl hg0)
    exact GoL.part (k := 6) rfl rfl rfl
  refine GoL.q (op_move rfl) ?_
  apply GoL.or (m := 6) (x := 25) rfl rfl rfl rfl rfl rfl rfl rfl (Wn.none rfl)
  · intro hg1
    refine GoL.q (op_move rfl) ?_ (hg := Wn.some rfl rfl rfl hg1)
    refine GoL.q (op_fieldAddr rfl) ?_ (hg := Wn.some rfl rfl rfl hg1)
    refine GoL.q (op_load rfl rfl) ?_ (hg := Wn.some rfl rfl rfl hg1)
    refine GoL.q (op_len rfl) ?_ (hg := Wn.some rfl rfl rfl hg1)
    refine GoL.p (op_cValP (f := fn_inst_Instance_Check_c1) (us := []) rfl rfl fun w _ => many_spec _ _ w) ?_ (hg := Wn.some rfl rfl rfl hg1)
    refine GoL.q (op_not rfl) ?_ (hg := Wn.some rfl rfl rfl hg1)
    exact GoL.part (k := 6) rfl rfl rfl
  refine GoL.q (op_move rfl) ?_
  apply GoL.or (m := 6) (x := 33) rfl rfl rfl rfl rfl rfl rfl rfl (Wn.none rfl)
  · intro hg2
    refine GoL.q (op_move rfl) ?_ (hg := Wn.some rfl rfl rfl hg2)
    refine GoL.q (op_fieldAddr rfl) ?_ (hg := Wn.some rfl rfl rfl hg2)
    refine GoL.q (op_load rfl rfl) ?_ (hg := Wn.some rfl rfl rfl hg2)
    refine GoL.q (op_len rfl) ?_ (hg := Wn.some rfl rfl rfl hg2)
    refine GoL.p (op_cValP (f := fn_inst_Instance_Check_c1) (us := []) rfl rfl fun w _ => many_spec _ _ w) ?_ (hg := Wn.some rfl rfl rfl hg2)
    refine GoL.q (op_not rfl) ?_ (hg := Wn.some rfl rfl rfl hg2)
    exact GoL.part (k := 6) rfl rfl rfl
  refine GoL.q (op_assign rfl) ?_
  refine GoL.nil .next ?_
  refine GoC.cond rfl (fun hc3 => ?_) (fun hc3 => ?_)
  · refine GoC.seq ?_
    refine GoC.region ?_
    refine GoL.q (op_assign rfl) ?_
    refine GoL.nil .next ?_
    refine GoC.ret (.blockRet (.thenRet (.here))) ?_
    refine done1 rfl rfl ?_
    intro w' hw
    have e : instCheckF x = 9 := if_pos hc3
    exact ⟨by rw [e], hw.keep⟩
  · refine GoC.seq ?_
    refine GoC.draw 14 [] [0, 1, 2, 3, 4, 5, 6, 7, 8, 9, 10, 11, 12, 13] (by kernel_rfl) Pr_mixed ?_
    refine Can.q rfl (op_fieldAddr rfl) ?_
    refine Can.q rfl (op_load rfl rfl) ?_
    refine Can.q rfl (op_loadA rfl rfl rfl) ?_
    refine Can.p rfl (op_callP rfl fun w _ => nodes_spec x p w) ?_
    refine Can.p rfl (op_callV rfl (fun sh w h => square_spec x.Cost p.k.1 p.k.2 _ hI.k sh w h)) ?_
    refine Can.q rfl (op_not rfl) ?_
    refine Can.q rfl (op_move rfl) ?_
    apply Can.or (x := 48) (l1 := [7, 8, 9, 10, 11, 12]) rfl rfl rfl rfl rfl rfl rfl rfl rfl (Wn.none rfl)
    · intro hg4 r' k'
      refine Can.q rfl (op_fieldAddr rfl) ?_ (hw := Wn.some rfl rfl rfl hg4)
      refine Can.q rfl (op_load rfl rfl) ?_ (hw := Wn.some rfl rfl rfl hg4)
      refine Can.q rfl (op_loadA rfl rfl rfl) ?_ (hw := Wn.some rfl rfl rfl hg4)
      refine Can.p rfl (op_callP rfl fun w _ => nodes_spec x p w) ?_ (hw := Wn.some rfl rfl rfl hg4)
      refine Can.p rfl (op_callV rfl (fun sh w h => square_spec x.Time p.t.1 p.t.2 _ hI.t sh w h)) ?_ (hw := Wn.some rfl rfl rfl hg4)
      refine Can.q rfl (op_not rfl) ?_ (hw := Wn.some rfl rfl rfl hg4)
      exact k' _ (Le.part (k := 6) rfl rfl rfl)
    refine Can.nil rfl ?_
    refine GoL.q (op_assign rfl) ?_
    refine GoL.nil .next ?_
    refine GoC.cond rfl (fun hc5 => ?_) (fun hc5 => ?_)
    · refine GoC.seq ?_
      refine GoC.region ?_
      refine GoL.q (op_assign rfl) ?_
      refine GoL.nil .next ?_
      refine GoC.ret (.blockRet (.thenRet (.here))) ?_
      refine done1 rfl rfl ?_
      intro w' hw
      have e : instCheckF x = 4 := (if_neg (Bool.eq_false_iff.1 hc3)).trans (if_pos hc5)
      exact ⟨by rw [e], hw.keep⟩
    · refine GoC.seq ?_
      refine GoC.region ?_
      refine GoL.q (op_loadA rfl rfl rfl) ?_
      refine GoL.p (op_callV rfl (fun sh w h => numbers_spec x p hI sh w h)) ?_
      refine GoL.q (op_not rfl) ?_
      refine GoL.q (op_assign rfl) ?_
      refine GoL.nil .next ?_
      refine GoC.sub (E' := [(2, _), (50, _)]) ⟨rfl, rfl, trivial⟩ ?_
      refine GoC.cond rfl (fun hc6 => ?_) (fun hc6 => ?_)
      · refine GoC.seq ?_
        refine GoC.region ?_
        refine GoL.q (op_assign rfl) ?_
        refine GoL.nil .next ?_
        refine GoC.ret (.blockRet (.thenRet (.here))) ?_
        refine done1 rfl rfl ?_
        intro w' hw
        have e : instCheckF x = 2 := (if_neg (Bool.eq_false_iff.1 hc3)).trans ((if_neg (Bool.eq_false_iff.1 hc5)).trans (if_pos hc6))
        exact ⟨by rw [e], hw.keep⟩
      · refine GoC.skipTo (.blockNormal (.next)) ?_
        refine GoC.seq ?_
        refine GoC.region ?_
        refine GoL.q (op_assign rfl) ?_
        refine GoL.nil .next ?_
        refine GoC.ret .here ?_
        refine done1 rfl rfl ?_
        intro w' hw
        have e : instCheckF x = 0 := (if_neg (Bool.eq_false_iff.1 hc3)).trans ((if_neg (Bool.eq_false_iff.1 hc5)).trans (if_neg (Bool.eq_false_iff.1 hc6)))
        exact ⟨by rw [e], hw.keep⟩
end Go.Proofs.Ytdeacehacndopaa

namespace Go.Proofs.Ytdeacehacndopaa
open Go.RowKit

set_option maxRecDepth 20000 in
theorem loads_spec (x : Instance) (l : List Bike) (p : HI) (al : Option Addr) (cl : Nat) (hI : OkI x) (hs12 : x.Sats.length ≤ 1000000) (hl : l.length ≤ 9223372036854775807) (sh : Nat → Prop) (w : World)
    (h : Holds ⟨0, w, [], sh⟩ [] (rI x p [ro tBike al cl l]) w) :
    Calls Pr fn_plan_Loads #[.agg (cI x p).toArray, .slice al l.length cl] w fun e w' => ∃ g : Hdr, e = .returned (.slice g.1 (loadsF x l).length g.2) ∧ Holds ⟨0, w, [], sh⟩ [own ty_i64 t64 g.1 g.2 (loadsF x l)] [] w' := by
  refine Calls.of_go (args := [_, _]) fn_plan_Loads_f rfl rfl rfl h ?_
  refine GoC.seq ?_
  refine GoC.region ?_
  refine GoL.x (op_box rfl rfl) ?_
  rintro _ _ _ ⟨b2, rfl, rfl, rfl⟩
  refine GoL.q (op_assign rfl) ?_
  refine GoL.nil .next ?_
  refine GoC.seq ?_
  refine GoC.region ?_
  refine GoL.q (op_fieldAddr rfl) ?_
  refine GoL.q (op_load rfl rfl) ?_
  refine GoL.q (op_len rfl) ?_
  refine GoL.x (op_make (ty := t64) (0 : Int) (fun _ _ => ⟨rfl, rfl⟩) rfl (by omega) hI.s) ?_
  rintro _ _ _ ⟨b13, rfl, rfl, rfl⟩
  refine GoL.q (op_assign rfl) ?_
  refine GoL.nil .next ?_
  refine GoC.seq ?_
  refine GoC.seq ?_
  refine GoC.region ?_
  refine GoL.q (op_move rfl) ?_
  refine GoL.q (op_len rfl) ?_
  refine GoL.q (op_move rfl) ?_
  refine GoL.nil .next ?_
  refine GoC.block ?_
  refine GoC.loop (σ := Nat × List Int) (fun s => [(16, .int .i64 (s.1 : Int))]) [(2, _), (5, _), (14, _), (15, _)] (fun s => [own ty_i64 t64 (some ⟨b13, 0, none⟩) x.Sats.length s.2, cel b2 ty_inst_Instance (cI x p)]) (fun s => _) (fun s => s.1 ≤ l.length ∧ s.2.length = x.Sats.length ∧ (l.drop s.1).foldl (fun out b => b.Stops.foldl (loadsC x b) out) s.2 = loadsF x l) (fun s => l.length - s.1) (0, List.replicate x.Sats.length 0) ⟨by simp, by simp, by simp [loadsF]⟩ ⟨rfl, rfl, rfl, rfl, rfl, trivial⟩ (fun _ h => h) ?_
  intro s ⟨hs1, hs2, hs3⟩
  refine GoC.seq ?_
  refine GoC.region ?_
  refine GoL.q (op_lss rfl rfl) ?_
  refine GoL.nil .next ?_
  refine GoC.seq ?_
  refine GoC.cond rfl (fun hc0 => ?_) (fun hc0 => ?_)
  · have hlt : s.1 < l.length := by simpa using hc0
    refine GoC.skipTo .next ?_
    refine GoC.seq ?_
    refine GoC.block ?_
    refine GoC.seq ?_
    refine GoC.openR (n := 2) al s.1 hlt (fun q hq => ?_)
    refine GoC.region ?_
    refine GoL.q (op_indexR rfl rfl rfl (by first | assumption | omega)) ?_
    refine GoL.q (op_loadEA rfl rfl) ?_
    refine GoL.x (op_alloc) ?_
    rintro _ _ _ ⟨b7, rfl, rfl, rfl⟩
    refine GoL.y0 (op_store rfl rfl rfl rfl (by simp [Value.oneCell']) (Nat.le_of_ble_eq_true rfl) rfl) ?_
    rintro _ _ _ ⟨rfl, rfl, rfl⟩
    refine GoL.nil .next ?_
    refine GoC.seq ?_
    refine GoC.region ?_
    refine GoL.q (op_fieldAddr rfl) ?_
    refine GoL.q (op_load rfl rfl) ?_
    refine GoL.q (op_len rfl) ?_
    refine GoL.q (op_move rfl) ?_
    refine GoL.nil .next ?_
    refine GoC.block ?_
    refine GoC.loop (σ := Nat × List Int) (fun u => [(23, .int .i64 (u.1 : Int))]) [(16, _), (2, _), (5, _), (14, _), (15, _), (7, _), (21, _), (22, _)] (fun u => [cel b7 ty_plan_Bike [.int .i64 l[s.1].Sat, .slice q.2.1 l[s.1].Stops.length q.2.2], own ty_i64 t64 (some ⟨b13, 0, none⟩) x.Sats.length u.2, cel b2 ty_inst_Instance (cI x p)]) (fun u => _) (fun u => u.1 ≤ l[s.1].Stops.length ∧ u.2.length = x.Sats.length ∧ (l[s.1].Stops.drop u.1).foldl (loadsC x l[s.1]) u.2 = l[s.1].Stops.foldl (loadsC x l[s.1]) s.2) (fun u => l[s.1].Stops.length - u.1) (0, s.2) ⟨by simp, hs2, by simp⟩ ⟨rfl, rfl, rfl, rfl, rfl, rfl, rfl, rfl, rfl, trivial⟩ (fun _ h => h) ?_
    intro u ⟨hu1, hu2, hu3⟩
    refine GoC.seq ?_
    refine GoC.region ?_
    refine GoL.q (op_lss rfl rfl) ?_
    refine GoL.nil .next ?_
    refine GoC.seq ?_
    refine GoC.cond rfl (fun hc1 => ?_) (fun hc1 => ?_)
    · have hlt2 : u.1 < l[s.1].Stops.length := by simpa using hc1
      refine GoC.skipTo .next ?_
      refine GoC.seq ?_
      refine GoC.block ?_
      refine GoC.seq ?_
      refine GoC.openR (n := 1) q.2.1 u.1 hlt2 (fun _ hq2 => ?_)
      refine GoC.region ?_
      refine GoL.q (op_indexR rfl rfl rfl (by first | assumption | omega)) ?_
      refine GoL.q (op_loadE rfl rfl) ?_
      refine GoL.q (op_assign rfl) ?_
      refine GoL.nil .next ?_
      refine GoC.seq ?_
      refine GoC.region ?_
      refine GoL.q (op_fieldAddr rfl) ?_
      refine GoL.q (op_load rfl rfl) ?_
      refine GoL.q (op_geq rfl rfl) ?_
      refine GoL.q (op_move rfl) ?_
      apply GoL.and (m := 5) (x := 35) rfl rfl rfl rfl rfl rfl rfl rfl (Wn.none rfl)
      · intro hg2
        refine GoL.q (op_fieldAddr rfl) ?_ (hg := Wn.some rfl rfl rfl hg2)
        refine GoL.q (op_load rfl rfl) ?_ (hg := Wn.some rfl rfl rfl hg2)
        refine GoL.q (op_move rfl) ?_ (hg := Wn.some rfl rfl rfl hg2)
        refine GoL.q (op_len rfl) ?_ (hg := Wn.some rfl rfl rfl hg2)
        refine GoL.q (op_lss rfl rfl) ?_ (hg := Wn.some rfl rfl rfl hg2)
        exact GoL.part (k := 5) rfl rfl rfl
      refine GoL.q (op_move rfl) ?_
      apply GoL.and (m := 2) (x := 39) rfl rfl rfl rfl rfl rfl rfl rfl (Wn.none rfl)
      · intro hg3
        refine GoL.q (op_move rfl) ?_ (hg := Wn.some rfl rfl rfl hg3)
        refine GoL.q (op_geq rfl rfl) ?_ (hg := Wn.some rfl rfl rfl hg3)
        exact GoL.part (k := 2) rfl rfl rfl
      refine GoL.q (op_move rfl) ?_
      apply GoL.and (m := 5) (x := 46) rfl rfl rfl rfl rfl rfl rfl rfl (Wn.none rfl)
      · intro hg4
        refine GoL.q (op_move rfl) ?_ (hg := Wn.some rfl rfl rfl hg4)
        refine GoL.q (op_fieldAddr rfl) ?_ (hg := Wn.some rfl rfl rfl hg4)
        refine GoL.q (op_load rfl rfl) ?_ (hg := Wn.some rfl rfl rfl hg4)
        refine GoL.q (op_len rfl) ?_ (hg := Wn.some rfl rfl rfl hg4)
        refine GoL.q (op_lss rfl rfl) ?_ (hg := Wn.some rfl rfl rfl hg4)
        exact GoL.part (k := 5) rfl rfl rfl
      refine GoL.nil .next ?_
      refine GoC.cond rfl (fun hc5 => ?_) (fun hc5 => ?_)
      · have hcc : ((0 ≤ l[s.1].Sat ∧ l[s.1].Sat < u.2.length) ∧ 0 ≤ l[s.1].Stops[u.1]) ∧ l[s.1].Stops[u.1] < x.Customers.length := by rw [hu2]; simpa using hc5
        have hl1 : l[s.1].Sat.toNat < u.2.length := by omega
        have hl2 : l[s.1].Stops[u.1].toNat < x.Customers.length := by omega
        refine GoC.openR (n := 4) p.u.1 l[s.1].Stops[u.1].toNat hl2 (fun _ hq3 => ?_)
        refine GoC.draw 11 [] [0, 1, 2, 3, 4, 5, 6, 7, 8, 9, 10] (by kernel_rfl) Pr_mixed ?_
        refine Can.q rfl (op_move rfl) ?_
        refine Can.q rfl (op_fieldAddr rfl) ?_
        refine Can.q rfl (op_load rfl rfl) ?_
        refine Can.q rfl (op_indexO rfl rfl (Int.toNat_of_nonneg hcc.1.1.1).symm hl1 (by first | rfl | omega)) ?_
        refine Can.q rfl (op_loadO rfl (by intro _ _ _ _ h; exact h.1) (by first | assumption | omega) rfl) ?_
        refine Can.q rfl (op_fieldAddr rfl) ?_
        refine Can.q rfl (op_load rfl rfl) ?_
        refine Can.q rfl (op_move rfl) ?_
        refine Can.q rfl (op_indexR rfl rfl (Int.toNat_of_nonneg hcc.1.2).symm hl2) ?_
        refine Can.q rfl (op_fieldAddrE rfl) ?_
        refine Can.q rfl (op_loadF rfl rfl) ?_
        refine Can.nil rfl ?_
        refine GoL.q (op_add rfl rfl) ?_
        refine GoL.q (op_indexO rfl rfl (Int.toNat_of_nonneg hcc.1.1.1).symm hl1 (by first | rfl | omega)) ?_
        refine GoL.y0 (op_storeO (xv := w64 (u.2[l[s.1].Sat.toNat] + x.Customers[l[s.1].Stops[u.1].toNat].Load)) rfl rfl hl1 (by intro _ _; exact ⟨rfl, w64_w64 _⟩)) ?_
        rintro _ _ _ ⟨rfl, rfl, rfl⟩
        refine GoL.nil (.blockNormal (.next)) ?_
        refine GoC.sub (E' := [(23, _), (16, _), (2, _), (5, _), (14, _), (15, _), (7, _), (21, _), (22, _)]) ⟨rfl, rfl, rfl, rfl, rfl, rfl, rfl, rfl, rfl, trivial⟩ ?_
        refine GoC.region ?_
        refine GoL.q (op_inc rfl (by omega)) ?_
        refine GoL.q (op_move rfl) ?_
        exact GoL.again (u.1 + 1, u.2.set l[s.1].Sat.toNat (w64 (u.2[l[s.1].Sat.toNat] + x.Customers[l[s.1].Stops[u.1].toNat].Load))) ⟨by omega, by simpa using hu2, by rw [List.drop_eq_getElem_cons hlt2, List.foldl_cons] at hu3; rw [← hu3]; congr 1; unfold loadsC; rw [if_pos (by simpa using hcc)]; simp [hl1, hl2]⟩ (by simp only; omega) ⟨rfl, rfl, rfl, rfl, rfl, rfl, rfl, rfl, rfl, trivial⟩
      · skip
        refine GoC.skipTo (.blockNormal (.next)) ?_
        refine GoC.region ?_
        refine GoL.q (op_inc rfl (by omega)) ?_
        refine GoL.q (op_move rfl) ?_
        exact GoL.again (u.1 + 1, u.2) ⟨by omega, hu2, by rw [List.drop_eq_getElem_cons hlt2, List.foldl_cons] at hu3; rw [← hu3]; congr 1; unfold loadsC; rw [if_neg (by rw [hu2]; simp [hc5])]⟩ (by simp only; omega) ⟨rfl, rfl, rfl, rfl, rfl, rfl, rfl, rfl, rfl, trivial⟩
    · have hge2 : l[s.1].Stops.length ≤ u.1 := by simpa using hc1
      refine GoC.exit (.thenExit (.thenExit (.blockSame (.blockNormal (.next))))) ?_
      refine GoC.region ?_
      refine GoL.q (op_inc rfl (by omega)) ?_
      refine GoL.q (op_move rfl) ?_
      exact GoL.again (s.1 + 1, u.2) ⟨by omega, hu2, by rw [List.drop_eq_getElem_cons hlt, List.foldl_cons, ← hu3, List.drop_of_length_le hge2] at hs3; exact hs3⟩ (by simp only; omega) ⟨rfl, rfl, rfl, rfl, rfl, trivial⟩
  · have hge : l.length ≤ s.1 := by simpa using hc0
    refine GoC.exit (.thenExit (.thenExit (.blockSame (.next)))) ?_
    refine GoC.seq ?_
    refine GoC.region ?_
    refine GoL.q (op_move rfl) ?_
    refine GoL.q (op_assign rfl) ?_
    refine GoL.nil .next ?_
    refine GoC.ret .here ?_
    refine done1 rfl rfl ?_
    intro w' hw
    have he : s.2 = loadsF x l := by rw [← hs3, List.drop_of_length_le hge]; rfl
    rw [he] at hw
    have hlen : x.Sats.length = (loadsF x l).length := by rw [← he]; exact hs2.symm
    exact ⟨(some ⟨b13, 0, none⟩, x.Sats.length), by rw [← hlen], hw.n.drop (SubL.sub) (by simp)⟩
end Go.Proofs.Ytdeacehacndopaa
