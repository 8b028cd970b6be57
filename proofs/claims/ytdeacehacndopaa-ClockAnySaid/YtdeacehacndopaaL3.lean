/- What the program's values read as: numbers, lists, and the records of the town. Rounds, counters, and small steps of a walk. Rows of one's own of any element, rows in rows, appends, slices of slices, calls that write. The check of a tree by numbers, and the steps of a walk along it. Where branches meet. No conditions beyond those that each theorem names. -/
import Derived.Test.YtdeacehacndopaaL2
namespace Go.Proofs.Ytdeacehacndopaa
open Go.RowKit

/-- a whole number of 64 bits -/
def I64 (x : Int) : Prop := IntKind.i64.wrap x = x

def tI (k : IntKind) : RTy Int where
  n := 1
  rep _ _ cs x := cs = [.int k x] ∧ k.wrap x = x
  len _ _ cs x h := by rw [h.1]; rfl
  one _ _ cs x h := by rw [h.1]; intro v hv; simp at hv; subst hv; rfl
  loc _ _ _ _ cs x h _ _ := h

def tB : RTy Bool where
  n := 1
  rep _ _ cs x := cs = [.bool x]
  len _ _ cs x h := by rw [h]; rfl
  one _ _ cs x h := by rw [h]; intro v hv; simp at hv; subst hv; rfl
  loc _ _ _ _ cs x h _ _ := h

def tStr : RTy ByteArray where
  n := 1
  rep _ _ cs x := cs = [.string x] ∧ x.size ≤ maxLen
  len _ _ cs x h := by rw [h.1]; rfl
  one _ _ cs x h := by rw [h.1]; intro v hv; simp at hv; subst hv; rfl
  loc _ _ _ _ cs x h _ _ := h

def tSl {α : Type} (ty : RTy α) : RTy (List α) where
  n := 1
  rep sh w cs l := ∃ a c, cs = [.slice a l.length c] ∧ sliceRep ty sh w a c l
  len _ _ cs x h := by obtain ⟨_, _, h, _⟩ := h; rw [h]; rfl
  one _ _ cs x h := by obtain ⟨_, _, h, _⟩ := h; rw [h]; intro v hv; simp at hv; subst hv; rfl
  loc _ _ _ _ cs x h hs hb := by obtain ⟨a, c, h1, h2⟩ := h; exact ⟨a, c, h1, h2.loc hs hb⟩

def tPair {α β : Type} (s : RTy α) (t : RTy β) : RTy (α × β) where
  n := s.n + t.n
  rep sh w cs x := ∃ c1 c2, cs = c1 ++ c2 ∧ s.rep sh w c1 x.1 ∧ t.rep sh w c2 x.2
  len sh w cs x h := by obtain ⟨c1, c2, rfl, h1, h2⟩ := h; rw [List.length_append, s.len _ _ _ _ h1, t.len _ _ _ _ h2]
  one sh w cs x h := by
    obtain ⟨c1, c2, rfl, h1, h2⟩ := h
    intro v hv
    rcases List.mem_append.1 hv with hv | hv
    · exact s.one _ _ _ _ h1 v hv
    · exact t.one _ _ _ _ h2 v hv
  loc _ _ _ _ cs x h hs hb := by obtain ⟨c1, c2, e, h1, h2⟩ := h; exact ⟨c1, c2, e, s.loc _ _ _ _ _ _ h1 hs hb, t.loc _ _ _ _ _ _ h2 hs hb⟩

def tMap {α β : Type} (f : β → α) (t : RTy α) : RTy β where
  n := t.n
  rep sh w cs x := t.rep sh w cs (f x)
  len sh w cs x h := t.len _ _ _ _ h
  one sh w cs x h := t.one _ _ _ _ h
  loc _ _ _ _ cs x h hs hb := t.loc _ _ _ _ _ _ h hs hb

/-- how a reading is opened: cells written out, what they lead to, and what is known of the numbers -/
class Open {α : Type} (ty : RTy α) (σ : outParam Type) (F : outParam (α → σ → List Value)) (G : outParam (α → σ → List RF → List RF)) (H : outParam (α → Prop)) : Prop where
  opn : ∀ sh w cs x, ty.rep sh w cs x → H x ∧ ∃ p, cs = F x p ∧ ∀ R, ∀ r ∈ G x p R, r ∈ R ∨ r.P sh w

section
variable {C : Cx} {W : List Ent} {R : List RF} {w : World}

theorem Holds.openR {α σ : Type} {ty : RTy α} {F : α → σ → List Value} {G : α → σ → List RF → List RF} {H : α → Prop} {a : Option Addr} {c i n : Nat} {l : List α} [hr : HasRo a R ty c l] [ho : Open ty σ F G H]
    (h : Holds C W R w) (hi : i < l.length) (hn : ty.n = n) : H l[i] ∧ ∃ p, Holds C W (cells a (i * n) (F l[i] p) :: G l[i] p R) w := by
  obtain ⟨sh, hm⟩ := h
  have hs := hm.facts _ hr.mem
  obtain ⟨g, o, cs, ha, hg, hc, hrep⟩ := hs.2.2.2 i l[i] (by simp [hi])
  obtain ⟨hh, p, e, hgs⟩ := ho.opn _ _ _ _ hrep
  refine ⟨hh, p, sh, hm.own, hm.nodup, hm.sep, hm.may, fun r hr' => ?_, hm.shlt, hm.zone, hm.keep⟩
  rcases List.mem_cons.1 hr' with rfl | hr'
  · subst hn; subst e; exact ⟨g, o, ha, hg, hc⟩
  · rcases hgs R r hr' with h1 | h1
    · exact hm.facts r h1
    · exact h1
end

section
variable {P : Program} {C : Cx} {E : Env} {W : List Ent} {R : List RF} {Q : Exit → Act → World → Prop}
theorem GoC.openR {α σ : Type} {ty : RTy α} {F : α → σ → List Value} {G : α → σ → List RF → List RF} {H : α → Prop} (a : Option Addr) (i : Nat) {c n : Nat} {l : List α} [hr : HasRo a R ty c l] [ho : Open ty σ F G H] {code : Code}
    (hi : i < l.length) (k : ∀ p, H l[i] → GoC P C E W (cells a (i * n) (F l[i] p) :: G l[i] p R) code Q) (hn : ty.n = n := by rfl) : GoC P C E W R code Q := by
  intro a' w hs
  obtain ⟨hh, p, hm⟩ := hs.mem.openR (hr := hr) (ho := ho) (a := a) hi hn
  exact k p hh a' w ⟨hs.fr, hm⟩
end

instance {k : IntKind} : Open (tI k) Unit (fun x _ => [.int k x]) (fun _ _ R => R) (fun x => k.wrap x = x) := ⟨fun _ _ _ _ h => ⟨h.2, (), h.1, fun _ _ hr => .inl hr⟩⟩
instance : Open tB Unit (fun x _ => [.bool x]) (fun _ _ R => R) (fun _ => True) := ⟨fun _ _ _ _ h => ⟨trivial, (), h, fun _ _ hr => .inl hr⟩⟩
instance : Open tStr Unit (fun x _ => [.string x]) (fun _ _ R => R) (fun x => x.size ≤ 9223372036854775807) := ⟨fun _ _ _ _ h => ⟨h.2, (), h.1, fun _ _ hr => .inl hr⟩⟩
theorem sliceRep.len_le {α : Type} {ty : RTy α} {sh : Nat → Prop} {w : World} {a : Option Addr} {c : Nat} {l : List α} (h : sliceRep ty sh w a c l) : l.length ≤ 9223372036854775807 := Nat.le_trans h.1 h.2.1
instance {α : Type} {ty : RTy α} : Open (tSl ty) (Option Addr × Nat) (fun l p => [.slice p.1 l.length p.2]) (fun l p R => ro ty p.1 p.2 l :: R) (fun l => l.length ≤ 9223372036854775807) :=
  ⟨fun _ _ _ _ ⟨a, c, h1, h2⟩ => ⟨h2.len_le, (a, c), h1, fun _ r hr => by rcases List.mem_cons.1 hr with rfl | hr; exact .inr h2; exact .inl hr⟩⟩
instance {α β σ τ : Type} {s : RTy α} {t : RTy β} {F : α → σ → List Value} {G : α → σ → List RF → List RF} {H : α → Prop} {F' : β → τ → List Value} {G' : β → τ → List RF → List RF} {H' : β → Prop} [hs : Open s σ F G H] [ht : Open t τ F' G' H'] :
    Open (tPair s t) (σ × τ) (fun x p => F x.1 p.1 ++ F' x.2 p.2) (fun x p R => G x.1 p.1 (G' x.2 p.2 R)) (fun x => H x.1 ∧ H' x.2) :=
  ⟨fun _ _ _ _ ⟨_, _, e, h1, h2⟩ => by
    obtain ⟨g1, p1, e1, k1⟩ := hs.opn _ _ _ _ h1
    obtain ⟨g2, p2, e2, k2⟩ := ht.opn _ _ _ _ h2
    refine ⟨⟨g1, g2⟩, (p1, p2), by rw [e, e1, e2], fun R r hr => ?_⟩
    rcases k1 _ r hr with hr | hr
    · exact k2 R r hr
    · exact .inr hr⟩

/-! ### The town -/

structure Fleet where
  Many : Int
  Room : Int
structure Sat where
  Room : Int
  Hold : Int
structure Customer where
  Load : Int
  Open : Int
  Close : Int
  Stay : Int
structure Instance where
  End : Int
  Trucks : Fleet
  Bikes : Fleet
  Sats : List Sat
  Customers : List Customer
  Cost : List (List Int)
  Time : List (List Int)
structure Stop where
  Sat : Int
  Load : Int
structure Truck where
  Stops : List Stop
structure Bike where
  Sat : Int
  Stops : List Int
structure Plan where
  Trucks : List Truck
  Bikes : List Bike
structure Ride where
  Out : Int
  Starts : List Int
  Back : Int
structure Times where
  Trucks : List (List Int)
  Bikes : List Ride

abbrev t64 : RTy Int := tI .i64
def tFleet : RTy Fleet := tMap (fun x : Fleet => (x.Many, x.Room)) (tPair t64 t64)
def tSat : RTy Sat := tMap (fun x : Sat => (x.Room, x.Hold)) (tPair t64 t64)
def tCustomer : RTy Customer := tMap (fun x : Customer => (x.Load, x.Open, x.Close, x.Stay)) (tPair t64 (tPair t64 (tPair t64 t64)))
def tInstance : RTy Instance := tMap (fun x : Instance => (x.End, x.Trucks, x.Bikes, x.Sats, x.Customers, x.Cost, x.Time))
  (tPair t64 (tPair tFleet (tPair tFleet (tPair (tSl tSat) (tPair (tSl tCustomer) (tPair (tSl (tSl t64)) (tSl (tSl t64))))))))
def tStop : RTy Stop := tMap (fun x : Stop => (x.Sat, x.Load)) (tPair t64 t64)
def tTruck : RTy Truck := tMap (fun x : Truck => x.Stops) (tSl tStop)
def tBike : RTy Bike := tMap (fun x : Bike => (x.Sat, x.Stops)) (tPair t64 (tSl t64))
def tPlan : RTy Plan := tMap (fun x : Plan => (x.Trucks, x.Bikes)) (tPair (tSl tTruck) (tSl tBike))
def tRide : RTy Ride := tMap (fun x : Ride => (x.Out, x.Starts, x.Back)) (tPair t64 (tPair (tSl t64) t64))
def tTimes : RTy Times := tMap (fun x : Times => (x.Trucks, x.Bikes)) (tPair (tSl (tSl t64)) (tSl tRide))

theorem Open.map {α β σ : Type} {t : RTy α} {f : β → α} {F : α → σ → List Value} {G : α → σ → List RF → List RF} {H : α → Prop} [ht : Open t σ F G H] : Open (tMap f t) σ (fun x p => F (f x) p) (fun x p R => G (f x) p R) (fun x => H (f x)) :=
  ⟨fun _ _ _ _ h => ht.opn _ _ _ _ h⟩

instance : Open tFleet (Unit × Unit) (fun x _ => [.int .i64 x.Many, .int .i64 x.Room]) (fun _ _ R => R) (fun x => I64 x.Many ∧ I64 x.Room) := Open.map (f := fun x : Fleet => (x.Many, x.Room)) (t := tPair t64 t64)
instance : Open tSat (Unit × Unit) (fun x _ => [.int .i64 x.Room, .int .i64 x.Hold]) (fun _ _ R => R) (fun x => I64 x.Room ∧ I64 x.Hold) := Open.map (f := fun x : Sat => (x.Room, x.Hold)) (t := tPair t64 t64)
instance : Open tStop (Unit × Unit) (fun x _ => [.int .i64 x.Sat, .int .i64 x.Load]) (fun _ _ R => R) (fun x => I64 x.Sat ∧ I64 x.Load) := Open.map (f := fun x : Stop => (x.Sat, x.Load)) (t := tPair t64 t64)
instance : Open tCustomer (Unit × Unit × Unit × Unit) (fun x _ => [.int .i64 x.Load, .int .i64 x.Open, .int .i64 x.Close, .int .i64 x.Stay]) (fun _ _ R => R) (fun x => I64 x.Load ∧ I64 x.Open ∧ I64 x.Close ∧ I64 x.Stay) :=
  Open.map (f := fun x : Customer => (x.Load, x.Open, x.Close, x.Stay)) (t := tPair t64 (tPair t64 (tPair t64 t64)))
instance : Open tTruck (Option Addr × Nat) (fun x p => [.slice p.1 x.Stops.length p.2]) (fun x p R => ro tStop p.1 p.2 x.Stops :: R) (fun x => x.Stops.length ≤ 9223372036854775807) := Open.map (f := fun x : Truck => x.Stops) (t := tSl tStop)
instance : Open tBike (Unit × Option Addr × Nat) (fun x p => [.int .i64 x.Sat, .slice p.2.1 x.Stops.length p.2.2]) (fun x p R => ro t64 p.2.1 p.2.2 x.Stops :: R) (fun x => I64 x.Sat ∧ x.Stops.length ≤ 9223372036854775807) :=
  Open.map (f := fun x : Bike => (x.Sat, x.Stops)) (t := tPair t64 (tSl t64))
instance : Open tRide (Unit × (Option Addr × Nat) × Unit) (fun x p => [.int .i64 x.Out, .slice p.2.1.1 x.Starts.length p.2.1.2, .int .i64 x.Back]) (fun x p R => ro t64 p.2.1.1 p.2.1.2 x.Starts :: R) (fun x => I64 x.Out ∧ x.Starts.length ≤ 9223372036854775807 ∧ I64 x.Back) :=
  Open.map (f := fun x : Ride => (x.Out, x.Starts, x.Back)) (t := tPair t64 (tPair (tSl t64) t64))
/-- a slice's first place, and its room -/
abbrev Hdr := Option Addr × Nat
structure HI where
  s : Hdr
  u : Hdr
  k : Hdr
  t : Hdr
/-- an instance's cells -/
@[reducible] def cI (x : Instance) (p : HI) : List Value :=
  [.int .i64 x.End, .int .i64 x.Trucks.Many, .int .i64 x.Trucks.Room, .int .i64 x.Bikes.Many, .int .i64 x.Bikes.Room, .slice p.s.1 x.Sats.length p.s.2, .slice p.u.1 x.Customers.length p.u.2, .slice p.k.1 x.Cost.length p.k.2, .slice p.t.1 x.Time.length p.t.2]
/-- what they lead to -/
@[reducible] def rI (x : Instance) (p : HI) (R : List RF) : List RF := ro tSat p.s.1 p.s.2 x.Sats :: ro tCustomer p.u.1 p.u.2 x.Customers :: ro (tSl t64) p.k.1 p.k.2 x.Cost :: ro (tSl t64) p.t.1 p.t.2 x.Time :: R
structure OkI (x : Instance) : Prop where
  End : I64 x.End
  tm : I64 x.Trucks.Many
  tr : I64 x.Trucks.Room
  bm : I64 x.Bikes.Many
  br : I64 x.Bikes.Room
  s : x.Sats.length ≤ 9223372036854775807
  u : x.Customers.length ≤ 9223372036854775807
  k : x.Cost.length ≤ 9223372036854775807
  t : x.Time.length ≤ 9223372036854775807
instance : Open tInstance HI cI rI OkI :=
  ⟨fun sh w cs x h => by
    obtain ⟨⟨h1, ⟨h2, h3⟩, ⟨h4, h5⟩, h6, h7, h8, h9⟩, p, e, hg⟩ := Open.opn (ty := tPair t64 (tPair tFleet (tPair tFleet (tPair (tSl tSat) (tPair (tSl tCustomer) (tPair (tSl (tSl t64)) (tSl (tSl t64)))))))) sh w cs _ h
    exact ⟨⟨h1, h2, h3, h4, h5, h6, h7, h8, h9⟩, ⟨p.2.2.2.1, p.2.2.2.2.1, p.2.2.2.2.2.1, p.2.2.2.2.2.2⟩, e, hg⟩⟩
structure HP where
  t : Hdr
  b : Hdr
@[reducible] def cP (x : Plan) (p : HP) : List Value := [.slice p.t.1 x.Trucks.length p.t.2, .slice p.b.1 x.Bikes.length p.b.2]
@[reducible] def rP (x : Plan) (p : HP) (R : List RF) : List RF := ro tTruck p.t.1 p.t.2 x.Trucks :: ro tBike p.b.1 p.b.2 x.Bikes :: R
@[reducible] def cT (x : Times) (p : HP) : List Value := [.slice p.t.1 x.Trucks.length p.t.2, .slice p.b.1 x.Bikes.length p.b.2]
@[reducible] def rT (x : Times) (p : HP) (R : List RF) : List RF := ro (tSl t64) p.t.1 p.t.2 x.Trucks :: ro tRide p.b.1 p.b.2 x.Bikes :: R
instance : Open tPlan HP cP rP (fun x => x.Trucks.length ≤ 9223372036854775807 ∧ x.Bikes.length ≤ 9223372036854775807) :=
  ⟨fun sh w cs x h => by
    obtain ⟨h1, p, e, hg⟩ := Open.opn (ty := tPair (tSl tTruck) (tSl tBike)) sh w cs _ h
    exact ⟨h1, ⟨p.1, p.2⟩, e, hg⟩⟩
instance : Open tTimes HP cT rT (fun x => x.Trucks.length ≤ 9223372036854775807 ∧ x.Bikes.length ≤ 9223372036854775807) :=
  ⟨fun sh w cs x h => by
    obtain ⟨h1, p, e, hg⟩ := Open.opn (ty := tPair (tSl (tSl t64)) (tSl tRide)) sh w cs _ h
    exact ⟨h1, ⟨p.1, p.2⟩, e, hg⟩⟩
end Go.Proofs.Ytdeacehacndopaa

namespace Go.Proofs.Ytdeacehacndopaa
open Go.RowKit

class SubL {α : Type} (l : List α) (r : List α) : Prop where
  sub : List.Sublist l r
instance (priority := low) SubL.cons {α : Type} {l r : List α} {x : α} [h : SubL l r] : SubL l (x :: r) := ⟨.cons _ h.sub⟩
instance SubL.cons2 {α : Type} {l r : List α} {x : α} [h : SubL l r] : SubL (x :: l) (x :: r) := ⟨.cons_cons _ h.sub⟩
instance (priority := high) SubL.refl {α : Type} {l : List α} : SubL l l := ⟨.refl _⟩

/-- fewer entries, in whatever order -/
class SubP (l r : List Ent) : Prop where
  ex : ∃ q, List.Perm r (l ++ q)
theorem perm_of_sublist {α : Type} {l r : List α} (h : List.Sublist l r) : ∃ q, List.Perm r (l ++ q) := by
  induction h with
  | slnil => exact ⟨[], List.Perm.refl _⟩
  | cons a _ ih => obtain ⟨q, hq⟩ := ih; exact ⟨a :: q, (hq.cons a).trans (List.perm_middle.symm)⟩
  | cons_cons a _ ih => obtain ⟨q, hq⟩ := ih; exact ⟨q, hq.cons a⟩
instance (priority := low) SubP.ofSplit {l r q : List Ent} [h : Split l r q] : SubP l r := ⟨⟨q, h.perm⟩⟩
instance SubP.ofSub {l r : List Ent} [h : SubL l r] : SubP l r := ⟨perm_of_sublist h.sub⟩

section
variable {P : Program} {C : Cx} {E : Env} {W W' : List Ent} {R R' : List RF} {Q : Exit → Act → World → Prop} {ops : Array Oper}

theorem St.again {E' : Env} {a : Act} {w : World} [hw : SubP W' W] [hr : SubL R' R] (h : St C E W R a w) (hE : Sub E E') : St C E' W' R' a w :=
  ⟨h.fr.sub hE, let ⟨_, hq⟩ := hw.ex; (h.mem.perm hq).drop (List.sublist_append_left _ _) fun _ hx => hr.sub.subset hx⟩

/-- the end of a round -/
theorem GoL.again {σ : Type} {EV : σ → Env} {EF : Env} {WS : σ → List Ent} {RS : σ → List RF} {I : σ → Prop} {μ : σ → Nat} {k : Nat} (s : σ) [hw : SubP (WS s) W] [hr : SubL (RS s) R]
    (hI : I s) (hμ : μ s < k) (hE : Sub E (EV s ++ EF)) : GoL P C ops E W R [] (Exit.then (fun a w => ∃ s, I s ∧ μ s < k ∧ St C (EV s ++ EF) (WS s) (RS s) a w) Q) :=
  GoL.nilTo .next fun _ _ h => ⟨s, hI, hμ, h.again hE⟩

theorem GoL.againTo {σ : Type} {EV : σ → Env} {EF : Env} {WS : σ → List Ent} {RS : σ → List RF} {I : σ → Prop} {μ : σ → Nat} {k : Nat} (ht : To Q .normal (fun a w => ∃ s, I s ∧ μ s < k ∧ St C (EV s ++ EF) (WS s) (RS s) a w)) (s : σ) [hw : SubP (WS s) W] [hr : SubL (RS s) R]
    (hI : I s) (hμ : μ s < k) (hE : Sub E (EV s ++ EF)) : GoL P C ops E W R [] Q :=
  GoL.nilTo ht fun _ _ h => ⟨s, hI, hμ, h.again hE⟩
theorem St.againEx {σ : Type} {EV : σ → Env} {EF : Env} {WS : σ → List Ent} {RS : σ → List RF} {I : σ → Prop} {μ : σ → Nat} {k : Nat} (s : σ) [hw : SubP (WS s) W] [hr : SubL (RS s) R]
    (hI : I s) (hμ : μ s < k) (hE : Sub E (EV s ++ EF)) : ∀ a w, St C E W R a w → ∃ s, I s ∧ μ s < k ∧ St C (EV s ++ EF) (WS s) (RS s) a w :=
  fun _ _ h => ⟨s, hI, hμ, h.again hE⟩

/-- fewer slots, fewer facts -/
theorem GoC.less {E' : Env} {c : Code} [hw : SubP W' W] [hr : SubL R' R] (hE : Sub E E') (h : GoC P C E' W' R' c Q) : GoC P C E W R c Q :=
  fun a w s => h a w (s.again hE)

variable {d : Option Tmp} {x y z : Operand} {t t' u e : TypeId} {pos : String} {aft : Array Edge} {gd : Option (Nat × Bool)}

theorem wrap_i64 {m : Int} (h : -9223372036854775808 ≤ m ∧ m ≤ 9223372036854775807) : IntKind.i64.wrap m = m := by
  rw [IntKind.wrap_i64]; omega

/-- a counter's next value -/
theorem op_inc {k : Nat} (hx : evalE E x = some (.int .i64 (k : Int))) (hk : k < 9223372036854775807) : OpR P C E W R ⟨d, .binOp .add t x (.const (.int .i64 1)) t', u, pos, aft, gd⟩ (.int .i64 ((k + 1 : Nat) : Int)) := by
  have := op_add (P := P) (C := C) (W := W) (R := R) (d := d) (t := t) (t' := t') (u := u) (pos := pos) (aft := aft) (gd := gd) (y := .const (.int .i64 1)) hx rfl
  rw [wrap_i64 (by omega)] at this
  simpa using this

/-- a sum that does not go round -/
theorem op_addI {m n : Int} (hx : evalE E x = some (.int .i64 m)) (hy : evalE E y = some (.int .i64 n)) (h : -9223372036854775808 ≤ m + n ∧ m + n ≤ 9223372036854775807) : OpR P C E W R ⟨d, .binOp .add t x y t', u, pos, aft, gd⟩ (.int .i64 (m + n)) := by
  have := op_add (P := P) (C := C) (W := W) (R := R) (d := d) (t := t) (t' := t') (u := u) (pos := pos) (aft := aft) (gd := gd) hx hy
  rwa [wrap_i64 h] at this
theorem op_subI {m n : Int} (hx : evalE E x = some (.int .i64 m)) (hy : evalE E y = some (.int .i64 n)) (h : -9223372036854775808 ≤ m - n ∧ m - n ≤ 9223372036854775807) : OpR P C E W R ⟨d, .binOp .sub t x y t', u, pos, aft, gd⟩ (.int .i64 (m - n)) := by
  have := op_sub (P := P) (C := C) (W := W) (R := R) (d := d) (t := t) (t' := t') (u := u) (pos := pos) (aft := aft) (gd := gd) hx hy
  rwa [wrap_i64 h] at this

theorem op_quo {m n : Int} (hx : evalE E x = some (.int .i64 m)) (hy : evalE E y = some (.int .i64 n)) (h0 : 0 ≤ m ∧ m ≤ 9223372036854775807) (h1 : 0 < n) : OpR P C E W R ⟨d, .binOp .quo t x y t', u, pos, aft, gd⟩ (.int .i64 (m / n)) :=
  op_int hx hy fun w => by
    have hd : m.tdiv n = m / n := Int.tdiv_eq_ediv_of_nonneg h0.1
    have h2 : 0 ≤ m / n := Int.ediv_nonneg h0.1 (by omega)
    have h3 : m / n ≤ m := Int.ediv_le_self n h0.1
    have h4 : n ≠ 0 := by omega
    simp [binOp, Op.intDiv, h4, hd, wrap_i64 (m := m / n) (by omega)]
theorem op_quo8 {m n : Int} (hx : evalE E x = some (.int .u8 m)) (hy : evalE E y = some (.int .u8 n)) (h0 : 0 ≤ m ∧ m ≤ 255) (h1 : 0 < n) : OpR P C E W R ⟨d, .binOp .quo t x y t', u, pos, aft, gd⟩ (.int .u8 (m / n)) :=
  op_int hx hy fun w => by
    have hd : m.tdiv n = m / n := Int.tdiv_eq_ediv_of_nonneg h0.1
    have h2 : 0 ≤ m / n := Int.ediv_nonneg h0.1 (by omega)
    have h3 : m / n ≤ m := Int.ediv_le_self n h0.1
    have h4 : n ≠ 0 := by omega
    have h5 : IntKind.u8.wrap (m / n) = m / n := by simp [IntKind.wrap, IntKind.bits, IntKind.signed]; omega
    simp [binOp, Op.intDiv, h4, hd, h5]
theorem op_rem {k : IntKind} {m n : Int} (hx : evalE E x = some (.int k m)) (hy : evalE E y = some (.int k n)) (h0 : 0 ≤ m) (h1 : n ≠ 0) : OpR P C E W R ⟨d, .binOp .rem t x y t', u, pos, aft, gd⟩ (.int k (m % n)) :=
  op_int hx hy fun w => by
    have hd : m.tmod n = m % n := Int.tmod_eq_emod_of_nonneg h0
    simp [binOp, Op.intDiv, h1, hd]

theorem op_conv {k k' : IntKind} {n : Int} [h : TInt P t' k'] [h' : TInt P t k] (hx : evalE E x = some (.int k n)) : OpR P C E W R ⟨d, .convert t t' x, u, pos, aft, gd⟩ (.int k' (k'.wrap n)) := by
  intro a w hs
  simp [execOp, hs.fr.eval hx, convert, run_under h.un, run_under h'.un, Conv.intToInt]

/-- numbers, bit by bit -/
def iand (k : IntKind) (a b : Int) : Int := k.wrap ((BitVec.ofInt k.bits a &&& BitVec.ofInt k.bits b).toNat : Int)
def ior (k : IntKind) (a b : Int) : Int := k.wrap ((BitVec.ofInt k.bits a ||| BitVec.ofInt k.bits b).toNat : Int)
def ixor (k : IntKind) (a b : Int) : Int := k.wrap ((BitVec.ofInt k.bits a ^^^ BitVec.ofInt k.bits b).toNat : Int)
def iandn (k : IntKind) (a b : Int) : Int := k.wrap ((BitVec.ofInt k.bits a &&& ~~~ BitVec.ofInt k.bits b).toNat : Int)
def ishl (k : IntKind) (a n : Int) : Int := k.wrap (a * 2 ^ min n.toNat k.bits)
def ishr (k : IntKind) (a n : Int) : Int := a.fdiv (2 ^ min n.toNat k.bits)
theorem op_and {k : IntKind} {m n : Int} (hx : evalE E x = some (.int k m)) (hy : evalE E y = some (.int k n)) : OpR P C E W R ⟨d, .binOp .and t x y t', u, pos, aft, gd⟩ (.int k (iand k m n)) :=
  op_int hx hy fun w => by simp [binOp, Op.intBits, iand]
theorem op_or {k : IntKind} {m n : Int} (hx : evalE E x = some (.int k m)) (hy : evalE E y = some (.int k n)) : OpR P C E W R ⟨d, .binOp .or t x y t', u, pos, aft, gd⟩ (.int k (ior k m n)) :=
  op_int hx hy fun w => by simp [binOp, Op.intBits, ior]
theorem op_xor {k : IntKind} {m n : Int} (hx : evalE E x = some (.int k m)) (hy : evalE E y = some (.int k n)) : OpR P C E W R ⟨d, .binOp .xor t x y t', u, pos, aft, gd⟩ (.int k (ixor k m n)) :=
  op_int hx hy fun w => by simp [binOp, Op.intBits, ixor]
theorem op_andNot {k : IntKind} {m n : Int} (hx : evalE E x = some (.int k m)) (hy : evalE E y = some (.int k n)) : OpR P C E W R ⟨d, .binOp .andNot t x y t', u, pos, aft, gd⟩ (.int k (iandn k m n)) :=
  op_int hx hy fun w => by simp [binOp, Op.intBits, iandn]
theorem op_int2 {op : BinOp} {k k2 : IntKind} {m n : Int} {v : Value} (hx : evalE E x = some (.int k m)) (hy : evalE E y = some (.int k2 n)) (hop : op = .shl ∨ op = .shr)
    (hv : ∀ w, (Op.shift op k m k2 n).run P w = .ok v w) : OpR P C E W R ⟨d, .binOp op t x y t', u, pos, aft, gd⟩ v := by
  intro a w hs
  have h1 : (eqGuard op t x y (.int k m) (.int k2 n)).run P w = .ok () w := by rcases hop with rfl | rfl <;> (unfold eqGuard; simp)
  have h2 : (binOp op t (.int k m) (.int k2 n)).run P w = .ok v w := by rcases hop with rfl | rfl <;> (simp only [binOp]; exact hv w)
  simp only [execOp, hs.fr.eval hx, hs.fr.eval hy, Sem.run_bind, h1, h2, Result.andThen_ok, Sem.run_pure]
theorem op_shl {k k2 : IntKind} {m n : Int} (hx : evalE E x = some (.int k m)) (hy : evalE E y = some (.int k2 n)) (h : 0 ≤ n) : OpR P C E W R ⟨d, .binOp .shl t x y t', u, pos, aft, gd⟩ (.int k (ishl k m n)) :=
  op_int2 hx hy (.inl rfl) fun w => by simp [Op.shift, ishl, show ¬ n < 0 by omega]
theorem op_shr {k k2 : IntKind} {m n : Int} (hx : evalE E x = some (.int k m)) (hy : evalE E y = some (.int k2 n)) (h : 0 ≤ n) : OpR P C E W R ⟨d, .binOp .shr t x y t', u, pos, aft, gd⟩ (.int k (ishr k m n)) :=
  op_int2 hx hy (.inr rfl) fun w => by simp [Op.shift, ishr, show ¬ n < 0 by omega]

theorem run_equal_bool {b c : Bool} {w : World} (h : P.underlying t = some .bool) : (Op.equal t (.bool b) (.bool c)).run P w = .ok (b == c) w := by
  have h1 : ∀ n, (Op.equalIn (n + 1) t (.bool b) (.bool c)).run P w = .ok (b == c) w := by
    intro n
    simp only [Op.equalIn, Sem.run_bind, run_under h, Result.andThen_ok, Sem.run_pure]
  exact h1 9999
theorem op_eqB {b c : Bool} (hx : evalE E x = some (.bool b)) (hy : evalE E y = some (.bool c)) [h : TBool P t] : OpR P C E W R ⟨d, .binOp .eql t x y t', u, pos, aft, gd⟩ (.bool (b == c)) := by
  intro a w hs
  have h1 : (eqGuard .eql t x y (.bool b) (.bool c)).run P w = .ok () w := by unfold eqGuard; simp
  have h2 : (binOp .eql t (.bool b) (.bool c)).run P w = .ok (.bool (b == c)) w := by
    show ((do pure (.bool (← Op.equal t (.bool b) (.bool c))) : Sem Value)).run P w = _
    rw [Sem.run_bind, run_equal_bool h.un]; rfl
  simp only [execOp, hs.fr.eval hx, hs.fr.eval hy, Sem.run_bind, h1, h2, Result.andThen_ok, Sem.run_pure]
theorem op_neB {b c : Bool} (hx : evalE E x = some (.bool b)) (hy : evalE E y = some (.bool c)) [h : TBool P t] : OpR P C E W R ⟨d, .binOp .neq t x y t', u, pos, aft, gd⟩ (.bool (!(b == c))) := by
  intro a w hs
  have h1 : (eqGuard .neq t x y (.bool b) (.bool c)).run P w = .ok () w := by unfold eqGuard; simp
  have h2 : (binOp .neq t (.bool b) (.bool c)).run P w = .ok (.bool (!(b == c))) w := by
    show ((do pure (.bool (!(← Op.equal t (.bool b) (.bool c)))) : Sem Value)).run P w = _
    rw [Sem.run_bind, run_equal_bool h.un]; rfl
  simp only [execOp, hs.fr.eval hx, hs.fr.eval hy, Sem.run_bind, h1, h2, Result.andThen_ok, Sem.run_pure]

end

section
variable {P : Program} {C : Cx} {E : Env} {W W' : List Ent} {R R' : List RF} {Q : Exit → Act → World → Prop} {ops : Array Oper}
variable {d : Option Tmp} {x y z : Operand} {t t' u e : TypeId} {pos : String} {aft : Array Edge} {gd : Option (Nat × Bool)}

/-- 'make': so many noughts -/
theorem op_make {n bytes size : Nat} {α : Type} {ty : RTy α} {zv : Value} {k : IntKind} (z0 : α) [ht : TSl P t e] [hi : TInfo P e size bytes [zv]]
    (hz : ∀ sh w, ty.rep sh w [zv] z0) (hx : evalE E x = some (.int k (n : Int))) (hb : bytes * n ≤ 281474976710656) (hm : n ≤ maxLen) (h1 : size = 1 := by rfl) :
    OpX P C E W R ⟨d, .makeSlice t x x, u, pos, aft, gd⟩ (fun v W' R' => ∃ b, v = .slice (some ⟨b, 0, none⟩) n n ∧ W' = own e ty (some ⟨b, 0, none⟩) n (List.replicate n z0) :: W ∧ R' = R) := by
  intro a w hs
  obtain ⟨i, z, h2, h3, h4, h5, h6⟩ := hi.ex
  have hn : ty.n = 1 := (ty.len _ _ _ _ (hz (fun _ => True) w)).symm
  obtain ⟨w', hr, ho, hg⟩ := run_make_full (P := P) w 0 t e i z 1 ht.un h2 h3 (by rw [h4, h1]) k k n (by rw [h5]; exact hb) hm (Nat.zero_le _)
  simp only [execOp, hs.fr.eval hx]
  simp [hr, ResX]
  have hx2 : Ext w w' := Keep.below.2 ⟨hg.os, hg.tape, hg.output, hg.size, fun k hk => hg.block k hk (by simp)⟩
  rw [h6, Nat.mul_one, toList_madeCells_one] at ho
  refine ⟨_, _, ⟨rfl, rfl⟩, ?_, hx2⟩
  refine hs.mem.add hx2 (fun sh _ => ⟨List.replicate n zv, by simpa [hn] using ho, fun i x hx => ?_⟩) (by simp [own]) (by simp [own])
  obtain ⟨hlt, rfl⟩ : i < n ∧ z0 = x := by
    rw [List.getElem?_replicate] at hx
    split at hx
    · exact ⟨by assumption, Option.some.inj hx⟩
    · cases hx
  have : slot ty (List.replicate n zv) i = [zv] := by
    simp only [slot, hn, Nat.mul_one, List.drop_replicate, List.take_replicate]
    rw [show min 1 (n - i) = 1 by omega]; rfl
  rw [this]
  exact hz sh w'

/-- a store into a row of one's own, of one cell an element -/
theorem op_storeO {α : Type} {T : TypeId} {ty : RTy α} {a' : Option Addr} {c k n : Nat} {ag : Bool} {l : List α} {v : Value} {xv : α} [hw : HasOwn a' W T ty c l] [hz : TSz P t n ag] [hu : Upd (own T ty a' c l) (own T ty a' c (l.set k xv)) W W']
    (hx : evalE E x = some (.pointer (some (eaddr a' (k * 1))))) (hy : evalE E y = some v) (hlt : k < l.length) (hv : ∀ sh w, ty.rep sh w [v] xv) (h1 : n = 1 := by rfl) :
    OpY P C E W R ⟨d, .store t x y, u, pos, aft, gd⟩ (fun v' W'' R' => v' = undef ∧ W'' = W' ∧ R' = R) := by
  intro a w hs
  obtain ⟨sh0, hm0⟩ := hs.mem
  have hn : ty.n = 1 := (ty.len _ _ _ _ (hv (fun _ => True) w)).symm
  have hone := ty.one _ _ _ _ (hv (fun _ => True) w) v (by simp)
  obtain ⟨xs, ho, hreps⟩ := hm0.own _ hw.mem
  obtain ⟨g, rfl⟩ := own_some (hm0.own _ hw.mem) (by omega)
  have hvc : v.cells = #[v] := by cases v <;> simp_all [Value.cells, Value.oneCell']
  rw [hn] at ho
  have hxl : xs.length = l.length := by simpa using ho.1
  have hcell := ho.cellAt k (by omega)
  have hkx : k < xs.length := by omega
  rw [List.getElem?_eq_getElem hkx] at hcell
  have hfro := ho.frozenAt k
  have hst : (store (⟨g, k, none⟩ : Addr) v).run P w = .ok () (w.setCell ⟨g, k, none⟩ v) := by
    rw [run_store P w _ v _ hone, hcell]; simp [hfro]
  have he : (eaddr (some ⟨g, 0, none⟩) (k * 1)) = ⟨g, k, none⟩ := by simp [eaddr, blk, ofs]
  rw [he] at hx
  have hadd : (Addr.add ⟨g, k, none⟩ 0) = ⟨g, k, none⟩ := rfl
  simp only [execOp, hs.fr.eval hx, hs.fr.eval hy, Instr.storeAt, Instr.sureAddr, storeVar]
  simp [hz.sz, hvc, h1, storeCells, hadd, hst, ResX]
  obtain ⟨hs1, hs2⟩ := ho.stored k v
  refine ⟨_, _, ⟨rfl, rfl⟩, hs.mem.upd (e := own T ty (some ⟨g, 0, none⟩) c l) (e' := own T ty (some ⟨g, 0, none⟩) c (l.set k xv)) ⟨hs2.os, hs2.tape, hs2.output, hs2.size, fun b hb hne => hs2.block b hb (fun e => hne (by simp [own]; exact Option.some.inj e))⟩ (fun sh hm => ?_) (by simp [own]) (fun b hb => .inl hb)⟩
  obtain ⟨ys, ho', hreps'⟩ := hm.own _ hw.mem
  rw [hn] at ho'
  have hyx : ys = xs := by
    refine List.ext_getElem? fun j => ?_
    have hyl : ys.length = l.length := by simpa using ho'.1
    rcases Nat.lt_or_ge j l.length with hj | hj
    · rw [← ho.cellAt j (by omega), ← ho'.cellAt j (by omega)]
    · rw [List.getElem?_eq_none (by omega), List.getElem?_eq_none (by omega)]
  subst hyx
  have hkeep : ∀ b, sh b → (w.setCell ⟨g, k, none⟩ v).heap[b]? = w.heap[b]? := fun b hb => hs2.block b (hm.shlt b hb) (fun e => hm.sep b (by
    refine List.mem_flatMap.2 ⟨_, hw.mem, ?_⟩
    simp [own]; exact Option.some.inj e) hb)
  refine ⟨ys.set k v, by rw [hn]; simpa using hs1, fun i x hx => ?_⟩
  rw [List.getElem?_set] at hx
  by_cases hik : k = i
  · subst hik
    rw [if_pos rfl, if_pos hlt] at hx
    cases hx
    have : slot ty (ys.set k v) k = [v] := by
      simp only [slot, hn, Nat.mul_one]
      rw [List.drop_eq_getElem_cons (by simpa using hkx)]
      simp
    rw [this]; exact hv _ _
  · rw [if_neg hik] at hx
    have hi : i < l.length := (List.getElem?_eq_some_iff.1 hx).1
    have : slot ty (ys.set k v) i = slot ty ys i := by
      simp only [slot, hn, Nat.mul_one]
      have h3 : i < (ys.set k v).length := by rw [List.length_set]; omega
      have h4 : i < ys.length := by omega
      rw [List.drop_eq_getElem_cons h3, List.drop_eq_getElem_cons h4]
      simp only [List.take_succ_cons, List.take_zero]
      rw [List.getElem_set_ne hik]
    rw [this]
    exact ty.loc _ _ _ _ _ _ (hreps' i x hx) (fun _ h => h) hkeep
end

section
variable {P : Program} {C : Cx} {E : Env} {W W' : List Ent} {R R' : List RF} {Q : Exit → Act → World → Prop} {ops : Array Oper}
variable {d : Option Tmp} {x y z fo : Operand} {t t' u e : TypeId} {pos : String} {aft : Array Edge} {gd : Option (Nat × Bool)}

/-- a call of a function value -/
theorem op_cValP {f : FuncId} {xs : List Operand} {vs us : List Value} {ts : Array TypeId} {v : Value} [hf : TFn P f] (hfo : evalE E fo = some (.func (.func f) #[] us.toArray)) (hx : evalEs E xs = some vs)
    (hc : ∀ w, Holds C W R w → Calls P f (vs ++ us).toArray w fun e w' => e = .returned v ∧ Ext w w') : OpP P C E W R ⟨d, .call ⟨.value fo, xs.toArray, ts⟩, u, pos, aft, gd⟩ v := by
  intro a w hs
  have ha : (xs.toArray.map a.eval) = vs.toArray := by rw [← evalEs_map hs.fr hx]; simp
  simp only [execOp, resolve, ha, hs.fr.eval hfo]
  simp [Deferred.ofValue, invoke, hf.call, ResX]
  exact (hc w hs.mem).mono fun e w' ⟨he, hw⟩ => ⟨v, he, rfl, hw⟩
theorem op_cValV {f : FuncId} {xs : List Operand} {vs us : List Value} {ts : Array TypeId} {v : Value} {Ra : List RF} [hf : TFn P f] [hR : AllIn Ra R] (hfo : evalE E fo = some (.func (.func f) #[] us.toArray)) (hx : evalEs E xs = some vs)
    (hc : ∀ sh w, Holds ⟨0, w, [], sh⟩ [] Ra w → Calls P f (vs ++ us).toArray w fun e w' => e = .returned v ∧ Ext w w') : OpP P C E W R ⟨d, .call ⟨.value fo, xs.toArray, ts⟩, u, pos, aft, gd⟩ v :=
  op_cValP hfo hx fun w hw => by
    obtain ⟨sh, hm⟩ := hw
    exact hc sh w (hm.part hR.all)

/-- a variable that is written no more: its cells are shared -/
theorem GoC.shareCel {c : Code} (b : Nat) {T : TypeId} {cs : List Value} [hc : HasCel b W T cs] [hd : Del (cel b T cs) W W'] (h : GoC P C E W' (cells (some ⟨b, 0, none⟩) 0 cs :: R) c Q) : GoC P C E W R c Q :=
  GoC.mem (fun w hw => hw.share (e := cel b T cs) (r := cells (some ⟨b, 0, none⟩) 0 cs) fun sh he => ⟨b, 0, rfl, .inr (by simp [cel]), fun j v hj => by rw [Nat.add_zero, Nat.zero_add, cell_of_cel he]; exact hj⟩) h
/-- a row of one's own that is written no more -/
theorem GoC.shareOwn {c : Code} {α : Type} (a : Option Addr) {T : TypeId} {ty : RTy α} {n : Nat} {l : List α} [hc : HasOwn a W T ty n l] [hd : Del (own T ty a n l) W W'] (h : GoC P C E W' (ro ty a n l :: R) c Q) : GoC P C E W R c Q :=
  GoC.mem (fun w hw => hw.share (e := own T ty a n l) (r := ro ty a n l) fun sh he => own_slice he) h

/-- a variable that is shared, read -/
theorem op_loadB {b o n : Nat} {cs : List Value} {v : Value} [hc : HasCells (some ⟨b, 0, none⟩) 0 R cs] [hz : TSz P t n false]
    (hx : evalE E x = some (.pointer (some ⟨b, o, none⟩))) (hv : cs[o]? = some v) : OpR P C E W R ⟨d, .load t x, u, pos, aft, gd⟩ v := by
  intro a w hs
  obtain ⟨sh, hm⟩ := hs.mem
  obtain ⟨g, o', hg, _, hca⟩ := hm.facts _ hc.mem
  simp only [Option.some.injEq, Addr.mk.injEq, and_true] at hg
  obtain ⟨rfl, rfl⟩ := hg
  have h1 := hca o v hv
  simp only [execOp, hs.fr.eval hx, Instr.loadAt, Instr.sureAddr]
  simp [run_loadVar1 (t := t) (P := P) (n := n) (b := b) (o := o) (v := v) (by simpa using h1)]
theorem op_loadBA {b n : Nat} {cs : List Value} [hc : HasCells (some ⟨b, 0, none⟩) 0 R cs] [hz : TSz P t n true]
    (hx : evalE E x = some (.pointer (some ⟨b, 0, none⟩))) (hl : cs.length = n) : OpR P C E W R ⟨d, .load t x, u, pos, aft, gd⟩ (.agg cs.toArray) := by
  intro a w hs
  obtain ⟨sh, hm⟩ := hs.mem
  obtain ⟨g, o', hg, _, hca⟩ := hm.facts _ hc.mem
  simp only [Option.some.injEq, Addr.mk.injEq, and_true] at hg
  obtain ⟨rfl, rfl⟩ := hg
  simp only [execOp, hs.fr.eval hx, Instr.loadAt, Instr.sureAddr]
  simp [run_loadVar (t := t) (P := P) (n := n) (b := b) (o := 0) hl (by simpa using hca)]

end
end Go.Proofs.Ytdeacehacndopaa

namespace Go.Proofs.Ytdeacehacndopaa
open Go.RowKit

/-! ### Groups of what is owned -/

def grp (es : List Ent) : Ent where
  fp := fps es
  P sh w := ∀ e ∈ es, e.P sh w
  loc sh sh' w w' h hs hb hsb := fun e he => e.loc _ _ _ _ (h e he) hs (fun b hbe => hb b (List.mem_flatMap.2 ⟨e, he, hbe⟩)) hsb
  lt sh w h b hb := by
    obtain ⟨e, he, hbe⟩ := List.mem_flatMap.1 hb
    exact e.lt _ _ (h e he) b hbe

section
variable {C : Cx} {W W' : List Ent} {R : List RF} {w : World}

theorem Holds.ungrp {es : List Ent} (h : Holds C (grp es :: W) R w) : Holds C (es ++ W) R w := by
  obtain ⟨sh, hm⟩ := h
  have hf : fps (grp es :: W) = fps (es ++ W) := by rw [fps_append, fps_cons]; rfl
  refine ⟨sh, fun e he => ?_, hf ▸ hm.nodup, hf ▸ hm.sep, hf ▸ hm.may, hm.facts, hm.shlt, hm.zone, hm.keep⟩
  rcases List.mem_append.1 he with he | he
  · exact hm.own (Ytdeacehacndopaa.grp es) (by simp) e he
  · exact hm.own e (by simp [he])
theorem Holds.grp {es : List Ent} (h : Holds C (es ++ W) R w) : Holds C (grp es :: W) R w := by
  obtain ⟨sh, hm⟩ := h
  have hf : fps (es ++ W) = fps (Ytdeacehacndopaa.grp es :: W) := by rw [fps_append, fps_cons]; rfl
  refine ⟨sh, fun e he => ?_, hf ▸ hm.nodup, hf ▸ hm.sep, hf ▸ hm.may, hm.facts, hm.shlt, hm.zone, hm.keep⟩
  rcases List.mem_cons.1 he with rfl | he
  · exact fun e he => hm.own e (by simp [he])
  · exact hm.own e (by simp [he])

/-- one of many is taken out; the others, a group with a hole -/
theorem Holds.pull {β : Type} {f : β → Ent} {l : List β} (k : Nat) (hk : k < l.length) (h : Holds C (Ytdeacehacndopaa.grp (l.map f) :: W) R w) : Holds C (f l[k] :: Ytdeacehacndopaa.grp ((l.take k ++ l.drop (k + 1)).map f) :: W) R w := by
  have h1 := h.ungrp
  have h2 : Holds C ((l.take k ++ l.drop (k + 1)).map f ++ (f l[k] :: W)) R w := by
    refine h1.perm ?_
    have e : l = l.take k ++ l[k] :: l.drop (k + 1) := by rw [← List.drop_eq_getElem_cons hk, List.take_append_drop]
    conv => lhs; rw [e]
    simp only [List.map_append, List.map_cons, List.append_assoc, List.cons_append]
    exact List.Perm.append_left _ (List.perm_middle.symm)
  exact (h2.grp).perm (List.Perm.swap _ _ _)
/-- and put back, or another one in its place -/
theorem Holds.push {β : Type} {f : β → Ent} {l : List β} (k : Nat) (hk : k < l.length) (x : β) (h : Holds C (f x :: Ytdeacehacndopaa.grp ((l.take k ++ l.drop (k + 1)).map f) :: W) R w) : Holds C (Ytdeacehacndopaa.grp ((l.set k x).map f) :: W) R w := by
  have h1 := (h.perm (List.Perm.swap _ _ _)).ungrp
  refine Holds.grp (h1.perm ?_)
  have e : l.set k x = l.take k ++ x :: l.drop (k + 1) := by rw [List.set_eq_take_append_cons_drop, if_pos hk]
  rw [e]
  simp only [List.map_append, List.map_cons, List.append_assoc, List.cons_append]
  exact List.Perm.append_left _ (List.perm_middle)
theorem Holds.pushEnd {β : Type} {f : β → Ent} {l : List β} (x : β) (h : Holds C (f x :: Ytdeacehacndopaa.grp (l.map f) :: W) R w) : Holds C (Ytdeacehacndopaa.grp ((l ++ [x]).map f) :: W) R w := by
  have h1 := (h.perm (List.Perm.swap _ _ _)).ungrp
  refine Holds.grp (h1.perm ?_)
  simp
theorem Holds.grpNil (h : Holds C W R w) {β : Type} {f : β → Ent} : Holds C (Ytdeacehacndopaa.grp (([] : List β).map f) :: W) R w := Holds.grp (es := []) h

/-- a slice that is nil, as a row of one's own -/
theorem Holds.ownNil (h : Holds C W R w) {α : Type} (T : TypeId) (ty : RTy α) : Holds C (own T ty none 0 [] :: W) R w :=
  h.add (Keep.refl _ _) (fun _ _ => ⟨[], by simpa using World.ownsRow_nil w 0 T ty.n, by simp⟩) (by simp [own]) (by simp [own])
end

/-! ### Readings whose cells are plain -/

class Cl {α : Type} (ty : RTy α) (F : outParam (α → List Value)) : Prop where
  cs : ∀ sh w cs x, ty.rep sh w cs x → cs = F x
  rep : ∀ sh w x, (∃ cs, ty.rep sh w cs x) → ty.rep sh w (F x) x

instance {k : IntKind} : Cl (tI k) (fun x => [.int k x]) := ⟨fun _ _ _ _ h => h.1, fun _ _ _ ⟨_, h⟩ => ⟨rfl, h.2⟩⟩

/-- a slice's head: where it begins, how much room it has, what it reads as; nothing is said of memory -/
structure Row (α : Type) where
  a : Option Addr
  c : Nat
  l : List α
def tH (α : Type) : RTy (Row α) where
  n := 1
  rep _ _ cs x := cs = [.slice x.a x.l.length x.c]
  len _ _ cs x h := by rw [h]; rfl
  one _ _ cs x h := by rw [h]; intro v hv; simp at hv; subst hv; rfl
  loc _ _ _ _ cs x h _ _ := h
instance {α : Type} : Cl (tH α) (fun x => [.slice x.a x.l.length x.c]) := ⟨fun _ _ _ _ h => h, fun _ _ _ ⟨_, h⟩ => rfl⟩
instance {α β : Type} {s : RTy α} {t : RTy β} {F : α → List Value} {G : β → List Value} [hs : Cl s F] [ht : Cl t G] : Cl (tPair s t) (fun x => F x.1 ++ G x.2) :=
  ⟨fun _ _ _ _ ⟨_, _, e, h1, h2⟩ => by rw [e, hs.cs _ _ _ _ h1, ht.cs _ _ _ _ h2], fun sh w x ⟨_, _, _, _, h1, h2⟩ => ⟨_, _, rfl, hs.rep _ _ _ ⟨_, h1⟩, ht.rep _ _ _ ⟨_, h2⟩⟩⟩
theorem Cl.map {α β : Type} {t : RTy α} {f : β → α} {F : α → List Value} [ht : Cl t F] : Cl (tMap f t) (fun x => F (f x)) :=
  ⟨fun _ _ _ _ h => ht.cs _ _ _ _ h, fun _ _ _ ⟨_, h⟩ => ht.rep _ _ _ ⟨_, h⟩⟩

theorem slot_set {α : Type} {ty : RTy α} {xs : List Value} {k i o : Nat} {v : Value} (ho : o < ty.n) (hl : k * ty.n + ty.n ≤ xs.length) : slot ty (xs.set (k * ty.n + o) v) i = if k = i then (slot ty xs k).set o v else slot ty xs i := by
  apply List.ext_getElem?
  intro j
  by_cases hki : k = i
  · subst hki
    rw [if_pos rfl]
    simp only [slot, List.getElem?_take, List.getElem?_drop, List.getElem?_set, List.length_take, List.length_drop]
    by_cases hj : j < ty.n
    · rw [if_pos hj]
      by_cases hjo : o = j
      · subst hjo
        rw [if_pos rfl, if_pos rfl, if_pos (by omega), if_pos (by omega)]
      · rw [if_neg (by omega), if_neg hjo, if_pos hj]
    · rw [if_neg hj, if_neg (by omega), if_neg hj]
  · rw [if_neg hki]
    simp only [slot, List.getElem?_take, List.getElem?_drop, List.getElem?_set]
    by_cases hj : j < ty.n
    · rw [if_pos hj, if_pos hj, if_neg]
      intro e
      rcases Nat.lt_or_gt_of_ne hki with h | h
      · have : (k + 1) * ty.n ≤ i * ty.n := Nat.mul_le_mul_right _ h
        rw [Nat.add_mul, Nat.one_mul] at this; omega
      · have : (i + 1) * ty.n ≤ k * ty.n := Nat.mul_le_mul_right _ h
        rw [Nat.add_mul, Nat.one_mul] at this; omega
    · rw [if_neg hj, if_neg hj]

section
variable {P : Program} {C : Cx} {E : Env} {W W' : List Ent} {R R' : List RF} {Q : Exit → Act → World → Prop} {ops : Array Oper}
variable {d : Option Tmp} {x y z : Operand} {t t' u e : TypeId} {pos : String} {aft : Array Edge} {gd : Option (Nat × Bool)}

theorem own_elem {α : Type} {T : TypeId} {ty : RTy α} {F : α → List Value} {a' : Option Addr} {c k : Nat} {l : List α} {sh : Nat → Prop} {w : World} [hC : Cl ty F] (ho : (own T ty a' c l).P sh w) (hlt : k < l.length) :
    ∃ g, a' = some ⟨g, 0, none⟩ ∧ cellsAt w ⟨g, k * ty.n, none⟩ (F l[k]) ∧ (F l[k]).length = ty.n ∧ ty.rep sh w (F l[k]) l[k] := by
  obtain ⟨g, rfl⟩ := own_some ho (by omega)
  obtain ⟨g', o', cs, ha, _, hc, hr⟩ := (own_slice ho).2.2.2 k l[k] (by simp [hlt])
  simp only [Option.some.injEq, Addr.mk.injEq, and_true] at ha
  obtain ⟨rfl, rfl⟩ := ha
  have h1 := hC.cs _ _ _ _ hr
  subst h1
  obtain ⟨xs, ho1, hreps⟩ := ho
  have h2 := hreps k l[k] (by simp [hlt])
  have h3 := hC.cs _ _ _ _ h2
  refine ⟨g, rfl, by simpa using hc, ty.len _ _ _ _ hr, by rw [h3] at h2; exact h2⟩

/-- a field of an element of a row of one's own -/
theorem op_loadOF {α : Type} {T : TypeId} {ty : RTy α} {F : α → List Value} {a' : Option Addr} {c n m : Nat} {l : List α} {v : Value} (k off : Nat) [hw : HasOwn a' W T ty c l] [hC : Cl ty F] [hz : TSz P t n false] (hlt : k < l.length)
    (hx : evalE E x = some (.pointer (some (eaddr a' (k * m + off))))) (hv : (F l[k])[off]? = some v) (hm : ty.n = m := by rfl) : OpR P C E W R ⟨d, .load t x, u, pos, aft, gd⟩ v := by
  intro a w hs
  obtain ⟨sh, hh⟩ := hs.mem
  obtain ⟨g, rfl, hc, hl, hr⟩ := own_elem (hC := hC) (hh.own _ hw.mem) hlt
  have h1 := hc off v hv
  subst hm
  simp only [execOp, hs.fr.eval hx, Instr.loadAt, Instr.sureAddr, eaddr, blk, ofs]
  simp [run_loadVar1 (t := t) (P := P) (n := n) (b := g) (o := k * ty.n + off) (v := v) h1]

/-- an element of a row of one's own, whole -/
theorem op_loadOA {α : Type} {T : TypeId} {ty : RTy α} {F : α → List Value} {a' : Option Addr} {c n m : Nat} {l : List α} (k : Nat) [hw : HasOwn a' W T ty c l] [hC : Cl ty F] [hz : TSz P t n true] (hlt : k < l.length)
    (hx : evalE E x = some (.pointer (some (eaddr a' (k * m))))) (hm : ty.n = m := by rfl) (hn : m = n := by rfl) : OpR P C E W R ⟨d, .load t x, u, pos, aft, gd⟩ (.agg (F l[k]).toArray) := by
  intro a w hs
  obtain ⟨sh, hh⟩ := hs.mem
  obtain ⟨g, rfl, hc, hl, hr⟩ := own_elem (hC := hC) (hh.own _ hw.mem) hlt
  subst hm
  simp only [execOp, hs.fr.eval hx, Instr.loadAt, Instr.sureAddr, eaddr, blk, ofs]
  simp [run_loadVar (t := t) (P := P) (n := n) (b := g) (o := k * ty.n) (hl.trans hn) hc]

/-- a store into a field of an element of a row of one's own -/
theorem op_storeOF {α : Type} {T : TypeId} {ty : RTy α} {F : α → List Value} {a' : Option Addr} {c n m : Nat} {ag : Bool} {l : List α} {v : Value} (k off : Nat) (xv : α) [hw : HasOwn a' W T ty c l] [hC : Cl ty F] [hz : TSz P t n ag] [hu : Upd (own T ty a' c l) (own T ty a' c (l.set k xv)) W W']
    (hlt : k < l.length) (hx : evalE E x = some (.pointer (some (eaddr a' (k * m + off))))) (hy : evalE E y = some v) (hone : v.oneCell' = true)
    (hv : ∀ sh w, ty.rep sh w (F l[k]) l[k] → ty.rep sh w ((F l[k]).set off v) xv) (hoff : off < m) (hm : ty.n = m := by rfl) (h1 : n = 1 := by rfl) :
    OpY P C E W R ⟨d, .store t x y, u, pos, aft, gd⟩ (fun v' W'' R' => v' = undef ∧ W'' = W' ∧ R' = R) := by
  intro a w hs
  obtain ⟨sh0, hm0⟩ := hs.mem
  subst hm
  obtain ⟨xs, ho, hreps⟩ := hm0.own _ hw.mem
  obtain ⟨g, rfl⟩ := own_some (hm0.own _ hw.mem) (by omega)
  have hvc : v.cells = #[v] := by cases v <;> simp_all [Value.cells, Value.oneCell']
  have hxl : xs.length = l.length * ty.n := ho.1
  have hkn : k * ty.n + ty.n ≤ l.length * ty.n := by
    have := Nat.mul_le_mul_right ty.n hlt
    rwa [Nat.succ_mul] at this
  have hko : k * ty.n + off < l.length * ty.n := by omega
  have hcell := ho.cellAt (k * ty.n + off) hko
  have hkx : k * ty.n + off < xs.length := by omega
  rw [List.getElem?_eq_getElem hkx] at hcell
  have hfro := ho.frozenAt (k * ty.n + off)
  have hst : (store (⟨g, k * ty.n + off, none⟩ : Addr) v).run P w = .ok () (w.setCell ⟨g, k * ty.n + off, none⟩ v) := by
    rw [run_store P w _ v _ hone, hcell]; simp [hfro]
  have he : (eaddr (some ⟨g, 0, none⟩) (k * ty.n + off)) = ⟨g, k * ty.n + off, none⟩ := by simp [eaddr, blk, ofs]
  rw [he] at hx
  have hadd : (Addr.add ⟨g, k * ty.n + off, none⟩ 0) = ⟨g, k * ty.n + off, none⟩ := rfl
  simp only [execOp, hs.fr.eval hx, hs.fr.eval hy, Instr.storeAt, Instr.sureAddr, storeVar]
  simp [hz.sz, hvc, h1, storeCells, hadd, hst, ResX]
  obtain ⟨hs1, hs2⟩ := ho.stored (k * ty.n + off) v
  refine ⟨_, _, ⟨rfl, rfl⟩, hs.mem.upd (e := own T ty (some ⟨g, 0, none⟩) c l) (e' := own T ty (some ⟨g, 0, none⟩) c (l.set k xv)) ⟨hs2.os, hs2.tape, hs2.output, hs2.size, fun b hb hne => hs2.block b hb (fun e => hne (by simp [own]; exact Option.some.inj e))⟩ (fun sh hm => ?_) (by simp [own]) (fun b hb => .inl hb)⟩
  obtain ⟨ys, ho', hreps'⟩ := hm.own _ hw.mem
  have hyx : ys = xs := by
    refine List.ext_getElem? fun j => ?_
    have hyl : ys.length = l.length * ty.n := ho'.1
    rcases Nat.lt_or_ge j (l.length * ty.n) with hj | hj
    · rw [← ho.cellAt j hj, ← ho'.cellAt j hj]
    · rw [List.getElem?_eq_none (by omega), List.getElem?_eq_none (by omega)]
  subst hyx
  have hkeep : ∀ b, sh b → (w.setCell ⟨g, k * ty.n + off, none⟩ v).heap[b]? = w.heap[b]? := fun b hb => hs2.block b (hm.shlt b hb) (fun e => hm.sep b (by
    refine List.mem_flatMap.2 ⟨_, hw.mem, ?_⟩
    simp [own]; exact Option.some.inj e) hb)
  refine ⟨ys.set (k * ty.n + off) v, by simpa using hs1, fun i x hx => ?_⟩
  rw [slot_set hoff (by omega)]
  rw [List.getElem?_set] at hx
  by_cases hik : k = i
  · subst hik
    rw [if_pos rfl, if_pos hlt] at hx
    cases hx
    rw [if_pos rfl]
    have h5 := hreps' k l[k] (by simp [hlt])
    have h6 := hC.cs _ _ _ _ h5
    rw [h6] at h5 ⊢
    exact ty.loc _ _ _ _ _ _ (hv _ _ h5) (fun _ h => h) hkeep
  · rw [if_neg hik] at hx ⊢
    exact ty.loc _ _ _ _ _ _ (hreps' i x hx) (fun _ h => h) hkeep


theorem ownsRow_inj {w : World} {b T n : Nat} {v : Value} {k : Nat} {xs ys : List Value} (h : w.ownsRow b T n v k xs) (h' : w.ownsRow b T n v k ys) : xs = ys := by
  rcases h.2 with ⟨h2, h3⟩ | ⟨g, cap, cur, rfl, _, hg, _, _, _, ht⟩
  · have h4 := h.1; have h5 := h'.1
    subst h3
    rw [Nat.zero_mul] at h4 h5
    rw [List.eq_nil_of_length_eq_zero h4, List.eq_nil_of_length_eq_zero h5]
  · rcases h'.2 with ⟨h2, _⟩ | ⟨g', cap', cur', hv, _, hg', _, _, _, ht'⟩
    · simp at h2
    · simp only [Value.slice.injEq, Option.some.injEq, Addr.mk.injEq, and_true, true_and] at hv
      obtain ⟨rfl, rfl⟩ := hv
      rw [hg] at hg'
      simp only [Option.some.injEq, Obj.cells.injEq, and_true] at hg'
      subst hg'
      rw [← ht, ← ht']

/-- an append to a row of one's own, of what one can read -/
theorem append_own {α : Type} {T : TypeId} {ty : RTy α} {a' : Option Addr} {c m c2 size bytes g2 o2 : Nat} {zcs : List Value} {l ls : List α} {news : List Value} {w : World} (hw : own T ty a' c l ∈ W) [ht : TSl P t T] [hi : TInfo P T size bytes zcs] (hz : zcs.length = size)
    (hh : Holds C W R w) (hn : ty.n = size) (h0 : 0 < size) (hnews : news.length = m * size) (hcell : cellsAt w ⟨g2, o2, none⟩ news) (h1 : ∀ v ∈ news, v.oneCell' = true) (hls : ls.length = m)
    (hrep : ∀ sh, HoldsAt sh C W R w → ∀ (i : Nat) x, ls[i]? = some x → ty.rep sh w (slot ty news i) x) (hb : (l.length + m) * bytes ≤ 140737488355328) (hmx : l.length + m ≤ maxLen) :
    ∃ a2 c3 w', (Builtin.append_ #[t, t] u #[.slice a' l.length c, .slice (some ⟨g2, o2, none⟩) m c2]).run P w = .ok (.slice a2 (l.length + m) c3) w' ∧
      ∀ W', Upd (own T ty a' c l) (own T ty a2 c3 (l ++ ls)) W W' → Holds C W' R w' := by
  obtain ⟨i, z, hi1, hi2, hi3, hi4, hi5⟩ := hi.ex
  obtain ⟨sh0, hm0⟩ := hh
  obtain ⟨xs, ho, hreps⟩ := hm0.own _ hw
  subst hn
  have hzs : z.cells.size = ty.n := by rw [hi5]; simpa using hz
  have hcell' : ∀ j v, news[j]? = some v → w.cell? ((⟨g2, o2, none⟩ : Addr).add j) = some v := fun j v hj => by
    have := hcell j v hj
    unfold Addr.add
    split
    · rename_i h0; subst h0; simpa using this
    · exact this
  obtain ⟨v', w', hr, ho', hg, hnil⟩ := run_append_own (P := P) w 0 t u T i z ty.n bytes ht.un hi1 hi2 hi3 hi4 hzs h0 _ l.length xs ho ⟨g2, o2, none⟩ m c2 news hnews hcell' h1 hmx hb (Nat.zero_le _)
  have hform : ∃ a2 c3, v' = .slice a2 (l.length + m) c3 ∧ ∀ b ∈ a2.toList.map (·.block), b ∈ a'.toList.map (·.block) ∨ w.heap.size ≤ b := by
    rcases ho'.2 with ⟨rfl, hlm⟩ | ⟨g, cap, cur, rfl, _, hgg, _⟩
    · exact ⟨none, 0, by rw [hlm], by simp⟩
    · refine ⟨_, _, rfl, fun b hb => ?_⟩
      simp at hb
      subst hb
      rcases ho.2 with ⟨h2, h3⟩ | ⟨g', cap', cur', hv, hg'0, hg', hnc, hcm, hcs, htake⟩
      · right
        have ho2 : w.ownsRow w.heap.size T ty.n (.slice a' l.length c) l.length xs := ⟨ho.1, .inl ⟨h2, h3⟩⟩
        obtain ⟨v2, w2, hr2, ho2', _⟩ := run_append_own (P := P) w w.heap.size t u T i z ty.n bytes ht.un hi1 hi2 hi3 hi4 hzs h0 _ l.length xs ho2 ⟨g2, o2, none⟩ m c2 news hnews hcell' h1 hmx hb (Nat.le_refl _)
        rw [hr] at hr2
        simp only [Result.ok.injEq] at hr2
        obtain ⟨rfl, rfl⟩ := hr2
        rcases ho2'.2 with ⟨h4, _⟩ | ⟨g4, _, _, h4, h5, _⟩
        · simp at h4
        · simp only [Value.slice.injEq, Option.some.injEq, Addr.mk.injEq, and_true] at h4
          rw [h4.1]; exact h5
      · simp only [Value.slice.injEq, true_and] at hv
        obtain ⟨rfl, rfl⟩ := hv
        by_cases hroom : l.length + m ≤ c
        · left
          have hr2 := run_append_room (P := P) w t u T i ht.un hi1 g' l.length c cur' hg' ⟨g2, o2, none⟩ m c2 news (by rw [hi3]; exact hnews) hcell' h1 hroom (by rw [hi3, hnews, hcs, ← Nat.add_mul]; exact Nat.mul_le_mul_right _ hroom)
          rw [hr] at hr2
          simp only [Result.ok.injEq, Value.slice.injEq, Option.some.injEq, Addr.mk.injEq, and_true] at hr2
          simp [hr2.1.1]
        · right
          have hr2 := run_append_grow (P := P) w t u T i z ht.un hi1 hi2 ⟨g', 0, none⟩ l.length c xs (by rw [hi3]; exact ho.1) (ho.cells (g := g') rfl) ⟨g2, o2, none⟩ m c2 news (by rw [hi3]; exact hnews) hcell' (by omega) (by simp only [maxLen] at hmx; omega) (by rw [hi4]; exact growslice_fits (by omega) hb)
          rw [hr] at hr2
          simp only [Result.ok.injEq, Value.slice.injEq, Option.some.injEq, Addr.mk.injEq, and_true] at hr2
          rw [hr2.1.1]; exact Nat.le_refl _
  obtain ⟨a2, c3, rfl, hblk⟩ := hform
  refine ⟨a2, c3, w', hr, fun W' hu => ?_⟩
  have hfp : ∀ k, k < w.heap.size → k ∉ (own T ty a' c l).fp → w'.heap[k]? = w.heap[k]? := fun k hk hne => hg.block k hk (fun e => hne (by
    cases a' with
    | none => simp [Value.ownBlock] at e
    | some q => simp [Value.ownBlock] at e; simp [own, e]))
  refine Holds.upd (e := own T ty a' c l) (e' := own T ty a2 c3 (l ++ ls)) ⟨sh0, hm0⟩ ⟨hg.os, hg.tape, hg.output, hg.size, hfp⟩ (fun sh hm => ?_) ?_ hblk
  · have hkeep : ∀ b, sh b → w'.heap[b]? = w.heap[b]? := fun b hb => hfp b (hm.shlt b hb) fun hbe => hm.sep b (List.mem_flatMap.2 ⟨_, hw, hbe⟩) hb
    obtain ⟨ys, hoy, hrepy⟩ := hm.own _ hw
    have hyx := ownsRow_inj ho hoy
    subst hyx
    refine ⟨xs ++ news, by simpa only [List.length_append, hls] using ho', fun k x hx => ?_⟩
    have hxl : xs.length = l.length * ty.n := ho.1
    by_cases hk : k < l.length
    · rw [List.getElem?_append_left hk] at hx
      have hkn : k * ty.n + ty.n ≤ l.length * ty.n := by
        have := Nat.mul_le_mul_right ty.n hk
        rwa [Nat.succ_mul] at this
      have : slot ty (xs ++ news) k = slot ty xs k := by
        simp only [slot]
        rw [List.drop_append_of_le_length (by omega), List.take_append_of_le_length (by rw [List.length_drop]; omega)]
      rw [this]
      exact ty.loc _ _ _ _ _ _ (hrepy k x hx) (fun _ h => h) hkeep
    · rw [List.getElem?_append_right (by omega)] at hx
      have : slot ty (xs ++ news) k = slot ty news (k - l.length) := by
        simp only [slot]
        have : k * ty.n = xs.length + (k - l.length) * ty.n := by rw [hxl, ← Nat.add_mul]; congr 1; omega
        rw [this, List.drop_append, List.drop_eq_nil_of_le (by omega), List.nil_append, Nat.add_sub_cancel_left]
      rw [this]
      exact ty.loc _ _ _ _ _ _ (hrep sh hm _ x hx) (fun _ h => h) hkeep
  · cases a2 <;> simp [own]

/-- append of one: built as a row for it -/
theorem op_append1 {α : Type} {T : TypeId} {ty : RTy α} {a' : Option Addr} {c m b size bytes : Nat} {zcs cs : List Value} {l : List α} (xv : α) {WN : Option Addr → Nat → List Ent} [hw : HasOwn a' W T ty c l] [ht : TSl P t T] [hi : TInfo P T size bytes zcs] [hc : HasCel b W T cs] [hW : ∀ a2 c3, Upd (own T ty a' c l) (own T ty a2 c3 (l ++ [xv])) W (WN a2 c3)]
    (hx : evalE E x = some (.slice a' m c)) (hy : evalE E y = some (.slice (some ⟨b, 0, none⟩) 1 1)) (hm : m = l.length)
    (hrep : ∀ sh w, HoldsAt sh C W R w → ty.rep sh w cs xv) (hl : l.length ≤ 1000000000000) (hz : zcs.length = size := by rfl) (hn : ty.n = size := by rfl) (hcl : cs.length = size := by rfl) (h0 : Nat.blt 0 size = true := by rfl) (hb : Nat.ble bytes 100 = true := by rfl) :
    OpY P C E W R ⟨d, .call ⟨.builtin .append, #[x, y], #[t, t]⟩, u, pos, aft, gd⟩ (fun v W' R' => ∃ a2 c3, v = .slice a2 (l ++ [xv]).length c3 ∧ W' = WN a2 c3 ∧ R' = R) := by
  intro a w hs
  have h0' : 0 < size := by simp [Nat.blt] at h0; omega
  have hb' : bytes ≤ 100 := Nat.le_of_ble_eq_true hb
  obtain ⟨sh0, hm0⟩ := hs.mem
  have hcel := hm0.own _ hc.mem
  have hslot : slot ty cs 0 = cs := by simp only [slot, Nat.zero_mul, List.drop_zero]; exact List.take_of_length_le (by omega)
  obtain ⟨a2, c3, w', hr, hu⟩ := append_own (P := P) (u := u) (t := t) (ty := ty) (ls := [xv]) (m := 1) (c2 := 1) (g2 := b) (o2 := 0) (news := cs) hw.mem hz hs.mem hn h0' (by omega) (fun j v hj => by rw [cell_of_cel hcel]; simpa using hj) (ty.one _ _ _ _ (hrep _ _ hm0)) rfl
    (fun sh hm i x hx => by
      obtain ⟨rfl, rfl⟩ : i = 0 ∧ xv = x := by
        cases i with
        | zero => simpa using hx
        | succ i => simp at hx
      rw [hslot]; exact hrep sh w hm) (by
      calc (l.length + 1) * bytes ≤ (1000000000000 + 1) * 100 := Nat.mul_le_mul (by omega) hb'
        _ ≤ _ := by omega) (by simp only [maxLen]; omega)
  subst hm
  simp only [execOp, resolve]
  simp [hs.fr.eval hx, hs.fr.eval hy, invoke, builtin, hr, ResX]
  exact ⟨_, _, ⟨_, _, ⟨rfl, rfl⟩, rfl, rfl⟩, hu _ (hW a2 c3)⟩

/-! ### Rows in rows, shared -/

theorem own_deep {α β : Type} {T : TypeId} {ty : RTy β} {ty' : RTy α} {a : Option Addr} {c : Nat} {l : List β} {f : β → Ent} (g : β → α) {sh : Nat → Prop} {w : World} (hn : ty'.n = ty.n)
    (hrep : ∀ sh w cs x, ty.rep sh w cs x → (f x).P sh w → ty'.rep (fun b => sh b ∨ b ∈ (f x).fp) w cs (g x))
    (h : (own T ty a c l).P sh w) (hg : (grp (l.map f)).P sh w) : sliceRep ty' (fun b => sh b ∨ b ∈ fps (own T ty a c l :: l.map f)) w a c (l.map g) := by
  have h1 := own_slice h
  refine ⟨by simpa using h1.1, h1.2.1, h1.2.2.1, fun i x hx => ?_⟩
  rw [List.getElem?_map] at hx
  cases hli : l[i]? with
  | none => rw [hli] at hx; cases hx
  | some y =>
    rw [hli] at hx
    simp only [Option.map_some, Option.some.injEq] at hx
    subst hx
    obtain ⟨g', o, cs, ha, hgb, hc, hr⟩ := h1.2.2.2 i y hli
    have hy : y ∈ l := List.mem_of_getElem? hli
    have hP := hg (f y) (List.mem_map_of_mem hy)
    have hsub : ∀ b, (b ∈ (own T ty a c l).fp ∨ b ∈ (f y).fp) → b ∈ fps (own T ty a c l :: l.map f) := by
      rintro b (hb | hb)
      · exact List.mem_flatMap.2 ⟨_, List.mem_cons_self .., hb⟩
      · exact List.mem_flatMap.2 ⟨_, List.mem_cons_of_mem _ (List.mem_map_of_mem hy), hb⟩
    refine ⟨g', o, cs, ha, ?_, by rw [hn]; exact hc, ?_⟩
    · rcases hgb with hgb | hgb
      · exact .inl hgb
      · exact .inr (hsub _ (.inl hgb))
    · have h2 := hrep _ _ _ _ hr ((f y).loc _ _ _ _ hP (fun b hb => .inl hb) (fun _ _ => rfl) (fun _ _ => rfl))
      refine ty'.loc _ _ _ _ _ _ h2 ?_ (fun _ _ => rfl)
      rintro b ((hb | hb) | hb)
      · exact .inl hb
      · exact .inr (hsub _ (.inl hb))
      · exact .inr (hsub _ (.inr hb))

/-- a row of rows of one's own that is written no more -/
theorem Holds.shareDeep {α β : Type} {T : TypeId} {ty : RTy β} {ty' : RTy α} {a : Option Addr} {c : Nat} {l : List β} {f : β → Ent} {w : World} (g : β → α) (hn : ty'.n = ty.n)
    (hrep : ∀ sh w cs x, ty.rep sh w cs x → (f x).P sh w → ty'.rep (fun b => sh b ∨ b ∈ (f x).fp) w cs (g x))
    [hs : Split [own T ty a c l, Ytdeacehacndopaa.grp (l.map f)] W W'] (h : Holds C W R w) : Holds C W' (ro ty' a c (l.map g) :: R) w := by
  have h1 := h.perm hs.perm
  have h2 : Holds C (Ytdeacehacndopaa.grp (own T ty a c l :: l.map f) :: W') R w := by
    refine Holds.grp (Holds.perm (((h1.perm (List.Perm.swap _ _ _)).ungrp)) ?_)
    exact List.perm_middle
  refine h2.share (e := Ytdeacehacndopaa.grp (own T ty a c l :: l.map f)) (r := ro ty' a c (l.map g)) fun sh he => ?_
  exact own_deep g hn hrep (he _ (List.mem_cons_self ..)) (fun e hm => he e (List.mem_cons_of_mem _ hm))

theorem GoC.shareDeep {α β : Type} (a : Option Addr) {T : TypeId} {ty : RTy β} {c : Nat} {l : List β} {code : Code} {f : β → Ent} (ty' : RTy α) (g : β → α) [ho : HasOwn a W T ty c l] [hs : Split [own T ty a c l, Ytdeacehacndopaa.grp (l.map f)] W W'] (hn : ty'.n = ty.n)
    (hrep : ∀ sh w cs x, ty.rep sh w cs x → (f x).P sh w → ty'.rep (fun b => sh b ∨ b ∈ (f x).fp) w cs (g x))
    (h : GoC P C E W' (ro ty' a c (l.map g) :: R) code Q) : GoC P C E W R code Q :=
  GoC.mem (fun w hw => Holds.shareDeep (a := a) (T := T) (ty := ty) (c := c) (l := l) (f := f) g hn hrep hw) h

/-- rows of numbers -/
abbrev inr (T : TypeId) {α : Type} (ty : RTy α) : Row α → Ent := fun r => own T ty r.a r.c r.l
theorem rep_inr {α : Type} {T : TypeId} {ty : RTy α} (sh : Nat → Prop) (w : World) (cs : List Value) (x : Row α) (h : (tH α).rep sh w cs x) (h2 : (inr T ty x).P sh w) : (tSl ty).rep (fun b => sh b ∨ b ∈ (inr T ty x).fp) w cs x.l :=
  ⟨x.a, x.c, h, own_slice h2⟩

/-! ### What is known, kept among the facts -/

def pur (p : Prop) : RF where
  P _ _ := p
  loc _ _ _ _ h _ _ := h
theorem GoC.pur {p : Prop} {c : Code} (h : p → GoC P C E W R c Q) : GoC P C E W (pur p :: R) c Q := by
  intro a w hs
  obtain ⟨sh, hm⟩ := hs.mem
  exact h (hm.facts _ (List.mem_cons_self ..)) a w ⟨hs.fr, hs.mem.drop (List.Sublist.refl _) fun r hr => List.mem_cons_of_mem _ hr⟩
theorem GoL.pur {p : Prop} {l : List Oper} (h : p → GoL P C ops E W R l Q) : GoL P C ops E W (Ytdeacehacndopaa.pur p :: R) l Q := by
  intro a w hs
  obtain ⟨sh, hm⟩ := hs.mem
  exact h (hm.facts _ (List.mem_cons_self ..)) a w ⟨hs.fr, hs.mem.drop (List.Sublist.refl _) fun r hr => List.mem_cons_of_mem _ hr⟩
theorem Holds.pur {p : Prop} {w : World} (hp : p) (h : Holds C W R w) : Holds C W (Ytdeacehacndopaa.pur p :: R) w := h.more fun _ _ => hp

theorem GoL.mem {l : List Oper} (hm : ∀ w, Holds C W R w → Holds C W' R' w) (h : GoL P C ops E W' R' l Q) : GoL P C ops E W R l Q :=
  fun a w s => h a w ⟨s.fr, hm w s.mem⟩

theorem GoL.shareOwn {l : List Oper} {α : Type} (a : Option Addr) {T : TypeId} {ty : RTy α} {n : Nat} {m : List α} [hc : HasOwn a W T ty n m] [hd : Del (own T ty a n m) W W'] (h : GoL P C ops E W' (ro ty a n m :: R) l Q) : GoL P C ops E W R l Q :=
  GoL.mem (fun w hw => hw.share (e := own T ty a n m) (r := ro ty a n m) fun sh he => own_slice he) h
theorem GoL.shareCel {l : List Oper} (b : Nat) {T : TypeId} {cs : List Value} [hc : HasCel b W T cs] [hd : Del (cel b T cs) W W'] (h : GoL P C ops E W' (cells (some ⟨b, 0, none⟩) 0 cs :: R) l Q) : GoL P C ops E W R l Q :=
  GoL.mem (fun w hw => hw.share (e := cel b T cs) (r := cells (some ⟨b, 0, none⟩) 0 cs) fun sh he => ⟨b, 0, rfl, .inr (by simp [cel]), fun j v hj => by rw [Nat.add_zero, Nat.zero_add, cell_of_cel he]; exact hj⟩) h

/-- the numbers of a row are such numbers -/
theorem GoC.own64 {c : Code} {kk : IntKind} (a : Option Addr) {T : TypeId} {n : Nat} {m : List Int} [hc : HasOwn a W T (tI kk) n m] (h : (∀ v ∈ m, kk.wrap v = v) → GoC P C E W R c Q) : GoC P C E W R c Q := by
  intro a' w hs
  obtain ⟨sh, hm⟩ := hs.mem
  refine h (fun v hv => ?_) a' w hs
  obtain ⟨i, hi⟩ := List.mem_iff_getElem?.1 hv
  obtain ⟨xs, _, hr⟩ := hm.own _ hc.mem
  exact (hr i v hi).2
theorem GoC.ro64 {c : Code} {kk : IntKind} (a : Option Addr) {n : Nat} {m : List Int} [hc : HasRo a R (tI kk) n m] (h : (∀ v ∈ m, kk.wrap v = v) → GoC P C E W R c Q) : GoC P C E W R c Q := by
  intro a' w hs
  obtain ⟨sh, hm⟩ := hs.mem
  refine h (fun v hv => ?_) a' w hs
  obtain ⟨i, hi⟩ := List.mem_iff_getElem?.1 hv
  obtain ⟨_, _, _, _, _, _, hr⟩ := (hm.facts _ hc.mem).2.2.2 i v hi
  exact hr.2

/-! ### Calls that write what is handed to them -/

theorem Holds.frameM {n : Nat} {sh : Nat → Prop} {Wa Wr W1 : List Ent} {R1 : List RF} {w w' : World} (h : HoldsAt sh C (Wa ++ Wr) R w) (h1 : Holds ⟨n, w, fps Wa, sh⟩ W1 R1 w') : Holds C (W1 ++ Wr) (R1 ++ R) w' := by
  obtain ⟨s1, h1⟩ := h1
  have hk : Keep (fps Wa) w w' := h1.keep
  have hlt : ∀ b ∈ fps (Wa ++ Wr), b < w.heap.size := by
    intro b hb
    obtain ⟨x, hx, hbx⟩ := List.mem_flatMap.1 hb
    exact x.lt _ _ (h.own x hx) b hbx
  have hnd := h.nodup
  rw [fps_append] at hnd hlt
  have hsepa : ∀ b, sh b → b ∉ fps Wa := fun b hs hb => h.sep b (by rw [fps_append]; exact List.mem_append_left _ hb) hs
  have hsepr : ∀ b ∈ fps Wr, ¬ sh b := fun b hb => h.sep b (by rw [fps_append]; exact List.mem_append_right _ hb)
  have hdis : ∀ b ∈ fps Wr, b ∉ fps Wa := fun b hb hba => (List.nodup_append.1 hnd).2.2 b hba b hb rfl
  have hbs : ∀ b, sh b → w'.heap[b]? = w.heap[b]? := fun b hb => hk.block b (h.shlt b hb) (hsepa b hb)
  have hbr : ∀ b ∈ fps Wr, w'.heap[b]? = w.heap[b]? := fun b hb => hk.block b (hlt b (List.mem_append_right _ hb)) (hdis b hb)
  have hge : ∀ b ∈ fps W1, w.heap.size ≤ b ∨ b ∈ fps Wa := fun b hb => h1.may b hb
  have hz : ∀ b, s1 b → sh b ∨ w.heap.size ≤ b ∨ b ∈ fps Wa := fun b hb => h1.zone b hb
  refine ⟨fun b => sh b ∨ s1 b, ?_, ?_, ?_, ?_, ?_, ?_, ?_, ?_⟩
  · intro x hx
    rcases List.mem_append.1 hx with hx | hx
    · exact x.loc _ _ _ _ (h1.own x hx) (fun b hb => .inr hb) (fun _ _ => rfl) (fun _ _ => rfl)
    · exact x.loc _ _ _ _ (h.own x (List.mem_append_right _ hx)) (fun b hb => .inl hb) (fun b hbx => hbr b (List.mem_flatMap.2 ⟨x, hx, hbx⟩)) hbs
  · rw [fps_append, List.nodup_append]
    refine ⟨h1.nodup, (List.nodup_append.1 hnd).2.1, fun x hx y hy hxy => ?_⟩
    subst hxy
    rcases hge x hx with h2 | h2
    · have := hlt x (List.mem_append_right _ hy); omega
    · exact hdis x hy h2
  · intro b hbm
    rw [fps_append] at hbm
    rcases List.mem_append.1 hbm with hbm | hbm
    · rintro (h' | h')
      · rcases hge b hbm with h2 | h2
        · have := h.shlt b h'; omega
        · exact hsepa b h' h2
      · exact h1.sep b hbm h'
    · rintro (h' | h')
      · exact hsepr b hbm h'
      · rcases hz b h' with h'' | h'' | h''
        · exact hsepr b hbm h''
        · have := hlt b (List.mem_append_right _ hbm); omega
        · exact hdis b hbm h''
  · intro b hbm
    rw [fps_append] at hbm
    rcases List.mem_append.1 hbm with hbm | hbm
    · rcases hge b hbm with h2 | h2
      · exact .inl (Nat.le_trans h.keep.size h2)
      · exact h.may b (by rw [fps_append]; exact List.mem_append_left _ h2)
    · exact h.may b (by rw [fps_append]; exact List.mem_append_right _ hbm)
  · intro x hx
    rcases List.mem_append.1 hx with hx | hx
    · exact x.loc _ _ _ _ (h1.facts x hx) (fun b hb => .inr hb) (fun _ _ => rfl)
    · exact x.loc _ _ _ _ (h.facts x hx) (fun b hb => .inl hb) hbs
  · rintro b (h' | h')
    · exact Nat.lt_of_lt_of_le (h.shlt b h') hk.size
    · exact h1.shlt b h'
  · rintro b (h' | h')
    · exact h.zone b h'
    · rcases hz b h' with h'' | h'' | h''
      · exact h.zone b h''
      · exact .inr (.inl (Nat.le_trans h.keep.size h''))
      · exact .inr (h.may b (by rw [fps_append]; exact List.mem_append_left _ h''))
  · refine ⟨hk.os.trans h.keep.os, hk.tape.trans h.keep.tape, hk.output.trans h.keep.output, Nat.le_trans h.keep.size hk.size, fun k hkk hkm => ?_⟩
    rw [hk.block k (Nat.lt_of_lt_of_le hkk h.keep.size) (fun hka => ?_)]
    · exact h.keep.block k hkk hkm
    · rcases h.may k (by rw [fps_append]; exact List.mem_append_left _ hka) with h2 | h2
      · omega
      · exact hkm h2

theorem HoldsAt.partM {sh : Nat → Prop} {Wa Wr : List Ent} {w : World} (h : HoldsAt sh C (Wa ++ Wr) R w) {R1 : List RF} (hR : ∀ r ∈ R1, r ∈ R) : Holds ⟨0, w, fps Wa, sh⟩ Wa R1 w := by
  have hnd := h.nodup
  rw [fps_append] at hnd
  exact ⟨sh, fun e he => h.own e (List.mem_append_left _ he), (List.nodup_append.1 hnd).1, fun b hb => h.sep b (by rw [fps_append]; exact List.mem_append_left _ hb), fun b hb => .inr hb, fun r hr => h.facts r (hR r hr), h.shlt, fun b hb => .inl hb, Keep.refl _ _⟩

theorem HoldsAt.perm' {sh : Nat → Prop} {w : World} (hm : HoldsAt sh C W R w) (hp : List.Perm W W') : HoldsAt sh C W' R w := by
  have hf := fps_perm hp
  exact ⟨fun e he => hm.own e (hp.mem_iff.2 he), hf.nodup_iff.1 hm.nodup, fun b hb => hm.sep b (hf.mem_iff.2 hb), fun b hb => hm.may b (hf.mem_iff.2 hb), hm.facts, hm.shlt, hm.zone, hm.keep⟩

/-- a call by its contract, of one that writes into Wa -/
theorem op_callM {f : FuncId} {xs : List Operand} {vs : List Value} {ts : Array TypeId} {γ : Type} {v : γ → Value} {W1 WN : γ → List Ent} {R1 RN : γ → List RF} {Wa Wr : List Ent} {Ra : List RF} [hf : TFn P f] [hs : Split Wa W Wr] [hR : AllIn Ra R] [hW : ∀ g, App (W1 g) Wr (WN g)] [hN : ∀ g, App (R1 g) R (RN g)] (hx : evalEs E xs = some vs)
    (hc : ∀ sh w, Holds ⟨0, w, fps Wa, sh⟩ Wa Ra w → Calls P f vs.toArray w fun e w' => ∃ g, e = .returned (v g) ∧ Holds ⟨0, w, fps Wa, sh⟩ (W1 g) (R1 g) w') :
    OpY P C E W R ⟨d, .call ⟨.value (.func f), xs.toArray, ts⟩, u, pos, aft, gd⟩ (fun v' W' R' => ∃ g, v' = v g ∧ W' = WN g ∧ R' = RN g) :=
  op_callY hx fun w hw => by
    obtain ⟨sh, hm⟩ := hw
    have hm' := hm.perm' hs.perm
    refine (hc sh w (hm'.partM hR.all)).mono fun e w' ⟨g, he, hh⟩ => ?_
    refine ⟨v g, he, _, _, ⟨g, rfl, rfl, rfl⟩, ?_⟩
    rw [(hW g).eq, (hN g).eq]; exact Holds.frameM hm' hh

/-- a call of a function value that writes -/
theorem op_cValM {f : FuncId} {fo : Operand} {xs : List Operand} {vs us : List Value} {ts : Array TypeId} {γ : Type} {v : γ → Value} {W1 WN : γ → List Ent} {R1 RN : γ → List RF} {Wa Wr : List Ent} {Ra : List RF} [hf : TFn P f] [hs : Split Wa W Wr] [hR : AllIn Ra R] [hW : ∀ g, App (W1 g) Wr (WN g)] [hN : ∀ g, App (R1 g) R (RN g)]
    (hfo : evalE E fo = some (.func (.func f) #[] us.toArray)) (hx : evalEs E xs = some vs)
    (hc : ∀ sh w, Holds ⟨0, w, fps Wa, sh⟩ Wa Ra w → Calls P f (vs ++ us).toArray w fun e w' => ∃ g, e = .returned (v g) ∧ Holds ⟨0, w, fps Wa, sh⟩ (W1 g) (R1 g) w') :
    OpY P C E W R ⟨d, .call ⟨.value fo, xs.toArray, ts⟩, u, pos, aft, gd⟩ (fun v' W' R' => ∃ g, v' = v g ∧ W' = WN g ∧ R' = RN g) := by
  intro a w hst
  have ha : (xs.toArray.map a.eval) = vs.toArray := by rw [← evalEs_map hst.fr hx]; simp
  simp only [execOp, resolve, ha, hst.fr.eval hfo]
  simp [Deferred.ofValue, invoke, hf.call, ResX]
  obtain ⟨sh, hm⟩ := hst.mem
  have hm' := hm.perm' hs.perm
  refine (hc sh w (hm'.partM hR.all)).mono fun e w' ⟨g, he, hh⟩ => ?_
  refine ⟨v g, he, _, _, ⟨g, rfl, rfl, rfl⟩, ?_⟩
  rw [(hW g).eq, (hN g).eq]; exact Holds.frameM hm' hh

/-! ### Slices of slices -/

/-- a part of a slice that is shared -/
theorem op_sliceR {α : Type} {ty : RTy α} {a' : Option Addr} {c n : Nat} {ag : Bool} {l : List α} {lo hi : Option Operand} (i j : Nat) [hw : HasRo a' R ty c l] [ht : TSl P t e] [hz : TSz P e n ag]
    (hx : evalE E x = some (.slice a' l.length c)) (hlo : match lo with | none => i = 0 | some o => ∃ k, evalE E o = some (.int k (i : Int))) (hhi : match hi with | none => j = l.length | some o => ∃ k, evalE E o = some (.int k (j : Int)))
    (hij : i ≤ j) (hj : j ≤ l.length) (hn : ty.n = n := by rfl) :
    OpX P C E W R ⟨d, .slice t x lo hi none, u, pos, aft, gd⟩ (fun v W' R' => ∃ a2, v = .slice a2 ((l.drop i).take (j - i)).length (c - i) ∧ W' = W ∧ R' = ro ty a2 (c - i) ((l.drop i).take (j - i)) :: R) := by
  intro a w hs
  obtain ⟨sh0, hm0⟩ := hs.mem
  have h1 := (hm0.facts _ hw.mem).1
  have hsub : ∀ sh, HoldsAt sh C W R w → sliceRep ty sh w (if c = i then a' else a'.map (·.add (i * n))) (c - i) ((l.drop i).take (j - i)) := by
    intro sh hm
    obtain ⟨h1, h2, h3, h4⟩ := hm.facts _ hw.mem
    refine ⟨by simp; omega, by simp only [maxLen] at *; omega, fun h0 => ?_, fun k x hx => ?_⟩
    · split at h0
      · omega
      · cases a' with
        | none => have := h3 rfl; omega
        | some q => simp at h0
    · rw [List.getElem?_take] at hx
      split at hx
      · rename_i hk
        rw [List.getElem?_drop] at hx
        obtain ⟨g, o, cs, ha, hg, hc, hrep⟩ := h4 (i + k) x hx
        subst ha
        have hci : c ≠ i := by omega
        have hadd : (Addr.add ⟨g, o, none⟩ (i * n)) = ⟨g, o + i * n, none⟩ := by
          unfold Addr.add; split
          · rename_i h; simp [h]
          · rfl
        refine ⟨g, o + i * n, cs, by rw [if_neg hci]; simp [hadd], hg, ?_, hrep⟩
        rw [hn] at hc ⊢
        rwa [Nat.add_assoc, ← Nat.add_mul]
      · cases hx
  have hrun : (Instr.sliceAt t (.slice a' l.length c) (lo.map a.eval) (hi.map a.eval) none).run P w = .ok (.slice (if c = i then a' else a'.map (·.add (i * n))) (j - i) (c - i)) w := by
    have e1 : ∀ (k : IntKind) (p : Nat) (q : Nat) (cd : BoundsCode), p ≤ q → (Instr.sliceBound (.int k (p : Int)) q cd).run P w = .ok p w := by
      intro k p q cd hpq
      have : (0 : Int) ≤ p ∧ (p : Int) ≤ q := by omega
      simp [Instr.sliceBound, asIntOf, this, hpq]
    have e2 : (Instr.sliceBounds true l.length c (lo.map a.eval) (hi.map a.eval) none).run P w = .ok (i, j, c) w := by
      cases hi with
      | none =>
        simp only at hhi
        subst hhi
        cases lo with
        | none => simp only at hlo; subst hlo; simp [Instr.sliceBounds]
        | some o => obtain ⟨k, hk⟩ := hlo; simp [Instr.sliceBounds, hs.fr.eval hk, e1 k i l.length _ hij]
      | some o' =>
        obtain ⟨k', hk'⟩ := hhi
        cases lo with
        | none => simp only at hlo; subst hlo; simp [Instr.sliceBounds, hs.fr.eval hk', e1 k' j c _ (Nat.le_trans hj h1)]
        | some o => obtain ⟨k, hk⟩ := hlo; simp [Instr.sliceBounds, hs.fr.eval hk, hs.fr.eval hk', e1 k' j c _ (Nat.le_trans hj h1), e1 k i j _ hij]
    simp [Instr.sliceAt, Instr.slice, run_under ht.un, e2, hz.sz]
  have hlen : ((l.drop i).take (j - i)).length = j - i := by simp; omega
  simp only [execOp, hs.fr.eval hx]
  simp only [hlen]
  simp [hrun, ResX]
  exact ⟨_, _, ⟨rfl, rfl⟩, hs.mem.more (r := ro ty _ (c - i) ((l.drop i).take (j - i))) hsub, Keep.refl _ _⟩

end
end Go.Proofs.Ytdeacehacndopaa

namespace Go.Proofs.Ytdeacehacndopaa
open Go.RowKit

def lookB (ops : Array Oper) (as : List Nat) (m : Nat) (dn : List Nat) (i : Nat) : Bool :=
  (List.range m).all fun j => Nat.beq j i || (match ops[i]?, (ops[j]?).bind (·.dst) with
    | some oi, some d => !(oi.looksAt ops).contains d || (dn.contains j && bitB as i j) || (!dn.contains j && bitB as j i)
    | _, _ => true)
def selfB (ops : Array Oper) (i : Nat) : Bool :=
  match ops[i]? with
  | some oi => (match oi.dst with
    | some d => !(oi.looksAt ops).contains d
    | none => true)
  | none => true
def chkB (ops : Array Oper) (as : List Nat) (m : Nat) (dn : List Nat) (i : Nat) : Bool := Nat.blt i m && !dn.contains i && lookB ops as m dn i && selfB ops i
def stuckB (as : List Nat) (m : Nat) (dn ks : List Nat) : Bool :=
  (List.range m).all fun i => dn.contains i || ks.contains i || (List.range m).any fun j => !dn.contains j && bitB as i j
def fitSB (ops : Array Oper) (as : List Nat) (dn wl : List Nat) (k : Nat) (ps : List Nat) : Bool :=
  (dn.all fun j => ps.contains j || bitB as k j || wl.contains j) &&
  ps.all fun j => dn.contains j && dn.all fun i => Nat.beq i j || (match (ops[i]?).bind (·.dst), ops[j]? with
    | some d, some oj => !(oj.looksAt ops).contains d || bitB as j i
    | _, _ => true)
def fitTB (ops : Array Oper) (as : List Nat) (m : Nat) : Tr → Bool → List Nat → List Nat → Bool
  | .nil, _, dn, _ => (List.range m).all fun i => dn.contains i
  | .op i t, br, dn, wl => !br && chkB ops as m dn i && fitTB ops as m t false (dn ++ [i]) wl
  | .w k t, br, dn, wl => (br || stuckB as m dn [k]) && chkB ops as m dn k && fitTB ops as m t false (dn ++ [k]) (k :: wl)
  | .s k ps t, br, dn, wl => (br || stuckB as m dn [k]) && chkB ops as m dn k && fitSB ops as dn wl k ps && fitTB ops as m t false (dn ++ [k]) (k :: wl)
  | .y k ps t, br, dn, wl => (br || stuckB as m dn [k]) && chkB ops as m dn k && fitSB ops as dn wl k ps && fitTB ops as m t false (dn ++ [k]) (k :: wl)
  | .or2 a b, br, dn, wl => (br || stuckB as m dn (a.heads ++ b.heads)) && fitTB ops as m a true dn wl && fitTB ops as m b true dn wl
def globB (ops : Array Oper) (as : List Nat) (m : Nat) : Bool :=
  Nat.ble m ops.size && ((List.range m).all fun i => (List.range m).all fun j => Nat.beq i j || (match (ops[i]?).bind (·.dst), (ops[j]?).bind (·.dst) with
    | some d, some e => !(Nat.beq d e)
    | _, _ => true)) &&
  ((List.range ops.size).all fun t => Nat.blt t m || (List.range t).all fun j => bitB as t j) &&
  (ops.toList.zipIdx.all fun x => x.1.after.toList.all fun e => !(Region.binds .any e) || Nat.blt e.on x.2) &&
  Region.noSelect ops
def treeB (ops : Array Oper) (m : Nat) (t : Tr) : Bool := globB ops (ancs ops.toList []) m && fitTB ops (ancs ops.toList []) m t false [] []

section
variable {ops : Array Oper}

theorem ancs_anc {i k : Nat} (hb : bitB (ancs ops.toList []) i k = true) : Anc ops i k := by
  unfold bitB at hb
  cases hg : (ancs ops.toList [])[i]? with
  | none => simp [List.getD, hg] at hb
  | some mk =>
    refine ancs_spec ops.toList [] (fun j => by simp) (by simp) i mk hg k (by simpa [List.getD, hg] using hb)

theorem Chk.of {m : Nat} {dn : List Nat} {i : Nat} (h : chkB ops (ancs ops.toList []) m dn i = true) : Chk ops m dn i := by
  simp only [chkB, Bool.and_eq_true, Bool.not_eq_true'] at h
  obtain ⟨⟨⟨h1, h2⟩, h3⟩, h4⟩ := h
  refine ⟨by simp [Nat.blt] at h1; omega, by simpa using h2, ?_, ?_⟩
  · intro j hj hne oi oj d hoi hoj hd hm
    have := List.all_eq_true.1 h3 j (List.mem_range.2 hj)
    rw [hoi, hoj] at this
    simp only [Option.bind_some, hd, Bool.or_eq_true, Bool.and_eq_true, Bool.not_eq_true'] at this
    rcases this with h' | ((h' | ⟨h', h5⟩) | ⟨h', h5⟩)
    · exact absurd (Nat.eq_of_beq_eq_true h') hne
    · simp at h'; exact absurd hm h'
    · exact .inl ⟨by simpa using h', ancs_anc h5⟩
    · exact .inr ⟨by simpa using h', ancs_anc h5⟩
  · intro oi d hoi hd
    unfold selfB at h4
    rw [hoi] at h4
    simp only [hd] at h4
    simpa using h4

theorem Stuck.of {m : Nat} {dn ks : List Nat} (h : stuckB (ancs ops.toList []) m dn ks = true) : Stuck ops m dn ks := by
  intro i hi hd hk
  have := List.all_eq_true.1 h i (List.mem_range.2 hi)
  simp only [Bool.or_eq_true] at this
  rcases this with (h' | h') | h'
  · exact absurd (by simpa using h') hd
  · exact absurd (by simpa using h') hk
  · obtain ⟨j, hj, h5⟩ := List.any_eq_true.1 h'
    simp only [Bool.and_eq_true, Bool.not_eq_true'] at h5
    exact ⟨j, List.mem_range.1 hj, by simpa using h5.1, ancs_anc h5.2⟩

theorem FitS.of {dn wl ps : List Nat} {k : Nat} (h : fitSB ops (ancs ops.toList []) dn wl k ps = true) : FitS ops dn wl k ps := by
  simp only [fitSB, Bool.and_eq_true] at h
  refine ⟨fun j hj => ?_, fun j hj => ?_⟩
  · have := List.all_eq_true.1 h.1 j hj
    simp only [Bool.or_eq_true] at this
    rcases this with (h' | h') | h'
    · exact .inl (by simpa using h')
    · exact .inr (.inl (ancs_anc h'))
    · exact .inr (.inr (by simpa using h'))
  · have := List.all_eq_true.1 h.2 j hj
    simp only [Bool.and_eq_true] at this
    refine ⟨by simpa using this.1, fun i hi hne oi oj d hoi hoj hd hm => ?_⟩
    have := List.all_eq_true.1 this.2 i hi
    rw [hoi, hoj] at this
    simp only [Option.bind_some, hd, Bool.or_eq_true, Bool.not_eq_true'] at this
    rcases this with h' | (h' | h')
    · exact absurd (Nat.eq_of_beq_eq_true h') hne
    · simp at h'; exact absurd hm h'
    · exact ancs_anc h'

theorem FitT.of {m : Nat} : ∀ {t : Tr} {br : Bool} {dn wl : List Nat}, fitTB ops (ancs ops.toList []) m t br dn wl = true → FitT ops m t br dn wl
  | .nil, _, _, _, h => fun i hi => by simpa using List.all_eq_true.1 h i (List.mem_range.2 hi)
  | .op i t, br, dn, wl, h => by
    simp only [fitTB, Bool.and_eq_true, Bool.not_eq_true'] at h
    exact ⟨h.1.1, Chk.of h.1.2, FitT.of h.2⟩
  | .w k t, br, dn, wl, h => by
    simp only [fitTB, Bool.and_eq_true, Bool.or_eq_true] at h
    exact ⟨fun hb => Stuck.of (h.1.1.resolve_left (by simp [hb])), Chk.of h.1.2, FitT.of h.2⟩
  | .s k ps t, br, dn, wl, h => by
    simp only [fitTB, Bool.and_eq_true, Bool.or_eq_true] at h
    exact ⟨fun hb => Stuck.of (h.1.1.1.resolve_left (by simp [hb])), Chk.of h.1.1.2, FitS.of h.1.2, FitT.of h.2⟩
  | .y k ps t, br, dn, wl, h => by
    simp only [fitTB, Bool.and_eq_true, Bool.or_eq_true] at h
    exact ⟨fun hb => Stuck.of (h.1.1.1.resolve_left (by simp [hb])), Chk.of h.1.1.2, FitS.of h.1.2, FitT.of h.2⟩
  | .or2 a b, br, dn, wl, h => by
    simp only [fitTB, Bool.and_eq_true, Bool.or_eq_true] at h
    exact ⟨fun hb => Stuck.of (h.1.1.resolve_left (by simp [hb])), FitT.of h.1.2, FitT.of h.2⟩

theorem Glob.of {m : Nat} (h : globB ops (ancs ops.toList []) m = true) : Glob ops m := by
  simp only [globB, Bool.and_eq_true] at h
  obtain ⟨⟨⟨⟨h1, h2⟩, h5⟩, h6⟩, h7⟩ := h
  refine ⟨by simpa using h1, ?_, ?_, ?_, ?_⟩
  · intro i j hi hj hne oi oj d hoi hoj hd he
    have := List.all_eq_true.1 (List.all_eq_true.1 h2 i (List.mem_range.2 hi)) j (List.mem_range.2 hj)
    rw [hoi, hoj] at this
    simp only [Option.bind_some, hd, he, Nat.beq_refl, Bool.not_true, Bool.or_false] at this
    exact hne (Nat.eq_of_beq_eq_true this)
  · intro t hm ht j hj
    have := List.all_eq_true.1 h5 t (List.mem_range.2 ht)
    simp only [Bool.or_eq_true] at this
    rcases this with h' | h'
    · simp [Nat.blt] at h'; omega
    · exact ancs_anc (List.all_eq_true.1 h' j (List.mem_range.2 hj))
  · intro i o e ho he hb
    have hmem : (o, i) ∈ ops.toList.zipIdx := by
      rw [List.mem_zipIdx_iff_getElem?]; simpa using ho
    have := List.all_eq_true.1 h6 _ hmem
    have := List.all_eq_true.1 this e (by simpa using he)
    simp [hb, Nat.blt] at this; omega
  · intro i o cs b ho
    exact Region.noSelect_spec h7 i o cs b ho
end

section
variable {P : Program} {C : Cx} {E : Env} {W : List Ent} {R : List RF} {Q : Exit → Act → World → Prop} {ops : Array Oper} {m : Nat} {t : Tr}

theorem GoC.tree {id : Nat} {l : List Oper} (m : Nat) (t : Tr) (hf : treeB l.toArray m t = true) (hm : P.follows .mixedOrders = true)
    (h : CanT P C l.toArray Q m t E W R) : GoC P C E W R (.region id l.toArray true) Q := by
  intro a w hs
  refine wp_region_any hm ?_
  simp only [treeB, Bool.and_eq_true] at hf
  have hG := Glob.of hf.1
  have hk : ∀ t v, look E t = some v → t < C.n := fun t v hv => by
    have := hs.fr.val t v hv
    have := (Array.getElem?_eq_some_iff.1 this).1
    rw [hs.fr.size] at this; exact this
  have hrep : ∀ i, i < l.toArray.size → (Array.replicate l.toArray.size false).getD i true = false := fun i hi => by simp at hi; simp [hi]
  refine main_runT hG _ t [] [] [] _ E W R a _ ?_ (FitT.of hf.2) ⟨by simp, ?_, by simp, by simp, by simp, by simp, by simp, fun i hi _ => hrep i (Nat.lt_of_lt_of_le hi hG.le), fun t _ ht => hrep t ht, hs.fr.size, hs.fr.dfr, hk, fun t v hv _ => hs.fr.val t v hv, hs.mem.ext (Keep.drew w)⟩ h
  · unfold left
    rw [List.filter_eq_self.2 (fun i hi => by rw [hrep i (List.mem_range.1 hi)]; rfl)]
    simp
  · intro i o ho hl
    have hi := (Array.getElem?_eq_some_iff.1 ho).1
    simp at hi
    simp [hi] at hl

theorem CanT.nil {tl : List Oper} (ht : ops.toList.drop m = tl) (h : GoL P C ops E W R tl Q) : CanT P C ops Q m .nil E W R := by
  simp only [CanT]; rw [ht]; exact h
theorem CanT.p {i d : Nat} {o : Oper} {v : Value} (ho : ops[i]? = some o) (h : OpP P C E W R o v) (k : CanT P C ops Q m t ((d, v) :: E) W R)
    (hd : o.dst = some d := by rfl) (hn : Nat.blt d C.n = true := by rfl) (hw : Wn ops E o := by exact Wn.none rfl) : CanT P C ops Q m (.op i t) E W R :=
  ⟨o, d, v, ho, hd, hn, fun a w hs => .inl ⟨hw _ _ hs.fr, h a w hs⟩, k⟩
theorem CanT.q {i d : Nat} {o : Oper} {v : Value} (ho : ops[i]? = some o) (h : OpR P C E W R o v) (k : CanT P C ops Q m t ((d, v) :: E) W R)
    (hd : o.dst = some d := by rfl) (hn : Nat.blt d C.n = true := by rfl) (hw : Wn ops E o := by exact Wn.none rfl) : CanT P C ops Q m (.op i t) E W R :=
  CanT.p ho h.p k hd hn hw
theorem CanT.x {i d : Nat} {o : Oper} {Φ : Value → List Ent → List RF → Prop} (ho : ops[i]? = some o) (h : OpX P C E W R o Φ) (k : ∀ v W' R', Φ v W' R' → CanT P C ops Q m t ((d, v) :: E) W' R')
    (hd : o.dst = some d := by rfl) (hn : Nat.blt d C.n = true := by rfl) (hw : Wn ops E o := by exact Wn.none rfl) : CanT P C ops Q m (.w i t) E W R :=
  ⟨o, d, ho, hd, hn, hw, fun a w hs => (h a w hs).mono fun v w' ⟨W', R', hp, hm, hx⟩ => ⟨W', R', hm, hx, k v W' R' hp⟩⟩
theorem CanT.both {t1 t2 : Tr} (h1 : CanT P C ops Q m t1 E W R) (h2 : CanT P C ops Q m t2 E W R) : CanT P C ops Q m (.or2 t1 t2) E W R := ⟨h1, h2⟩

/-- an operation that has been laid by, looked at again behind a store -/
def Again (P : Program) (C : Cx) (ops : Array Oper) (E : Env) (W : List Ent) (R : List RF) (j : Nat) : Prop :=
  ∃ oj dj vj, ops[j]? = some oj ∧ oj.dst = some dj ∧ look E dj = some vj ∧ OpW P C ops E W R oj vj
theorem Again.q {j d : Nat} {o : Oper} {v : Value} (ho : ops[j]? = some o) (h : OpR P C E W R o v) (hd : o.dst = some d := by rfl) (hv : look E d = some v := by rfl) (hw : Wn ops E o := by exact Wn.none rfl) : Again P C ops E W R j :=
  ⟨o, d, v, ho, hd, hv, fun a w hs => .inl ⟨hw _ _ hs.fr, h.p a w hs⟩⟩
def AllAgain (P : Program) (C : Cx) (ops : Array Oper) (E : Env) (W : List Ent) (R : List RF) : List Nat → Prop
  | [] => True
  | j :: l => Again P C ops E W R j ∧ AllAgain P C ops E W R l
theorem AllAgain.all : ∀ {l : List Nat}, AllAgain P C ops E W R l → ∀ j ∈ l, Again P C ops E W R j
  | [], _, j, hj => by simp at hj
  | i :: l, h, j, hj => by
    rcases List.mem_cons.1 hj with rfl | hj
    · exact h.1
    · exact AllAgain.all h.2 j hj
theorem CanT.s {i : Nat} {ps : List Nat} {o : Oper} {Φ : Value → List Ent → List RF → Prop} (ho : ops[i]? = some o) (h : OpY P C E W R o Φ) (k : ∀ v W' R', Φ v W' R' → AllAgain P C ops E W' R' ps ∧ CanT P C ops Q m t E W' R')
    (hd : o.dst = none := by rfl) (hw : Wn ops E o := by exact Wn.none rfl) : CanT P C ops Q m (.s i ps t) E W R :=
  ⟨o, ho, hd, hw, fun a w hs => (h a w hs).mono fun v w' ⟨W', R', hp, hm⟩ => ⟨W', R', hm, (k v W' R' hp).1.all, (k v W' R' hp).2⟩⟩

theorem CanT.y {i d : Nat} {ps : List Nat} {o : Oper} {Φ : Value → List Ent → List RF → Prop} (ho : ops[i]? = some o) (h : OpY P C E W R o Φ) (k : ∀ v W' R', Φ v W' R' → AllAgain P C ops E W' R' ps ∧ CanT P C ops Q m t ((d, v) :: E) W' R')
    (hd : o.dst = some d := by rfl) (hn : Nat.blt d C.n = true := by rfl) (hw : Wn ops E o := by exact Wn.none rfl) : CanT P C ops Q m (.y i ps t) E W R :=
  ⟨o, d, ho, hd, hn, hw, fun a w hs => (h a w hs).mono fun v w' ⟨W', R', hp, hm⟩ => ⟨W', R', hm, (k v W' R' hp).1.all, (k v W' R' hp).2⟩⟩
theorem Again.p {j d : Nat} {o : Oper} {v : Value} (ho : ops[j]? = some o) (h : OpP P C E W R o v) (hd : o.dst = some d := by rfl) (hv : look E d = some v := by rfl) (hw : Wn ops E o := by exact Wn.none rfl) : Again P C ops E W R j :=
  ⟨o, d, v, ho, hd, hv, fun a w hs => .inl ⟨hw _ _ hs.fr, h a w hs⟩⟩

/-! ### What is one's own, lent for reading -/

class Lend (Ra : List RF) (W : List Ent) (R : List RF) : Prop where
  all : ∀ sh w, (∀ e ∈ W, e.P sh w) → (∀ r ∈ R, r.P sh w) → ∀ r ∈ Ra, r.P (fun b => sh b ∨ b ∈ fps W) w
instance Lend.nil {W : List Ent} {R : List RF} : Lend [] W R := ⟨by simp⟩
instance (priority := high) Lend.consR {r : RF} {Ra : List RF} {W : List Ent} {R : List RF} [h : In r R] [k : Lend Ra W R] : Lend (r :: Ra) W R :=
  ⟨fun sh w hW hR x hx => by
    rcases List.mem_cons.1 hx with rfl | hx
    · exact x.loc _ _ _ _ (hR _ h.mem) (fun _ hb => .inl hb) (fun _ _ => rfl)
    · exact k.all sh w hW hR x hx⟩
instance Lend.consCel {b : Nat} {T : TypeId} {cs : List Value} {Ra : List RF} {W : List Ent} {R : List RF} [h : HasCel b W T cs] [k : Lend Ra W R] : Lend (cells (some ⟨b, 0, none⟩) 0 cs :: Ra) W R :=
  ⟨fun sh w hW hR x hx => by
    rcases List.mem_cons.1 hx with rfl | hx
    · have he := hW _ h.mem
      exact ⟨b, 0, rfl, .inr (List.mem_flatMap.2 ⟨_, h.mem, by simp [cel]⟩), fun j v hj => by rw [Nat.add_zero, Nat.zero_add, cell_of_cel he]; exact hj⟩
    · exact k.all sh w hW hR x hx⟩
instance Lend.consOwn {α : Type} {T : TypeId} {ty : RTy α} {a : Option Addr} {c : Nat} {l : List α} {Ra : List RF} {W : List Ent} {R : List RF} [h : HasOwn a W T ty c l] [k : Lend Ra W R] : Lend (ro ty a c l :: Ra) W R :=
  ⟨fun sh w hW hR x hx => by
    rcases List.mem_cons.1 hx with rfl | hx
    · exact (own_slice (hW _ h.mem)).loc (fun b hb => hb.imp id fun hb => List.mem_flatMap.2 ⟨_, h.mem, hb⟩) (fun _ _ => rfl)
    · exact k.all sh w hW hR x hx⟩

theorem Holds.lend {w : World} {Ra : List RF} [hl : Lend Ra W R] (h : Holds C W R w) : ∃ sh, Holds ⟨0, w, [], sh⟩ [] Ra w := by
  obtain ⟨sh, hm⟩ := h
  refine ⟨fun b => sh b ∨ b ∈ fps W, _, by simp, by simp, by simp, by simp, hl.all sh w hm.own hm.facts, ?_, fun b hb => .inl hb, Keep.refl _ _⟩
  rintro b (hb | hb)
  · exact hm.shlt b hb
  · obtain ⟨e, he, hbe⟩ := List.mem_flatMap.1 hb
    exact e.lt _ _ (hm.own e he) b hbe

variable {d : Option Tmp} {x y z fo : Operand} {t' u e : TypeId} {pos : String} {aft : Array Edge} {gd : Option (Nat × Bool)}

/-- a call that reads, of what is one's own too -/
theorem op_callL {f : FuncId} {xs : List Operand} {vs : List Value} {ts : Array TypeId} {v : Value} (Ra : List RF) [hf : TFn P f] [hR : Lend Ra W R] (hx : evalEs E xs = some vs)
    (hc : ∀ sh w, Holds ⟨0, w, [], sh⟩ [] Ra w → Calls P f vs.toArray w fun e w' => e = .returned v ∧ Ext w w') :
    OpP P C E W R ⟨d, .call ⟨.value (.func f), xs.toArray, ts⟩, u, pos, aft, gd⟩ v :=
  op_callP hx fun w hw => let ⟨sh, h⟩ := hw.lend (Ra := Ra); hc sh w h
theorem op_cValL {f : FuncId} {xs : List Operand} {vs us : List Value} {ts : Array TypeId} {v : Value} (Ra : List RF) [hf : TFn P f] [hR : Lend Ra W R] (hfo : evalE E fo = some (.func (.func f) #[] us.toArray)) (hx : evalEs E xs = some vs)
    (hc : ∀ sh w, Holds ⟨0, w, [], sh⟩ [] Ra w → Calls P f (vs ++ us).toArray w fun e w' => e = .returned v ∧ Ext w w') : OpP P C E W R ⟨d, .call ⟨.value fo, xs.toArray, ts⟩, u, pos, aft, gd⟩ v :=
  op_cValP hfo hx fun w hw => let ⟨sh, h⟩ := hw.lend (Ra := Ra); hc sh w h
end
end Go.Proofs.Ytdeacehacndopaa

namespace Go.Proofs.Ytdeacehacndopaa
open Go.RowKit

section
variable {P : Program} {C : Cx} {E : Env} {W W' Wr : List Ent} {R R' : List RF} {Q : Exit → Act → World → Prop} {ops : Array Oper}

theorem GoC.mono {c : Code} {Q' : Exit → Act → World → Prop} (h : GoC P C E W R c Q) (hq : ∀ e a w, Q e a w → Q' e a w) : GoC P C E W R c Q' :=
  fun a w hs => wp_mono (h a w hs) hq

/-- fewer slots, facts, and entries, in whatever order -/
theorem St.to {E' : Env} {a : Act} {w : World} (hw : List.Perm W (W' ++ Wr)) (hr : ∀ x ∈ R', x ∈ R) (h : St C E W R a w) (hE : Sub E E') : St C E' W' R' a w :=
  ⟨h.fr.sub hE, (h.mem.perm hw).drop (List.sublist_append_left _ _) hr⟩

/-- what two branches leave, and what comes behind them, once -/
theorem GoC.join {γ : Type} {c c2 : Code} (EV : γ → Env) (EF : Env) (WS : γ → List Ent) (RS : γ → List RF) (I : γ → Prop) (_hE : Sub E EF)
    (h1 : GoC P C E W R c (Exit.then (fun a w => ∃ g, I g ∧ St C (EV g ++ EF) (WS g) (RS g) a w) Q)) (h2 : ∀ g, I g → GoC P C (EV g ++ EF) (WS g) (RS g) c2 Q) :
    GoC P C E W R c (Exit.then (c2.wp P Q) Q) := by
  refine h1.mono fun e a w hq => ?_
  cases e with
  | normal => obtain ⟨g, hi, hs⟩ := hq; exact h2 g hi a w hs
  | exit i => exact hq
  | goto l => exact hq
  | ret => exact hq
  | panic c => exact hq
  | outgrown => exact hq

theorem GoC.joinS {γ : Type} {c c2 : Code} (EV : γ → Env) (EF : Env) (WS : γ → List Ent) (I : γ → Prop) (hE : Sub E EF)
    (h1 : GoC P C E W R c (Exit.then (fun a w => ∃ g, I g ∧ St C (EV g ++ EF) (WS g) R a w) Q)) (h2 : ∀ g, I g → GoC P C (EV g ++ EF) (WS g) R c2 Q) :
    GoC P C E W R c (Exit.then (c2.wp P Q) Q) := GoC.join EV EF WS (fun _ => R) I hE h1 h2
theorem GoC.joinE {γ : Type} {c c2 : Code} (EV : γ → Env) (EF : Env) (I : γ → Prop) (hE : Sub E EF)
    (h1 : GoC P C E W R c (Exit.then (fun a w => ∃ g, I g ∧ St C (EV g ++ EF) W R a w) Q)) (h2 : ∀ g, I g → GoC P C (EV g ++ EF) W R c2 Q) :
    GoC P C E W R c (Exit.then (c2.wp P Q) Q) := GoC.join EV EF (fun _ => W) (fun _ => R) I hE h1 h2
class AllInR (l r : List RF) : Prop where
  all : ∀ x ∈ l, x ∈ r
instance (priority := high) AllInR.refl {r : List RF} : AllInR r r := ⟨fun _ h => h⟩
instance AllInR.tail {x : RF} {l r : List RF} [h : AllInR l r] : AllInR l (x :: r) := ⟨fun y hy => List.mem_cons_of_mem _ (h.all y hy)⟩
theorem GoL.meet {γ : Type} {EV : γ → Env} {EF : Env} {WS : γ → List Ent} {RS : γ → List RF} {I : γ → Prop} (g : γ) (ht : To Q .normal (fun a w => ∃ g, I g ∧ St C (EV g ++ EF) (WS g) (RS g) a w)) [hw : Split (WS g) W Wr] [hr : AllInR (RS g) R] (hI : I g) (hE : Sub E (EV g ++ EF)) : GoL P C ops E W R [] Q :=
  GoL.nilTo ht fun _ _ h => ⟨g, hI, h.to hw.perm hr.all hE⟩
theorem GoC.meet {γ : Type} {EV : γ → Env} {EF : Env} {WS : γ → List Ent} {RS : γ → List RF} {I : γ → Prop} (g : γ) (ht : To Q .normal (fun a w => ∃ g, I g ∧ St C (EV g ++ EF) (WS g) (RS g) a w)) [hw : Split (WS g) W Wr] [hr : AllInR (RS g) R] (hI : I g) (hE : Sub E (EV g ++ EF)) : GoC P C E W R .skip Q :=
  GoC.skip fun a w h => ht a w ⟨g, hI, h.to hw.perm hr.all hE⟩

/-! ### One of many, taken out and put back -/

theorem GoC.pull {β : Type} {f : β → Ent} {c : Code} (l : List β) (k : Nat) (hk : k < l.length) [hs : Split [grp (l.map f)] W Wr]
    (h : GoC P C E (f l[k] :: grp ((l.take k ++ l.drop (k + 1)).map f) :: Wr) R c Q) : GoC P C E W R c Q :=
  GoC.mem (fun _ hw => (hw.perm hs.perm).pull k hk) h
theorem GoL.pull {β : Type} {f : β → Ent} {c : List Oper} (l : List β) (k : Nat) (hk : k < l.length) [hs : Split [grp (l.map f)] W Wr]
    (h : GoL P C ops E (f l[k] :: grp ((l.take k ++ l.drop (k + 1)).map f) :: Wr) R c Q) : GoL P C ops E W R c Q :=
  GoL.mem (fun _ hw => (hw.perm hs.perm).pull k hk) h
theorem GoC.push {β : Type} {f : β → Ent} {c : Code} (l : List β) (k : Nat) (x : β) (hk : k < l.length) [hs : Split [f x, grp ((l.take k ++ l.drop (k + 1)).map f)] W Wr]
    (h : GoC P C E (grp ((l.set k x).map f) :: Wr) R c Q) : GoC P C E W R c Q :=
  GoC.mem (fun _ hw => (hw.perm hs.perm).push k hk x) h
theorem GoL.push {β : Type} {f : β → Ent} {c : List Oper} (l : List β) (k : Nat) (x : β) (hk : k < l.length) [hs : Split [f x, grp ((l.take k ++ l.drop (k + 1)).map f)] W Wr]
    (h : GoL P C ops E (grp ((l.set k x).map f) :: Wr) R c Q) : GoL P C ops E W R c Q :=
  GoL.mem (fun _ hw => (hw.perm hs.perm).push k hk x) h
theorem GoC.pushEnd {β : Type} {f : β → Ent} {c : Code} (l : List β) (x : β) [hs : Split [f x, grp (l.map f)] W Wr]
    (h : GoC P C E (grp ((l ++ [x]).map f) :: Wr) R c Q) : GoC P C E W R c Q :=
  GoC.mem (fun _ hw => (hw.perm hs.perm).pushEnd x) h
theorem GoL.pushEnd {β : Type} {f : β → Ent} {c : List Oper} (l : List β) (x : β) [hs : Split [f x, grp (l.map f)] W Wr]
    (h : GoL P C ops E (grp ((l ++ [x]).map f) :: Wr) R c Q) : GoL P C ops E W R c Q :=
  GoL.mem (fun _ hw => (hw.perm hs.perm).pushEnd x) h
theorem GoC.grpNil {β : Type} (f : β → Ent) {c : Code} (h : GoC P C E (grp (([] : List β).map f) :: W) R c Q) : GoC P C E W R c Q :=
  GoC.mem (fun _ hw => hw.grpNil) h
theorem GoC.ownNil {α : Type} (T : TypeId) (ty : RTy α) {c : Code} (h : GoC P C E (own T ty none 0 [] :: W) R c Q) : GoC P C E W R c Q :=
  GoC.mem (fun _ hw => hw.ownNil T ty) h
/-- the entries in another order -/
theorem GoC.arrange {c : Code} (W' : List Ent) [hs : Split W' W []] (h : GoC P C E W' R c Q) : GoC P C E W R c Q :=
  GoC.mem (fun _ hw => by have := hw.perm hs.perm; rwa [List.append_nil] at this) h
/-- some of the entries, in another order -/
theorem GoC.only {c : Code} (W' : List Ent) [hs : Split W' W Wr] (h : GoC P C E W' R c Q) : GoC P C E W R c Q :=
  GoC.mem (fun _ hw => (hw.perm hs.perm).drop (List.sublist_append_left _ _) fun _ h => h) h

theorem Holds.only {w : World} {C : Cx} {W W' Wr : List Ent} {R : List RF} [hs : Split W' W Wr] (h : Holds C W R w) : Holds C W' [] w :=
  (h.perm hs.perm).drop (List.sublist_append_left _ _) (by simp)
/-- a literal of one, as a row of one's own -/
theorem Holds.celOwn {w : World} {α : Type} {ty : RTy α} {b : Nat} {T : TypeId} {cs : List Value} (x : α) [hs : Split [Ytdeacehacndopaa.cel b T cs] W Wr] (h : Holds C W R w)
    (hr : ∀ sh w, ty.rep sh w cs x) : Holds C (own T ty (some ⟨b, 0, none⟩) 1 [x] :: Wr) R w := by
  have h1 : Holds C (Ytdeacehacndopaa.cel b T cs :: Wr) R w := h.perm hs.perm
  refine Holds.upd (e := Ytdeacehacndopaa.cel b T cs) (e' := own T ty (some ⟨b, 0, none⟩) 1 [x]) h1 (Keep.refl _ _) (fun sh hm => ?_) (by simp [own]) (fun b' hb => .inl (by simpa [own, Ytdeacehacndopaa.cel] using hb))
  have hc := hm.own _ (List.mem_cons_self ..)
  have hl := ty.len _ _ _ _ (hr sh w)
  refine ⟨cs, ⟨by simpa using hl, .inr ⟨b, 1, cs.toArray, rfl, Nat.zero_le _, hc, Nat.le_refl _, by simp [maxLen], by simpa using hl, ?_⟩⟩, fun i y hy => ?_⟩
  · rw [List.length_singleton, Nat.one_mul]
    exact List.take_of_length_le (by simp; omega)
  · obtain ⟨rfl, rfl⟩ : i = 0 ∧ x = y := by
      cases i with
      | zero => simpa using hy
      | succ i => simp at hy
    have : slot ty cs 0 = cs := by simp only [slot, Nat.zero_mul, List.drop_zero]; exact List.take_of_length_le (by omega)
    rw [this]; exact hr sh w
theorem GoC.celOwn {α : Type} {ty : RTy α} (b : Nat) {T : TypeId} {cs : List Value} {c : Code} (x : α) [hc : HasCel b W T cs] [hs : Split [Ytdeacehacndopaa.cel b T cs] W Wr]
    (hr : ∀ sh w, ty.rep sh w cs x) (h : GoC P C E (own T ty (some ⟨b, 0, none⟩) 1 [x] :: Wr) R c Q) : GoC P C E W R c Q :=
  GoC.mem (fun _ hw => Holds.celOwn (b := b) (T := T) (cs := cs) x hw hr) h
theorem GoL.celOwn {α : Type} {ty : RTy α} (b : Nat) {T : TypeId} {cs : List Value} {c : List Oper} (x : α) [hc : HasCel b W T cs] [hs : Split [Ytdeacehacndopaa.cel b T cs] W Wr]
    (hr : ∀ sh w, ty.rep sh w cs x) (h : GoL P C ops E (own T ty (some ⟨b, 0, none⟩) 1 [x] :: Wr) R c Q) : GoL P C ops E W R c Q :=
  GoL.mem (fun _ hw => Holds.celOwn (b := b) (T := T) (cs := cs) x hw hr) h
end
end Go.Proofs.Ytdeacehacndopaa
