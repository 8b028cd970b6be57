/- A plan that the statement's own judge takes, plan.Check takes. No conditions beyond those that the theorems name. What clock.Check says of times is what the statement's own judges say. No conditions beyond those that the theorems name. The statement ClockAny, walked; that Awake holds is taken. Values behind interfaces: their making, their asking, calls of their methods; nil asked for. No conditions beyond those that each theorem names. -/
import Derived.Test.YtdeacehacndopaaL9
import Derived.Test.YtdeacehacndopaaL3
import Derived.Laws.Pointers
namespace Go.Proofs.Ytdeacehacndopaa

/-! ### Sets as numbers -/

theorem wrap_u64 {n : Int} (h : 0 ≤ n ∧ n < 18446744073709551616) : IntKind.u64.wrap n = n := by
  simp [IntKind.wrap, IntKind.bits, IntKind.signed]; omega
theorem nat_lt_u64 {m : Nat} (h : m < 2 ^ 64) : (0 : Int) ≤ (m : Int) ∧ (m : Int) < 18446744073709551616 := by
  have : (2 : Nat) ^ 64 = 18446744073709551616 := by decide
  omega
theorem iand_nat {a b : Nat} (ha : a < 2 ^ 64) (hb : b < 2 ^ 64) : iand .u64 (a : Int) (b : Int) = ((a &&& b : Nat) : Int) := by
  unfold iand
  have e1 : BitVec.ofInt IntKind.u64.bits (a : Int) = BitVec.ofNat 64 a := rfl
  have e2 : BitVec.ofInt IntKind.u64.bits (b : Int) = BitVec.ofNat 64 b := rfl
  have e3 : (BitVec.ofNat 64 a &&& BitVec.ofNat 64 b).toNat = a &&& b := by rw [BitVec.toNat_and, BitVec.toNat_ofNat, BitVec.toNat_ofNat, Nat.mod_eq_of_lt ha, Nat.mod_eq_of_lt hb]
  show IntKind.u64.wrap (((BitVec.ofNat 64 a &&& BitVec.ofNat 64 b).toNat : Nat) : Int) = _
  rw [e3]
  exact wrap_u64 (nat_lt_u64 (Nat.lt_of_le_of_lt Nat.and_le_left ha))
theorem ior_nat {a b : Nat} (ha : a < 2 ^ 64) (hb : b < 2 ^ 64) : ior .u64 (a : Int) (b : Int) = ((a ||| b : Nat) : Int) := by
  unfold ior
  have e1 : BitVec.ofInt IntKind.u64.bits (a : Int) = BitVec.ofNat 64 a := rfl
  have e2 : BitVec.ofInt IntKind.u64.bits (b : Int) = BitVec.ofNat 64 b := rfl
  have e3 : (BitVec.ofNat 64 a ||| BitVec.ofNat 64 b).toNat = a ||| b := by rw [BitVec.toNat_or, BitVec.toNat_ofNat, BitVec.toNat_ofNat, Nat.mod_eq_of_lt ha, Nat.mod_eq_of_lt hb]
  show IntKind.u64.wrap (((BitVec.ofNat 64 a ||| BitVec.ofNat 64 b).toNat : Nat) : Int) = _
  rw [e3]
  exact wrap_u64 (nat_lt_u64 (Nat.or_lt_two_pow ha hb))
theorem ishr_nat {a c : Nat} (hc : c < 64) : ishr .u64 (a : Int) (c : Int) = ((a >>> c : Nat) : Int) := by
  unfold ishr
  have e : min (c : Int).toNat IntKind.u64.bits = c := by simp [IntKind.bits]; omega
  rw [e, Int.fdiv_eq_ediv_of_nonneg _ (Int.pow_nonneg (by omega)), Nat.shiftRight_eq_div_pow]
  simp
theorem ishl_nat {c : Nat} (hc : c < 64) : ishl .u64 1 (c : Int) = ((2 ^ c : Nat) : Int) := by
  unfold ishl
  have e : min (c : Int).toNat IntKind.u64.bits = c := by simp [IntKind.bits]; omega
  rw [e, Int.one_mul]
  have h2 : (2 : Nat) ^ c < 2 ^ 64 := Nat.pow_lt_pow_right (by omega) hc
  have := wrap_u64 (nat_lt_u64 h2)
  simpa using this
theorem hasF_nat {m c : Nat} (hm : m < 2 ^ 64) (hc : c < 64) : hasF (m : Int) (c : Int) = m.testBit c := by
  unfold hasF
  rw [ishr_nat hc]
  have h1 : iand .u64 ((m >>> c : Nat) : Int) 1 = (((m >>> c) &&& 1 : Nat) : Int) :=
    iand_nat (b := 1) (Nat.lt_of_le_of_lt (Nat.shiftRight_le _ _) hm) (by decide)
  rw [h1]
  have h2 : (decide (0 ≤ (c : Int)) && decide ((c : Int) < 64)) = true := by simp; omega
  rw [h2, Bool.true_and, Nat.testBit, Nat.and_comm]
  have h3 : 1 &&& m >>> c = (m >>> c) % 2 := by rw [Nat.and_comm, Nat.and_one_is_mod]
  rw [h3]
  have h4 := Nat.mod_two_eq_zero_or_one (m >>> c)
  rcases h4 with h | h <;> simp [h]
theorem withF_nat {m c : Nat} (hm : m < 2 ^ 64) (hc : c < 64) : withF (m : Int) (c : Int) = ((m ||| 2 ^ c : Nat) : Int) := by
  unfold withF
  rw [if_pos (by omega), ishl_nat hc]
  exact ior_nat hm (Nat.pow_lt_pow_right (by omega) hc)
theorem or_lt {m c : Nat} (hm : m < 2 ^ 64) (hc : c < 64) : m ||| 2 ^ c < 2 ^ 64 := Nat.or_lt_two_pow hm (Nat.pow_lt_pow_right (by omega) hc)
theorem testBit_or {m c d : Nat} : (m ||| 2 ^ c).testBit d = (m.testBit d || decide (c = d)) := by
  rw [Nat.testBit_or, Nat.testBit_two_pow]
set_option maxRecDepth 20000 in
theorem ones_all : ∀ n : Nat, n ≤ 48 → onesF ((2 ^ n - 1 : Nat) : Int) = n := by
  have key : (List.range 49).all (fun n => decide (onesF ((2 ^ n - 1 : Nat) : Int) = n)) = true := by kernel_rfl
  intro n hn
  have := List.all_eq_true.1 key n (List.mem_range.2 (by omega))
  simpa using this
theorem full_set {m n : Nat} (h : ∀ i, m.testBit i = decide (i < n)) : m = 2 ^ n - 1 := by
  apply Nat.eq_of_testBit_eq
  intro i
  rw [h, Nat.testBit_two_pow_sub_one]

/-! ### Trucks -/

def StopOk (x : Instance) (s : Stop) : Prop := (0 ≤ s.Sat ∧ s.Sat < x.Sats.length) ∧ 1 ≤ s.Load ∧ s.Load ≤ 1000000000
def sumS (l : List Stop) (a : Int) : Int := l.foldl (fun a s => w64 (a + s.Load)) a
def addS (l : List Stop) (d : List Int) : List Int := l.foldl (fun d s => addAt d s.Sat s.Load) d
theorem distF_iff {s : Stop} : ∀ {l : List Stop} {r : Bool}, distF s l r = true ↔ r = true ∧ ∀ o ∈ l, o.Sat ≠ s.Sat
  | [], r => by simp [distF]
  | o :: l, r => by
    have : distF s (o :: l) r = distF s l (r && !decide (o.Sat = s.Sat)) := rfl
    rw [this, distF_iff]
    simp only [Bool.and_eq_true, Bool.not_eq_true', decide_eq_false_iff_not, List.forall_mem_cons, and_assoc, ne_eq]
theorem codeS_false {x : Instance} {full : List Stop} : ∀ {r : List Stop} {i : Nat} {u : Bool × Int × List Int}, u.1 = false → (codeS x full r i u).1 = false
  | [], _, _, h => h
  | s :: r, i, u, h => by
    rw [codeS]
    refine codeS_false ?_
    rw [if_neg]
    intro hc
    have h1 := distF_true hc
    have := (stop1_there h1).1
    rw [h] at this; cases this
theorem codeS_true {x : Instance} {full : List Stop} : ∀ {r : List Stop} {i : Nat} {u : Bool × Int × List Int}, (codeS x full r i u).1 = true →
    u.1 = true ∧ (∀ (j : Nat) (h : j < r.length), StopOk x r[j] ∧ ∀ o ∈ full.take (i + j), o.Sat ≠ r[j].Sat) ∧ codeS x full r i u = (true, sumS r u.2.1, addS r u.2.2)
  | [], i, (a, b, c), h => by
    have ha : a = true := h
    subst ha
    exact ⟨rfl, by simp, rfl⟩
  | s :: r, i, u, h => by
    rw [codeS] at h ⊢
    by_cases hc : distF s (full.take i) (stop1 x u.1 s) = true
    · rw [if_pos hc] at h ⊢
      obtain ⟨_, h2, h3⟩ := codeS_true h
      obtain ⟨h4, h5⟩ := distF_iff.1 hc
      have h6 := stop1_there h4
      refine ⟨h6.1, fun j hj => ?_, h3⟩
      cases j with
      | zero =>
        refine ⟨⟨h6.2, ?_⟩, by simpa using h5⟩
        simp [stop1] at h4
        exact ⟨h4.1.2, h4.2⟩
      | succ j =>
        have := h2 j (by simpa using hj)
        rw [show i + 1 + j = i + (j + 1) by omega] at this
        simpa using this
    · rw [if_neg hc] at h
      rw [codeS_false rfl] at h; cases h
theorem codeT_false {x : Instance} : ∀ {l : List Truck} {u : Bool × Bool × List Int}, u.1 = false → (codeT x l u).1 = false
  | [], _, h => h
  | t :: l, u, h => by
    rw [codeT]
    refine codeT_false ?_
    exact codeS_false (by rw [h]; rfl)
def TruckOk (x : Instance) (t : Truck) : Prop := 0 < t.Stops.length ∧ (∀ s ∈ t.Stops, StopOk x s) ∧ ∀ (i j : Nat) (hi : i < t.Stops.length) (hj : j < t.Stops.length), i < j → t.Stops[i].Sat ≠ t.Stops[j].Sat
theorem codeT_true {x : Instance} : ∀ {l : List Truck} {u : Bool × Bool × List Int}, (codeT x l u).1 = true →
    (∀ t ∈ l, TruckOk x t) ∧ ((codeT x l u).2.1 = true → u.2.1 = true ∧ ∀ t ∈ l, sumS t.Stops 0 ≤ x.Trucks.Room) ∧ (codeT x l u).2.2 = l.foldl (fun d t => addS t.Stops d) u.2.2
  | [], u, h => ⟨by simp, fun h => ⟨h, by simp⟩, rfl⟩
  | t :: l, u, h => by
    rw [codeT] at h ⊢
    have h1 : (codeS x t.Stops t.Stops 0 (u.1 && decide (0 < (t.Stops.length : Int)), 0, u.2.2)).1 = true := by
      cases hq : (codeS x t.Stops t.Stops 0 (u.1 && decide (0 < (t.Stops.length : Int)), 0, u.2.2)).1 with
      | true => rfl
      | false => rw [codeT_false hq] at h; cases h
    obtain ⟨h2, h3, h4⟩ := codeS_true h1
    rw [h4] at h ⊢
    obtain ⟨h5, h6, h7⟩ := codeT_true h
    simp at h2
    refine ⟨fun t' ht => ?_, fun hl => ?_, h7⟩
    · rcases List.mem_cons.1 ht with rfl | ht
      · refine ⟨by omega, fun s hs => ?_, fun i j hi hj hij => ?_⟩
        · obtain ⟨j, hj, rfl⟩ := List.getElem_of_mem hs
          exact (h3 j hj).1
        · refine (h3 j hj).2 _ ?_
          rw [Nat.zero_add, List.mem_take_iff_getElem]
          exact ⟨i, by omega, rfl⟩
      · exact h5 t' ht
    · obtain ⟨h8, h9⟩ := h6 hl
      simp at h8
      refine ⟨h8.1, fun t' ht => ?_⟩
      rcases List.mem_cons.1 ht with rfl | ht
      · exact h8.2
      · exact h9 t' ht
theorem sumS_eq : ∀ {l : List Stop} {a : Int}, (∀ s ∈ l, 0 ≤ s.Load ∧ s.Load ≤ 1000000000) → 0 ≤ a ∧ a + 1000000000 * l.length ≤ 1000000000000000000 → sumS l a = a + (l.map (·.Load)).sum
  | [], a, _, _ => by simp [sumS]
  | s :: l, a, h, ha => by
    have h1 := h s (by simp)
    simp only [List.length_cons] at ha
    have h2 : sumS (s :: l) a = sumS l (w64 (a + s.Load)) := rfl
    rw [h2, w64_id (by omega), sumS_eq (fun q hq => h q (List.mem_cons_of_mem _ hq)) (by omega)]
    simp; omega
theorem sum_nonneg : ∀ {l : List Stop}, (∀ s ∈ l, 0 ≤ s.Load ∧ s.Load ≤ 1000000000) → 0 ≤ (l.map (·.Load)).sum ∧ (l.map (·.Load)).sum ≤ 1000000000 * l.length
  | [], _ => by simp
  | s :: l, h => by
    have h1 := h s (by simp)
    have := sum_nonneg fun q hq => h q (List.mem_cons_of_mem _ hq)
    simp only [List.map_cons, List.sum_cons, List.length_cons]; omega
/-- stop by stop, as plan.Check goes -/
theorem stopsF_ok {x : Instance} (hs : x.Sats.length ≤ 12) : ∀ {l : List Stop} {m : Nat} {left : Int}, m < 2 ^ 64 → (∀ s ∈ l, StopOk x s) → (∀ (i j : Nat) (hi : i < l.length) (hj : j < l.length), i < j → l[i].Sat ≠ l[j].Sat) →
    (∀ s ∈ l, m.testBit s.Sat.toNat = false) → -1000000000000000000 ≤ left - 1000000000 * l.length → left ≤ 1000000000000000000 → stopsF x l (m : Int) left = some (left - (l.map (·.Load)).sum)
  | [], m, left, _, _, _, _, _, _ => by simp [stopsF]
  | s :: l, m, left, hm, hl, hd, hb, h1, h2 => by
    have hok := hl s (by simp)
    obtain ⟨⟨k1, k2⟩, k3, k4⟩ := hok
    have hc : s.Sat = ((s.Sat.toNat : Nat) : Int) := (Int.toNat_of_nonneg k1).symm
    have hc64 : s.Sat.toNat < 64 := by omega
    simp only [List.length_cons] at h1
    rw [stopsF, if_neg]
    · have e : withF (m : Int) s.Sat = ((m ||| 2 ^ s.Sat.toNat : Nat) : Int) := by
        conv => lhs; rw [hc]
        exact withF_nat hm hc64
      rw [e, w64_id (by omega), stopsF_ok hs (or_lt hm hc64) (fun q hq => hl q (List.mem_cons_of_mem _ hq)) (fun i j hi hj hij => by have h9 := hd (i + 1) (j + 1) (by simpa using hi) (by simpa using hj) (by omega); rwa [List.getElem_cons_succ, List.getElem_cons_succ] at h9) (fun q hq => ?_) (by omega) (by omega)]
      · simp; omega
      · rw [testBit_or, hb q (List.mem_cons_of_mem _ hq), Bool.false_or, decide_eq_false_iff_not]
        obtain ⟨j, hj, rfl⟩ := List.getElem_of_mem hq
        have := hd 0 (j + 1) (by simp) (by simpa using hj) (by omega)
        simp at this
        have := (hl _ (List.mem_cons_of_mem _ hq)).1
        omega
    · have e : hasF (m : Int) s.Sat = false := by
        conv => lhs; rw [hc]
        rw [hasF_nat hm hc64, hb s (by simp)]
      unfold stopBad
      rw [e]
      simp; omega
theorem trucksF_ok {x : Instance} (hs : x.Sats.length ≤ 12) (hr : 0 ≤ x.Trucks.Room ∧ x.Trucks.Room ≤ 1000000000) : ∀ {l : List Truck}, (∀ t ∈ l, TruckOk x t) → (∀ t ∈ l, t.Stops.length ≤ 2000) → (∀ t ∈ l, sumS t.Stops 0 ≤ x.Trucks.Room) → trucksF x l true true = (true, true)
  | [], _, _, _ => rfl
  | t :: l, h, hn, hl => by
    have h1 := h t (by simp)
    have h2 := hn t (by simp)
    have h3 := hl t (by simp)
    have hb : ∀ s ∈ t.Stops, 0 ≤ s.Load ∧ s.Load ≤ 1000000000 := fun s hs => by have := (h1.2.1 s hs).2; omega
    rw [sumS_eq hb (by omega)] at h3
    have h4 := sum_nonneg hb
    rw [trucksF, show (0 : Int) = ((0 : Nat) : Int) from rfl, stopsF_ok hs (by decide) h1.2.1 h1.2.2 (by simp) (by omega) (by omega)]
    simp only
    have e1 : decide (((0 : Nat) : Int) < (t.Stops.length : Int)) = true := by simp; exact h1.1
    have e2 : decide (((0 : Nat) : Int) ≤ x.Trucks.Room - (t.Stops.map (·.Load)).sum) = true := by simp; omega
    rw [e1, e2]
    exact trucksF_ok hs hr (fun q hq => h q (List.mem_cons_of_mem _ hq)) (fun q hq => hn q (List.mem_cons_of_mem _ hq)) fun q hq => hl q (List.mem_cons_of_mem _ hq)

/-! ### Bikes -/

def sumC (x : Instance) (l : List Int) (a : Int) : Int := l.foldl (fun a c => w64 (a + loadOf x c)) a
def addC (x : Instance) (sat : Int) (l : List Int) (d : List Int) : List Int := l.foldl (fun d c => addAt d sat (loadOf x c)) d
theorem codeC_false {x : Instance} {sat : Int} : ∀ {r : List Int} {u : Bool × Int × List Int × List Int}, u.1 = false → (codeC x sat r u).1 = false
  | [], _, h => h
  | c :: r, u, h => by
    rw [codeC]
    refine codeC_false ?_
    rw [if_neg (by rw [h]; simp)]
/-- who has been served, as a list of counts and as a set -/
def Seen (n : Nat) (served : List Int) (m : Nat) : Prop := served.length = n ∧ m < 2 ^ 64 ∧ ∀ i, (m.testBit i = true → i < n) ∧ (i < n → (served.getD i 0 = 0 ∧ m.testBit i = false) ∨ (served.getD i 0 = 1 ∧ m.testBit i = true))
theorem getD_set {l : List Int} {i k : Nat} {v : Int} (h : k < l.length) : (l.set k v).getD i 0 = if k = i then v else l.getD i 0 := by
  simp only [List.getD, List.getElem?_set]
  split
  · rename_i e; subst e; simp [h]
  · rfl
theorem Seen.step {n : Nat} {served : List Int} {m : Nat} {c : Int} (h : Seen n served m) (hn : n ≤ 48) (hc : 0 ≤ c ∧ c < n) (h1 : (addAt served c 1).getD c.toNat 0 = 1) :
    m.testBit c.toNat = false ∧ Seen n (addAt served c 1) (m ||| 2 ^ c.toNat) := by
  have hcn : c.toNat < n := by omega
  have hcl : c.toNat < served.length := by rw [h.1]; exact hcn
  have h0 := h.2.2 c.toNat
  rw [addAt, getD_set hcl, if_pos rfl] at h1
  have h2 : served.getD c.toNat 0 = 0 ∧ m.testBit c.toNat = false := by
    rcases h0.2 hcn with h3 | h3
    · exact h3
    · rw [h3.1] at h1
      rw [show (1 : Int) + 1 = 2 from rfl] at h1
      have : w64 2 = 2 := w64_id (by omega)
      rw [this] at h1; omega
  refine ⟨h2.2, by rw [addAt_len, h.1], or_lt h.2.1 (by omega), fun i => ?_⟩
  rw [testBit_or, addAt, getD_set hcl]
  by_cases e : c.toNat = i
  · subst e
    refine ⟨fun _ => hcn, fun _ => .inr ⟨by rw [if_pos rfl]; exact h1, by simp⟩⟩
  · rw [if_neg e]
    have := h.2.2 i
    simpa [e] using this
theorem codeC_true {x : Instance} {sat : Int} (hn : x.Customers.length ≤ 48) : ∀ {r : List Int} {u : Bool × Int × List Int × List Int} {m : Nat} {left : Int}, (codeC x sat r u).1 = true → Seen x.Customers.length u.2.2.1 m →
    (∀ c ∈ x.Customers, 0 ≤ c.Load ∧ c.Load ≤ 1000000000) → -1000000000000000000 ≤ left - 1000000000 * r.length → left ≤ 1000000000000000000 →
    u.1 = true ∧ (∀ c ∈ r, 0 ≤ c ∧ c < x.Customers.length) ∧ (codeC x sat r u).2.1 = sumC x r u.2.1 ∧ (codeC x sat r u).2.2.2 = addC x sat r u.2.2.2 ∧
    ∃ m', Seen x.Customers.length (codeC x sat r u).2.2.1 m' ∧ bstopsF x r (m : Int) left = some ((m' : Int), left - (r.map (loadOf x)).sum)
  | [], u, m, left, h, hm, _, _, _ => ⟨h, by simp, rfl, rfl, m, hm, by simp [bstopsF]⟩
  | c :: r, u, m, left, h, hm, hl, h1, h2 => by
    rw [codeC] at h ⊢
    by_cases hc : ((u.1 && decide (0 ≤ c)) && decide (c < x.Customers.length)) = true
    · rw [if_pos hc] at h ⊢
      have hc' := hc
      simp at hc'
      have hd : decide ((addAt u.2.2.1 c 1).getD c.toNat 0 = 1) = true := by
        cases hq : decide ((addAt u.2.2.1 c 1).getD c.toNat 0 = 1) with
        | true => rfl
        | false => rw [codeC_false hq] at h; cases h
      obtain ⟨hb, hs⟩ := hm.step hn ⟨hc'.1.2, hc'.2⟩ (of_decide_eq_true hd)
      simp only [List.length_cons] at h1
      have hcl : c.toNat < x.Customers.length := by omega
      have hlo : 0 ≤ loadOf x c ∧ loadOf x c ≤ 1000000000 := by rw [loadOf, getD_lt _ hcl]; exact hl _ (List.getElem_mem hcl)
      obtain ⟨_, h4, h5, h6, m', h7, h8⟩ := codeC_true (left := left - loadOf x c) hn h hs hl (by omega) (by omega)
      have hcc : c = ((c.toNat : Nat) : Int) := (Int.toNat_of_nonneg hc'.1.2).symm
      refine ⟨hc'.1.1, ?_, h5, h6, m', h7, ?_⟩
      · intro d hd
        rcases List.mem_cons.1 hd with rfl | hd
        · exact ⟨hc'.1.2, hc'.2⟩
        · exact h4 d hd
      · have e1 : hasF (m : Int) c = false := by
          conv => lhs; rw [hcc]
          rw [hasF_nat hm.2.1 (by omega), hb]
        have e2 : withF (m : Int) c = ((m ||| 2 ^ c.toNat : Nat) : Int) := by
          conv => lhs; rw [hcc]
          exact withF_nat hm.2.1 (by omega)
        rw [bstopsF, if_neg, e2, w64_id (by omega), h8]
        · simp only [List.map_cons, List.sum_cons]; congr 2; omega
        · unfold custBad; rw [e1]; simp; omega
    · rw [if_neg hc] at h
      rw [codeC_false rfl] at h; cases h
theorem codeB_false {x : Instance} : ∀ {l : List Bike} {u : Bool × Bool × List Int × List Int}, u.1 = false → (codeB x l u).1 = false
  | [], _, h => h
  | t :: l, u, h => by
    rw [codeB]
    refine codeB_false ?_
    exact codeC_false (by rw [h]; rfl)
theorem sumC_eq {x : Instance} : ∀ {l : List Int} {a : Int}, (∀ c ∈ l, 0 ≤ loadOf x c ∧ loadOf x c ≤ 1000000000) → 0 ≤ a ∧ a + 1000000000 * l.length ≤ 1000000000000000000 → sumC x l a = a + (l.map (loadOf x)).sum
  | [], a, _, _ => by simp [sumC]
  | s :: l, a, h, ha => by
    have h1 := h s (by simp)
    simp only [List.length_cons] at ha
    have h2 : sumC x (s :: l) a = sumC x l (w64 (a + loadOf x s)) := rfl
    rw [h2, w64_id (by omega), sumC_eq (fun q hq => h q (List.mem_cons_of_mem _ hq)) (by omega)]
    simp; omega
theorem load_rng {x : Instance} (hl : ∀ c ∈ x.Customers, 0 ≤ c.Load ∧ c.Load ≤ 1000000000) (c : Int) : 0 ≤ loadOf x c ∧ loadOf x c ≤ 1000000000 := by
  unfold loadOf
  by_cases hc : c.toNat < x.Customers.length
  · rw [getD_lt _ hc]; exact hl _ (List.getElem_mem hc)
  · simp [List.getD, List.getElem?_eq_none (Nat.le_of_not_lt hc)]
def BikeOk (x : Instance) (b : Bike) : Prop := 0 < b.Stops.length ∧ (0 ≤ b.Sat ∧ b.Sat < x.Sats.length) ∧ ∀ c ∈ b.Stops, 0 ≤ c ∧ c < x.Customers.length
theorem codeB_true {x : Instance} (hn : x.Customers.length ≤ 48) (hl : ∀ c ∈ x.Customers, 0 ≤ c.Load ∧ c.Load ≤ 1000000000) (hr : 0 ≤ x.Bikes.Room ∧ x.Bikes.Room ≤ 1000000000) : ∀ {l : List Bike} {u : Bool × Bool × List Int × List Int} {m : Nat} {load : Bool}, (codeB x l u).1 = true → (∀ b ∈ l, b.Stops.length ≤ 2000) → Seen x.Customers.length u.2.2.1 m →
    (∀ b ∈ l, BikeOk x b) ∧ (codeB x l u).2.2.2 = l.foldl (fun d b => addC x b.Sat b.Stops d) u.2.2.2 ∧
    ∃ m', Seen x.Customers.length (codeB x l u).2.2.1 m' ∧ (bikesF x l (m : Int) load).1 = true ∧ (bikesF x l (m : Int) load).2.1 = decide (onesF (m' : Int) = x.Customers.length) ∧
      ((codeB x l u).2.1 = true → u.2.1 = true ∧ (load = true → (bikesF x l (m : Int) load).2.2 = true))
  | [], u, m, load, h, _, hm => ⟨by simp, rfl, m, hm, rfl, rfl, fun h => ⟨h, fun h => h⟩⟩
  | b :: l, u, m, load, h, hb, hm => by
    rw [codeB] at h ⊢
    have h1 : (codeC x b.Sat b.Stops ((u.1 && decide (0 < (b.Stops.length : Int))) && thereF x b.Sat, 0, u.2.2.1, u.2.2.2)).1 = true := by
      cases hq : (codeC x b.Sat b.Stops ((u.1 && decide (0 < (b.Stops.length : Int))) && thereF x b.Sat, 0, u.2.2.1, u.2.2.2)).1 with
      | true => rfl
      | false => rw [codeB_false hq] at h; cases h
    have hb1 := hb b (by simp)
    obtain ⟨h2, h3, h4, h5, m1, h6, h7⟩ := codeC_true (left := x.Bikes.Room) hn h1 hm hl (by omega) (by omega)
    rw [sumC_eq (fun c _ => load_rng hl c) (by simp only; omega)] at h4
    simp [thereF] at h2
    have hbad : ¬ bikeBad x b = true := by
      have h9 := h2.2; have h10 := h2.1
      unfold bikeBad; simp only [Bool.or_eq_true, decide_eq_true_eq]; omega
    rw [h1, h4] at h ⊢
    rw [h5] at h ⊢
    obtain ⟨k1, k2, m2, k3, k4, k5, k6⟩ := codeB_true (load := load && decide (0 ≤ x.Bikes.Room - (b.Stops.map (loadOf x)).sum)) hn hl hr h (fun q hq => hb q (List.mem_cons_of_mem _ hq)) h6
    refine ⟨?_, k2, m2, k3, ?_, ?_, ?_⟩
    · intro b' hb'
      rcases List.mem_cons.1 hb' with rfl | hb'
      · exact ⟨by omega, h2.2, h3⟩
      · exact k1 b' hb'
    · rw [bikesF, if_neg hbad, h7]; exact k4
    · rw [bikesF, if_neg hbad, h7]; exact k5
    · intro hq
      obtain ⟨k7, k8⟩ := k6 hq
      simp at k7
      refine ⟨k7.1, fun hlo => ?_⟩
      rw [bikesF, if_neg hbad, h7]
      refine k8 ?_
      rw [hlo]; simp; omega
theorem foldl_same {α β : Type} {P : α → Prop} {f g : α → β → α} : ∀ {l : List β} {a : α}, P a → (∀ a b, b ∈ l → P a → f a b = g a b ∧ P (g a b)) → l.foldl f a = l.foldl g a
  | [], _, _, _ => rfl
  | b :: l, a, h0, h => by
    obtain ⟨h1, h2⟩ := h a b (by simp) h0
    rw [List.foldl_cons, List.foldl_cons, h1]
    exact foldl_same h2 fun a' b' hb hp => h a' b' (List.mem_cons_of_mem _ hb) hp
theorem addC_len {x : Instance} {sat : Int} : ∀ {l d : List Int}, (addC x sat l d).length = d.length
  | [], _ => rfl
  | c :: l, d => by
    have : addC x sat (c :: l) d = addC x sat l (addAt d sat (loadOf x c)) := rfl
    rw [this, addC_len, addAt_len]
theorem loadsF_add {x : Instance} {l : List Bike} (h : ∀ b ∈ l, BikeOk x b) : loadsF x l = l.foldl (fun d b => addC x b.Sat b.Stops d) (List.replicate x.Sats.length 0) := by
  unfold loadsF
  refine foldl_same (P := fun d : List Int => d.length = x.Sats.length) (by simp) fun d b hb hd => ?_
  have hbo := h b hb
  refine ⟨?_, by rw [addC_len]; exact hd⟩
  unfold addC
  refine foldl_same (P := fun d : List Int => d.length = x.Sats.length) hd fun d c hc hd => ?_
  refine ⟨?_, by rw [addAt_len]; exact hd⟩
  have hcc := hbo.2.2 c hc
  unfold loadsC
  have hbs := hbo.2.1
  rw [if_pos (by simp only [Bool.and_eq_true, decide_eq_true_eq]; omega)]
  rfl
theorem dropsF_add {x : Instance} {l : List Truck} : dropsF x l = l.foldl (fun d t => addS t.Stops d) (List.replicate x.Sats.length 0) := rfl
theorem roomL_true : ∀ {l : List Int} {t : List Sat} {b : Bool}, roomL l t b = true → b = true ∧ roomsF l t = false
  | [], [], _, h => ⟨h, rfl⟩
  | [], _ :: _, _, h => ⟨h, rfl⟩
  | _ :: _, [], _, h => ⟨h, rfl⟩
  | m :: r, s :: t, b, h => by
    rw [roomL] at h
    obtain ⟨h1, h2⟩ := roomL_true h
    simp at h1
    refine ⟨h1.1, ?_⟩
    rw [roomsF, h2]
    simp; omega
theorem noneF_false : ∀ {l : List Int}, noneF l = false → ∀ (i : Nat), i < l.length → l.getD i 0 ≠ 0
  | [], _, i, h => by simp at h
  | k :: r, h, i, hi => by
    rw [noneF] at h
    split at h
    · cases h
    · rename_i hk
      cases i with
      | zero => simpa using hk
      | succ i => simpa using noneF_false h i (by simpa using hi)

theorem plan_of_code {x : Instance} {y : Plan} (hx : InstOk x) (hs : PlanSm y) (h : codeF x y = 0) : planCheckF x y = 0 ∧ (∀ t ∈ y.Trucks, TruckOk x t) ∧ ∀ b ∈ y.Bikes, BikeOk x b := by
  have hnum := hx.num
  have hl : ∀ c ∈ x.Customers, 0 ≤ c.Load ∧ c.Load ≤ 1000000000 := fun c hc => by have := (hnum.u c hc).1; omega
  unfold codeF at h
  split at h
  · cases h
  rename_i h1
  split at h
  · cases h
  rename_i h2
  split at h
  · cases h
  rename_i h3
  split at h
  · cases h
  rename_i h4
  split at h
  · cases h
  rename_i h5
  have c2 : (code2 x y).1 = true := by simpa using h2
  have c3 : noneF (code2 x y).2.2.1 = false := by simpa using h3
  have c4 : roomL (code2 x y).2.2.2 x.Sats (code2 x y).2.1 = true := by simpa using h4
  have c5 : (code2 x y).2.2.2 = (code1 x y).2.2 := by simpa using h5
  have hc1 : (code1 x y).1 = true := by
    cases hq : (code1 x y).1 with
    | true => rfl
    | false => unfold code2 at c2; rw [codeB_false hq] at c2; cases c2
  obtain ⟨t1, t2, t3⟩ := codeT_true hc1
  have hseen : Seen x.Customers.length (List.replicate x.Customers.length 0) 0 := by
    refine ⟨by simp, by decide, fun i => ⟨by simp, fun hi => .inl ⟨?_, by simp⟩⟩⟩
    rw [getD_lt _ (by simpa using hi)]; simp
  obtain ⟨b1, b2, m, b3, b4, b5, b6⟩ := codeB_true (u := ((code1 x y).1, (code1 x y).2.1, List.replicate x.Customers.length 0, List.replicate x.Sats.length 0)) (load := true) hx.nu.2 hl hnum.br c2 hs.bs hseen
  have e2 : codeB x y.Bikes ((code1 x y).1, (code1 x y).2.1, List.replicate x.Customers.length 0, List.replicate x.Sats.length 0) = code2 x y := rfl
  rw [e2] at b2 b3 b6
  obtain ⟨r1, r2⟩ := roomL_true c4
  obtain ⟨s1, s2⟩ := b6 r1
  obtain ⟨_, t5⟩ := t2 s1
  have hones : onesF (m : Int) = x.Customers.length := by
    have : m = 2 ^ x.Customers.length - 1 := full_set fun i => by
      have h6 := b3.2.2 i
      by_cases hi : i < x.Customers.length
      · rw [decide_eq_true hi]
        rcases h6.2 hi with h7 | h7
        · exact absurd h7.1 (noneF_false c3 i (by rw [b3.1]; exact hi))
        · exact h7.2
      · rw [decide_eq_false hi]
        cases hq : m.testBit i with
        | false => rfl
        | true => exact absurd (h6.1 hq) hi
    rw [this]
    exact ones_all _ hx.nu.2
  have b4' : (bikesF x y.Bikes 0 true).1 = true := b4
  have b5' : (bikesF x y.Bikes 0 true).2.1 = decide (onesF (m : Int) = x.Customers.length) := b5
  have b7 : (bikesF x y.Bikes 0 true).2.2 = true := s2 rfl
  have ht := trucksF_ok hx.ns.2 hnum.tr t1 hs.ts t5
  refine ⟨?_, t1, b1⟩
  unfold planCheckF
  rw [if_neg (by rw [instCheckF_iff.2 hx]; simp), if_neg h1, if_neg (by rw [ht, b4']; simp), if_neg (by rw [b5', hones]; simp), if_neg (by rw [ht, b7]; simp), loadsF_add b1]
  simp only at b2
  rw [← b2, if_neg (by rw [r2]; simp), if_neg]
  rw [c5, dropsF_add]
  have : (code1 x y).2.2 = y.Trucks.foldl (fun d t => addS t.Stops d) (List.replicate x.Sats.length 0) := t3
  rw [this]; simp
end Go.Proofs.Ytdeacehacndopaa

namespace Go.Proofs.Ytdeacehacndopaa

def TmOk (x : Instance) : Prop := ∀ i j, 0 ≤ tm x i j ∧ tm x i j ≤ 1000000000
theorem tm_ok {x : Instance} (h : MatOk x.Time) : TmOk x := by
  intro i j
  unfold tm
  by_cases hi : i.toNat < x.Time.length
  · rw [getD_lt _ hi]
    by_cases hj : j.toNat < x.Time[i.toNat].length
    · rw [getD_lt _ hj]; exact (h _ hi _ hj).1
    · simp [List.getD, List.getElem?_eq_none (Nat.le_of_not_lt hj)]
  · simp [List.getD, List.getElem?_eq_none (Nat.le_of_not_lt hi)]
def Sane (l : List Int) : Prop := ∀ h ∈ l, 0 ≤ h ∧ h ≤ 1099511627776
theorem inF_iff : ∀ {l : List Int} {ok : Bool}, l.foldl inF ok = true ↔ ok = true ∧ Sane l
  | [], ok => by simp [Sane]
  | h :: l, ok => by
    rw [List.foldl_cons, inF_iff]
    simp only [inF, Bool.and_eq_true, decide_eq_true_eq, Sane, List.forall_mem_cons, and_assoc]

/-! ### Trucks -/

def TrOk (x : Instance) : List Stop → List Int → Int → Int → Prop
  | s :: r, h :: l, a, n => a + tm x n (ns s.Sat) ≤ h ∧ h ≤ x.End ∧ TrOk x r l h (ns s.Sat)
  | [], _, a, n => a + tm x n 0 ≤ x.End
  | _ :: _, [], _, _ => False
def readyL (x : Instance) : List Stop → List Int → List Int → List Int
  | s :: r, h :: l, rd => readyL x r l (rd.set s.Sat.toNat (max (rd.getD s.Sat.toNat 0) (w64 (h + holdOf x s.Sat))))
  | _, _, rd => rd
theorem truckF_iff {x : Instance} (ht : TmOk x) (he : 0 ≤ x.End ∧ x.End ≤ 1000000000) : ∀ {r : List Stop} {l : List Int} {a n : Int} {rd : List Int}, 0 ≤ a ∧ a ≤ 1000000000 →
    ((truckF x r l a n rd).1 = true ↔ TrOk x r l a n) ∧ ((truckF x r l a n rd).1 = true → (truckF x r l a n rd).2 = readyL x r l rd)
  | [], l, a, n, rd, ha => by
    have h1 := ht n 0
    simp only [truckF, TrOk, decide_eq_true_eq]
    rw [w64_id (by omega)]
    exact ⟨Iff.rfl, fun _ => by cases l <;> rfl⟩
  | s :: r, h :: l, a, n, rd, ha => by
    have h1 := ht n (ns s.Sat)
    simp only [truckF, TrOk]
    rw [w64_id (n := a + tm x n (ns s.Sat)) (by omega)]
    by_cases hb : btw h (a + tm x n (ns s.Sat)) x.End = true
    · have hb' := hb
      simp [btw] at hb'
      rw [hb, if_neg (by simp)]
      have := truckF_iff ht he (r := r) (l := l) (a := h) (n := ns s.Sat) (rd := rd.set s.Sat.toNat (max (rd.getD s.Sat.toNat 0) (w64 (h + holdOf x s.Sat)))) (by omega)
      exact ⟨⟨fun h2 => ⟨hb'.1, hb'.2, this.1.1 h2⟩, fun h2 => this.1.2 h2.2.2⟩, this.2⟩
    · rw [if_pos (by simp [hb])]
      refine ⟨⟨fun h2 => by simp at h2, fun h2 => ?_⟩, fun h2 => by simp at h2⟩
      exact absurd (by simp [btw]; omega) hb
  | s :: r, [], a, n, rd, ha => by simp [truckF, TrOk]
theorem canTL_false {x : Instance} : ∀ {r : List Stop} {l : List Int} {a n : Int}, (canTL x r l a n false).1 = false
  | [], _, _, _ => rfl
  | s :: r, h :: l, a, n => by simp only [canTL, Bool.false_and]; exact canTL_false
  | _ :: _, [], _, _ => rfl
theorem canTL_iff {x : Instance} (ht : TmOk x) (he : 0 ≤ x.End ∧ x.End ≤ 1000000000) : ∀ {r : List Stop} {l : List Int} {a n : Int}, 0 ≤ a ∧ a ≤ x.End → Sane l → l.length = r.length →
    (canEnd x (canTL x r l a n true) = true ↔ TrOk x r l a n)
  | [], l, a, n, ha, _, _ => by
    have h1 := ht n 0
    have ha2 := ha.2
    have e : canEnd x (canTL x [] l a n true) = ((true && decide (a ≤ x.End)) && decide (w64 (a + tm x n 0) ≤ x.End)) := rfl
    rw [e, w64_id (by omega)]
    simp only [TrOk, Bool.true_and, Bool.and_eq_true, decide_eq_true_eq]
    exact ⟨fun h => h.2, fun h => ⟨ha2, h⟩⟩
  | s :: r, h :: l, a, n, ha, hs, hl => by
    have h1 := ht n (ns s.Sat)
    have h2 := hs h (by simp)
    simp only [canTL, TrOk, Bool.true_and]
    rw [w64_id (n := h - a) (by omega)]
    by_cases hc : ((decide (a ≤ h) && decide (tm x n (ns s.Sat) ≤ h - a)) && decide (h ≤ x.End)) = true
    · rw [hc]
      simp at hc
      rw [canTL_iff ht he (by omega) (fun q hq => hs q (List.mem_cons_of_mem _ hq)) (by simpa using hl)]
      exact ⟨fun h3 => ⟨by omega, hc.2, h3⟩, fun h3 => h3.2.2⟩
    · have hc' : ((decide (a ≤ h) && decide (tm x n (ns s.Sat) ≤ h - a)) && decide (h ≤ x.End)) = false := by simpa using hc
      rw [hc']
      refine ⟨fun h3 => ?_, fun h3 => ?_⟩
      · simp [canEnd, canTL_false] at h3
      · simp at hc; omega
  | _ :: _, [], _, _, _, _, hl => by simp at hl
theorem TrOk.sane {x : Instance} (ht : TmOk x) (he : x.End ≤ 1000000000) : ∀ {r : List Stop} {l : List Int} {a n : Int}, 0 ≤ a → l.length = r.length → TrOk x r l a n → Sane l
  | [], l, a, n, _, hl, _ => by
    have : l = [] := List.eq_nil_of_length_eq_zero (by simpa using hl)
    subst this; simp [Sane]
  | s :: r, h :: l, a, n, ha, hl, hk => by
    have h1 := ht n (ns s.Sat)
    simp only [TrOk] at hk
    intro q hq
    rcases List.mem_cons.1 hq with rfl | hq
    · omega
    · exact TrOk.sane ht he (by omega) (by simpa using hl) hk.2.2 q hq
  | _ :: _, [], _, _, _, hl, _ => by simp at hl

def FT : List Truck → List (List Int) → Prop
  | k :: ks, l :: ls => l.length = k.Stops.length ∧ FT ks ls
  | [], [] => True
  | _, _ => False
def FB : List Bike → List Ride → Prop
  | k :: ks, l :: ls => l.Starts.length = k.Stops.length ∧ FB ks ls
  | [], [] => True
  | _, _ => False
theorem FT.of : ∀ {k : List Truck} {l : List (List Int)} {o : Bool}, fitT k l o = true → l.length = k.length → FT k l
  | [], [], _, _, _ => trivial
  | a :: k, b :: l, o, h, hl => by
    simp only [fitT] at h
    have := (fitT_len h).1
    simp at this
    exact ⟨by omega, FT.of h (by simpa using hl)⟩
  | [], _ :: _, _, _, hl => by simp at hl
  | _ :: _, [], _, _, hl => by simp at hl
theorem FB.of : ∀ {k : List Bike} {l : List Ride} {o : Bool}, fitK k l o = true → l.length = k.length → FB k l
  | [], [], _, _, _ => trivial
  | a :: k, b :: l, o, h, hl => by
    simp only [fitK] at h
    have := (fitK_len h).1
    simp at this
    exact ⟨by omega, FB.of h (by simpa using hl)⟩
  | [], _ :: _, _, _, hl => by simp at hl
  | _ :: _, [], _, _, hl => by simp at hl
/-- all trucks do so -/
def TsOk (x : Instance) : List Truck → List (List Int) → Prop
  | k :: ks, l :: ls => TrOk x k.Stops l 0 0 ∧ TsOk x ks ls
  | _, _ => True
def readyT (x : Instance) : List Truck → List (List Int) → List Int → List Int
  | k :: ks, l :: ls, rd => readyT x ks ls (readyL x k.Stops l rd)
  | _, _, rd => rd
theorem trucksT_iff {x : Instance} (ht : TmOk x) (he : 0 ≤ x.End ∧ x.End ≤ 1000000000) : ∀ {ks : List Truck} {ls : List (List Int)} {rd : List Int}, FT ks ls →
    ((trucksT x ks ls rd).1 = true ↔ TsOk x ks ls) ∧ ((trucksT x ks ls rd).1 = true → (trucksT x ks ls rd).2 = readyT x ks ls rd)
  | [], [], rd, _ => by simp [trucksT, TsOk, readyT]
  | k :: ks, l :: ls, rd, hf => by
    simp only [trucksT, TsOk, readyT]
    have h1 := truckF_iff ht he (r := k.Stops) (l := l) (a := 0) (n := 0) (rd := rd) (by omega)
    by_cases hb : (truckF x k.Stops l 0 0 rd).1 = true
    · rw [if_neg (by rw [hb]; simp), h1.2 hb]
      have h2 := trucksT_iff ht he (ks := ks) (ls := ls) (rd := readyL x k.Stops l rd) hf.2
      exact ⟨⟨fun h => ⟨h1.1.1 hb, h2.1.1 h⟩, fun h => h2.1.2 h.2⟩, h2.2⟩
    · rw [if_pos (by simpa using hb)]
      exact ⟨⟨fun h => by simp at h, fun h => absurd (h1.1.2 h.1) hb⟩, fun h => by simp at h⟩
  | [], _ :: _, _, hf => hf.elim
  | _ :: _, [], _, hf => hf.elim
theorem canT_false {x : Instance} : ∀ {ks : List Truck} {ls : List (List Int)}, canT x ks ls false = false
  | [], _ => rfl
  | k :: ks, l :: ls => by
    rw [canT]
    have : canEnd x (canTL x k.Stops l 0 0 false) = false := by simp [canEnd, canTL_false]
    rw [this]; exact canT_false
  | _ :: _, [] => rfl
def SaneT (ls : List (List Int)) : Prop := ∀ l ∈ ls, Sane l
theorem canT_iff {x : Instance} (ht : TmOk x) (he : 0 ≤ x.End ∧ x.End ≤ 1000000000) : ∀ {ks : List Truck} {ls : List (List Int)}, FT ks ls → SaneT ls → (canT x ks ls true = true ↔ TsOk x ks ls)
  | [], [], _, _ => by simp [canT, TsOk]
  | k :: ks, l :: ls, hf, hs => by
    rw [canT]
    have h1 := canTL_iff ht he (r := k.Stops) (l := l) (a := 0) (n := 0) (by omega) (hs l (by simp)) hf.1
    simp only [TsOk]
    by_cases hb : canEnd x (canTL x k.Stops l 0 0 true) = true
    · rw [hb, canT_iff ht he hf.2 fun q hq => hs q (List.mem_cons_of_mem _ hq)]
      exact ⟨fun h => ⟨h1.1 hb, h⟩, fun h => h.2⟩
    · have : canEnd x (canTL x k.Stops l 0 0 true) = false := by simpa using hb
      rw [this, canT_false]
      exact ⟨fun h => by simp at h, fun h => absurd (h1.2 h.1) hb⟩
  | [], _ :: _, hf, _ => hf.elim
  | _ :: _, [], hf, _ => hf.elim
theorem TsOk.sane {x : Instance} (ht : TmOk x) (he : x.End ≤ 1000000000) : ∀ {ks : List Truck} {ls : List (List Int)}, FT ks ls → TsOk x ks ls → SaneT ls
  | [], [], _, _ => by simp [SaneT]
  | k :: ks, l :: ls, hf, h => by
    intro q hq
    rcases List.mem_cons.1 hq with rfl | hq
    · exact TrOk.sane ht he (Int.le_refl 0) hf.1 h.1
    · exact TsOk.sane ht he hf.2 h.2 q hq
  | [], _ :: _, hf, _ => hf.elim
  | _ :: _, [], hf, _ => hf.elim

/-! ### When satellites are ready -/

def RdyL (x : Instance) (sat out : Int) : List Stop → List Int → Prop
  | s :: r, h :: l => (s.Sat = sat → h + holdOf x sat ≤ out) ∧ RdyL x sat out r l
  | _, _ => True
def RdyT (x : Instance) (sat out : Int) : List Truck → List (List Int) → Prop
  | k :: ks, l :: ls => RdyL x sat out k.Stops l ∧ RdyT x sat out ks ls
  | _, _ => True
def HoOk (x : Instance) : Prop := ∀ s, 0 ≤ holdOf x s ∧ holdOf x s ≤ 1000000000
theorem hold_ok {x : Instance} (h : NumOk x) : HoOk x := by
  intro s
  unfold holdOf
  by_cases hs : s.toNat < x.Sats.length
  · rw [getD_lt _ hs]; exact (h.s _ (List.getElem_mem hs)).2
  · simp [List.getD, List.getElem?_eq_none (Nat.le_of_not_lt hs)]
theorem readyL_iff {x : Instance} (ho : HoOk x) {sat out : Int} (hsat : 0 ≤ sat) : ∀ {r : List Stop} {l : List Int} {rd : List Int}, Sane l → (∀ s ∈ r, 0 ≤ s.Sat ∧ s.Sat < rd.length) → sat < rd.length →
    ((readyL x r l rd).getD sat.toNat 0 ≤ out ↔ rd.getD sat.toNat 0 ≤ out ∧ RdyL x sat out r l) ∧ (readyL x r l rd).length = rd.length
  | s :: r, h :: l, rd, hs, hr, hlt => by
    simp only [readyL, RdyL]
    have h1 := hs h (by simp)
    have h2 := ho s.Sat
    have h3 := hr s (by simp)
    have h4 := readyL_iff ho hsat (out := out) (r := r) (l := l) (rd := rd.set s.Sat.toNat (max (rd.getD s.Sat.toNat 0) (w64 (h + holdOf x s.Sat)))) (fun q hq => hs q (List.mem_cons_of_mem _ hq)) (fun q hq => by simpa using hr q (List.mem_cons_of_mem _ hq)) (by simpa using hlt)
    refine ⟨?_, by simpa using h4.2⟩
    rw [h4.1, w64_id (by omega), getD_set (by omega)]
    by_cases e : s.Sat = sat
    · subst e
      rw [if_pos rfl]
      constructor
      · rintro ⟨k1, k2⟩; exact ⟨by omega, fun _ => by omega, k2⟩
      · rintro ⟨k1, k2, k3⟩; have := k2 rfl; exact ⟨by omega, k3⟩
    · rw [if_neg (by omega)]
      constructor
      · rintro ⟨k1, k2⟩; exact ⟨k1, fun e' => absurd e' e, k2⟩
      · rintro ⟨k1, _, k3⟩; exact ⟨k1, k3⟩
  | [], l, rd, _, _, _ => by simp [readyL, RdyL]
  | _ :: _, [], rd, _, _, _ => by simp [readyL, RdyL]
theorem readyT_iff {x : Instance} (ho : HoOk x) {sat out : Int} (hsat : 0 ≤ sat) : ∀ {ks : List Truck} {ls : List (List Int)} {rd : List Int}, SaneT ls → (∀ k ∈ ks, ∀ s ∈ k.Stops, 0 ≤ s.Sat ∧ s.Sat < rd.length) → sat < rd.length →
    ((readyT x ks ls rd).getD sat.toNat 0 ≤ out ↔ rd.getD sat.toNat 0 ≤ out ∧ RdyT x sat out ks ls)
  | k :: ks, l :: ls, rd, hs, hr, hlt => by
    simp only [readyT, RdyT]
    have h1 := readyL_iff ho hsat (out := out) (r := k.Stops) (l := l) (rd := rd) (hs l (by simp)) (hr k (by simp)) hlt
    rw [readyT_iff ho hsat (fun q hq => hs q (List.mem_cons_of_mem _ hq)) (fun q hq => by rw [h1.2]; exact hr q (List.mem_cons_of_mem _ hq)) (by rw [h1.2]; exact hlt), h1.1, and_assoc]
  | [], l, rd, _, _, _ => by simp [readyT, RdyT]
  | _ :: _, [], rd, _, _, _ => by simp [readyT, RdyT]
theorem canRL_iff {x : Instance} (ho : HoOk x) {sat out : Int} : ∀ {r : List Stop} {l : List Int} {ok : Bool}, Sane l → l.length = r.length → (canRL x sat out r l ok = true ↔ ok = true ∧ RdyL x sat out r l)
  | s :: r, h :: l, ok, hs, hl => by
    have h1 := hs h (by simp)
    have h2 := ho sat
    rw [canRL, canRL_iff ho (fun q hq => hs q (List.mem_cons_of_mem _ hq)) (by simpa using hl), w64_id (by omega)]
    simp only [RdyL, Bool.and_eq_true, Bool.or_eq_true, Bool.not_eq_true', decide_eq_false_iff_not, decide_eq_true_eq, and_assoc]
    refine and_congr_right fun _ => and_congr_left fun _ => ?_
    constructor
    · intro h e; exact h.resolve_left (fun h => h e)
    · intro h; by_cases e : s.Sat = sat; exact .inr (h e); exact .inl e
  | [], l, ok, _, _ => by simp [canRL, RdyL]
  | _ :: _, [], ok, _, hl => by simp at hl
theorem canRT_iff {x : Instance} (ho : HoOk x) {sat out : Int} : ∀ {ks : List Truck} {ls : List (List Int)} {ok : Bool}, FT ks ls → SaneT ls → (canRT x sat out ks ls ok = true ↔ ok = true ∧ RdyT x sat out ks ls)
  | k :: ks, l :: ls, ok, hf, hs => by
    rw [canRT, canRT_iff ho hf.2 (fun q hq => hs q (List.mem_cons_of_mem _ hq)), canRL_iff ho (hs l (by simp)) hf.1]
    simp only [RdyT, and_assoc]
  | [], [], ok, _, _ => by simp [canRT, RdyT]
  | [], _ :: _, _, hf, _ => hf.elim
  | _ :: _, [], _, hf, _ => hf.elim

/-! ### Bikes -/

def BlOk (x : Instance) (sat back : Int) : List Int → List Int → Int → Int → Prop
  | c :: r, h :: l, a, n => (custOf x c).Open ≤ h ∧ a + tm x n (nc x c) ≤ h ∧ h ≤ (custOf x c).Close ∧ h ≤ x.End ∧ BlOk x sat back r l (h + (custOf x c).Stay) (nc x c)
  | [], _, a, n => a + tm x n (ns sat) ≤ back ∧ back ≤ x.End
  | _ :: _, [], _, _ => False
def CuOk (x : Instance) : Prop := ∀ c, (0 ≤ (custOf x c).Open ∧ (custOf x c).Open ≤ 1000000000) ∧ 0 ≤ (custOf x c).Stay ∧ (custOf x c).Stay ≤ 1000000000
theorem cust_ok {x : Instance} (h : NumOk x) : CuOk x := by
  intro c
  unfold custOf
  by_cases hs : c.toNat < x.Customers.length
  · rw [getD_lt _ hs]; have := h.u _ (List.getElem_mem hs); exact ⟨this.2.1, this.2.2.2⟩
  · simp [List.getD, List.getElem?_eq_none (Nat.le_of_not_lt hs)]
theorem bikeL_iff {x : Instance} (ht : TmOk x) (hc : CuOk x) (he : 0 ≤ x.End ∧ x.End ≤ 1000000000) {sat back : Int} : ∀ {r : List Int} {l : List Int} {a n : Int}, 0 ≤ a ∧ a ≤ 3000000000 → (bikeL x sat back r l a n = true ↔ BlOk x sat back r l a n)
  | [], l, a, n, ha => by
    have h1 := ht n (ns sat)
    simp only [bikeL, BlOk, btw, Bool.and_eq_true, decide_eq_true_eq]
    rw [w64_id (by omega)]
  | c :: r, h :: l, a, n, ha => by
    have h1 := ht n (nc x c)
    have h2 := hc c
    simp only [bikeL, BlOk]
    rw [w64_id (n := a + tm x n (nc x c)) (by omega)]
    by_cases hb : btw h (max (custOf x c).Open (a + tm x n (nc x c))) (min (custOf x c).Close x.End) = true
    · have hb' := hb
      simp only [btw, Bool.and_eq_true, decide_eq_true_eq] at hb'
      rw [hb, if_neg (by simp), w64_id (by omega), bikeL_iff ht hc he (by omega)]
      constructor
      · intro k; exact ⟨by omega, by omega, by omega, by omega, k⟩
      · intro k; exact k.2.2.2.2
    · rw [if_pos (by simpa using hb)]
      constructor
      · intro k; cases k
      · intro k; exact absurd (by simp only [btw, Bool.and_eq_true, decide_eq_true_eq]; omega) hb
  | _ :: _, [], a, n, _ => by simp [bikeL, BlOk]
theorem canBL_iff {x : Instance} (ht : TmOk x) (hc : CuOk x) (he : 0 ≤ x.End ∧ x.End ≤ 1000000000) {sat back : Int} (hbk : 0 ≤ back ∧ back ≤ 1099511627776) : ∀ {r : List Int} {l : List Int} {a n : Int} {ok : Bool}, 0 ≤ a ∧ a ≤ 3000000000000 → Sane l → l.length = r.length →
    ((∃ u, canBL x r l a n ok = some u ∧ canBack x sat back u = true) ↔ ok = true ∧ BlOk x sat back r l a n) ∧ (r ≠ [] → ok = false → canBL x r l a n ok = none)
  | [], l, a, n, ok, ha, _, _ => by
    have h1 := ht n (ns sat)
    simp only [canBL, BlOk, Option.some.injEq, exists_eq_left', canBack, Bool.and_eq_true, decide_eq_true_eq, ne_eq, not_true_eq_false, false_implies, and_true]
    rw [w64_id (by omega)]
    constructor
    · rintro ⟨⟨⟨k1, k2⟩, k3⟩, k4⟩; exact ⟨k1, by omega, k2⟩
    · rintro ⟨k1, k2, k3⟩; exact ⟨⟨⟨k1, k3⟩, by omega⟩, by omega⟩
  | c :: r, h :: l, a, n, ok, ha, hs, hl => by
    have h1 := ht n (nc x c)
    have h2 := hc c
    have h3 := hs h (by simp)
    simp only [canBL, BlOk]
    by_cases hb : canC x c h a n ok = true
    · have hb' := hb
      simp only [canC, Bool.and_eq_true, decide_eq_true_eq] at hb'
      rw [w64_id (n := h - a) (by omega)] at hb'
      rw [hb, if_neg (by simp), w64_id (n := h + (custOf x c).Stay) (by omega)]
      have := (canBL_iff ht hc he hbk (sat := sat) (r := r) (l := l) (a := h + (custOf x c).Stay) (n := nc x c) (ok := true) (by omega) (fun q hq => hs q (List.mem_cons_of_mem _ hq)) (by simpa using hl)).1
      refine ⟨?_, fun _ e => ?_⟩
      · rw [this]
        constructor
        · rintro ⟨_, k⟩; exact ⟨hb'.1.1.1.1, by omega, by omega, by omega, by omega, k⟩
        · rintro ⟨_, k⟩; exact ⟨rfl, k.2.2.2.2⟩
      · rw [e] at hb'; simp at hb'
    · rw [if_pos (by simpa using hb)]
      refine ⟨?_, fun _ _ => rfl⟩
      constructor
      · rintro ⟨u, k, _⟩; cases k
      · rintro ⟨k1, k⟩
        refine absurd ?_ hb
        simp only [canC, Bool.and_eq_true, decide_eq_true_eq]
        rw [w64_id (n := h - a) (by omega)]
        exact ⟨⟨⟨⟨k1, k.1⟩, k.2.2.1⟩, k.2.2.2.1⟩, by omega⟩
  | _ :: _, [], _, _, _, _, _, hl => by simp at hl
theorem BlOk.sane {x : Instance} (ht : TmOk x) (hc : CuOk x) (he : x.End ≤ 1000000000) {sat back : Int} : ∀ {r : List Int} {l : List Int} {a n : Int}, 0 ≤ a → l.length = r.length → BlOk x sat back r l a n → Sane l ∧ 0 ≤ back ∧ back ≤ 1099511627776
  | [], l, a, n, ha, hl, k => by
    have h1 := ht n (ns sat)
    have : l = [] := List.eq_nil_of_length_eq_zero (by simpa using hl)
    subst this
    simp only [BlOk] at k
    exact ⟨by simp [Sane], by omega, by omega⟩
  | c :: r, h :: l, a, n, ha, hl, k => by
    have h1 := ht n (nc x c)
    have h2 := hc c
    simp only [BlOk] at k
    obtain ⟨k1, k2⟩ := BlOk.sane ht hc he (by omega) (by simpa using hl) k.2.2.2.2
    refine ⟨fun q hq => ?_, k2⟩
    rcases List.mem_cons.1 hq with rfl | hq
    · omega
    · exact k1 q hq
  | _ :: _, [], _, _, _, hl, _ => by simp at hl
/-- a bike does so -/
def BkOk (x : Instance) (ts : List Truck) (tl : List (List Int)) (b : Bike) (r : Ride) : Prop := 0 ≤ r.Out ∧ r.Out ≤ x.End ∧ RdyT x b.Sat r.Out ts tl ∧ BlOk x b.Sat r.Back b.Stops r.Starts r.Out (ns b.Sat)
def BsOk (x : Instance) (ts : List Truck) (tl : List (List Int)) : List Bike → List Ride → Prop
  | b :: bs, r :: rs => BkOk x ts tl b r ∧ BsOk x ts tl bs rs
  | _, _ => True
def SaneB (rs : List Ride) : Prop := ∀ r ∈ rs, (0 ≤ r.Out ∧ r.Out ≤ 1099511627776) ∧ (0 ≤ r.Back ∧ r.Back ≤ 1099511627776) ∧ Sane r.Starts
theorem saneR_iff : ∀ {l : List Ride} {ok : Bool}, l.foldl saneR ok = true ↔ ok = true ∧ SaneB l
  | [], ok => by simp [SaneB]
  | r :: l, ok => by
    rw [List.foldl_cons, saneR_iff, saneR, inF_iff]
    simp only [inF, Bool.and_eq_true, decide_eq_true_eq, SaneB, List.forall_mem_cons, and_assoc]
theorem saneT_iff : ∀ {l : List (List Int)} {ok : Bool}, l.foldl (fun o l => l.foldl inF o) ok = true ↔ ok = true ∧ SaneT l
  | [], ok => by simp [SaneT]
  | r :: l, ok => by
    rw [List.foldl_cons, saneT_iff, inF_iff]
    simp only [SaneT, List.forall_mem_cons, and_assoc]
theorem saneF_iff {t : Times} : saneF t = true ↔ SaneT t.Trucks ∧ SaneB t.Bikes := by
  unfold saneF
  rw [saneR_iff, saneT_iff]; simp
theorem bikesT_iff {x : Instance} (ht : TmOk x) (hc : CuOk x) (ho : HoOk x) (he : 0 ≤ x.End ∧ x.End ≤ 1000000000) {ts : List Truck} {tl : List (List Int)} (hst : SaneT tl) (hts : ∀ k ∈ ts, ∀ s ∈ k.Stops, 0 ≤ s.Sat ∧ s.Sat < x.Sats.length) :
    ∀ {bs : List Bike} {rs : List Ride}, FB bs rs → (∀ b ∈ bs, 0 ≤ b.Sat ∧ b.Sat < x.Sats.length) → (bikesT x bs rs (readyT x ts tl (List.replicate x.Sats.length 0)) = true ↔ BsOk x ts tl bs rs)
  | [], [], _, _ => by simp [bikesT, BsOk]
  | b :: bs, r :: rs, hf, hb => by
    have hb0 := hb b (by simp)
    have hrd := readyT_iff ho (sat := b.Sat) (out := r.Out) hb0.1 (ks := ts) (ls := tl) (rd := List.replicate x.Sats.length 0) hst (by simpa using hts) (by simpa using hb0.2)
    have h0 : (List.replicate x.Sats.length (0 : Int)).getD b.Sat.toNat 0 = 0 := by rw [getD_lt _ (by simp; omega)]; simp
    rw [h0] at hrd
    have hone : bikeF x b r (readyT x ts tl (List.replicate x.Sats.length 0)) = true ↔ BkOk x ts tl b r := by
      unfold bikeF BkOk
      by_cases hq : btw r.Out ((readyT x ts tl (List.replicate x.Sats.length 0)).getD b.Sat.toNat 0) x.End = true
      · have hq' := hq
        simp only [btw, Bool.and_eq_true, decide_eq_true_eq] at hq'
        rw [hq, if_neg (by simp), bikeL_iff ht hc he (by have := hrd.1 hq'.1; omega)]
        have := hrd.1 hq'.1
        exact ⟨fun k => ⟨this.1, hq'.2, this.2, k⟩, fun k => k.2.2.2⟩
      · rw [if_pos (by simpa using hq)]
        constructor
        · intro k; cases k
        · intro k
          refine absurd ?_ hq
          simp only [btw, Bool.and_eq_true, decide_eq_true_eq]
          exact ⟨hrd.2 ⟨k.1, k.2.2.1⟩, k.2.1⟩
    simp only [bikesT, BsOk]
    by_cases hq : bikeF x b r (readyT x ts tl (List.replicate x.Sats.length 0)) = true
    · rw [hq, if_neg (by simp), bikesT_iff ht hc ho he hst hts hf.2 fun q hq => hb q (List.mem_cons_of_mem _ hq)]
      exact ⟨fun k => ⟨hone.1 hq, k⟩, fun k => k.2⟩
    · rw [if_pos (by simpa using hq)]
      exact ⟨fun k => by simp at k, fun k => absurd (hone.2 k.1) hq⟩
  | [], _ :: _, hf, _ => hf.elim
  | _ :: _, [], hf, _ => hf.elim
theorem canRL_false {x : Instance} {sat out : Int} : ∀ {r : List Stop} {l : List Int}, canRL x sat out r l false = false
  | s :: r, h :: l => by rw [canRL, Bool.false_and]; exact canRL_false
  | [], _ => rfl
  | _ :: _, [] => rfl
theorem canRT_false {x : Instance} {sat out : Int} : ∀ {ks : List Truck} {ls : List (List Int)}, canRT x sat out ks ls false = false
  | k :: ks, l :: ls => by rw [canRT, canRL_false]; exact canRT_false
  | [], _ => rfl
  | _ :: _, [] => rfl
theorem canBL_false {x : Instance} : ∀ {r : List Int} {l : List Int} {a n : Int} {u : Bool × Int × Int}, canBL x r l a n false = some u → u.1 = false
  | [], _, _, _, u, h => by simp only [canBL, Option.some.injEq] at h; subst h; rfl
  | c :: r, h :: l, a, n, u, hq => by
    rw [canBL, if_pos (by simp [canC])] at hq; cases hq
  | _ :: _, [], _, _, _, hq => by simp [canBL] at hq
theorem canK_false {x : Instance} {ts : List Truck} {tl : List (List Int)} : ∀ {bs : List Bike} {rs : List Ride}, canK x ts tl bs rs false = false
  | [], _ => rfl
  | b :: bs, r :: rs => by
    rw [canK]
    have e : canRT x b.Sat r.Out ts tl ((false && decide (0 ≤ r.Out)) && decide (r.Out ≤ x.End)) = false := by rw [Bool.false_and, Bool.false_and]; exact canRT_false
    rw [e]
    split
    · rfl
    · rename_i u hu
      have : canBack x b.Sat r.Back u = false := by simp [canBack, canBL_false hu]
      rw [this]; exact canK_false
  | _ :: _, [] => rfl
theorem canK_iff {x : Instance} (ht : TmOk x) (hc : CuOk x) (ho : HoOk x) (he : 0 ≤ x.End ∧ x.End ≤ 1000000000) {ts : List Truck} {tl : List (List Int)} (hft : FT ts tl) (hst : SaneT tl) :
    ∀ {bs : List Bike} {rs : List Ride}, FB bs rs → SaneB rs → (canK x ts tl bs rs true = true ↔ BsOk x ts tl bs rs)
  | [], [], _, _ => by simp [canK, BsOk]
  | b :: bs, r :: rs, hf, hs => by
    have hs0 := hs r (by simp)
    rw [canK]
    simp only [BsOk, BkOk]
    have h1 := canRT_iff ho (sat := b.Sat) (out := r.Out) (ok := (true && decide (0 ≤ r.Out)) && decide (r.Out ≤ x.End)) hft hst
    simp only [Bool.true_and, Bool.and_eq_true, decide_eq_true_eq] at h1
    have h2 := (canBL_iff ht hc he hs0.2.1 (sat := b.Sat) (r := b.Stops) (l := r.Starts) (a := r.Out) (n := ns b.Sat) (ok := canRT x b.Sat r.Out ts tl ((true && decide (0 ≤ r.Out)) && decide (r.Out ≤ x.End))) (by omega) hs0.2.2 hf.1).1
    simp only [Bool.true_and] at h2 ⊢
    rw [h1] at h2
    cases hq : canBL x b.Stops r.Starts r.Out (ns b.Sat) (canRT x b.Sat r.Out ts tl (decide (0 ≤ r.Out) && decide (r.Out ≤ x.End))) with
    | none =>
      rw [hq] at h2
      simp only
      constructor
      · intro k; cases k
      · rintro ⟨k, _⟩
        obtain ⟨u, hu, _⟩ := h2.2 ⟨⟨⟨k.1, k.2.1⟩, k.2.2.1⟩, k.2.2.2⟩
        cases hu
    | some u =>
      rw [hq] at h2
      simp only [Option.some.injEq, exists_eq_left'] at h2
      simp only
      by_cases hk : canBack x b.Sat r.Back u = true
      · rw [hk, canK_iff ht hc ho he hft hst hf.2 fun q hq => hs q (List.mem_cons_of_mem _ hq)]
        have := h2.1 hk
        exact ⟨fun k => ⟨⟨this.1.1.1, this.1.1.2, this.1.2, this.2⟩, k⟩, fun k => k.2⟩
      · have hk' : canBack x b.Sat r.Back u = false := by simpa using hk
        rw [hk', canK_false]
        constructor
        · intro k; cases k
        · rintro ⟨k, _⟩
          exact absurd (h2.2 ⟨⟨⟨k.1, k.2.1⟩, k.2.2.1⟩, k.2.2.2⟩) hk
  | [], _ :: _, hf, _ => hf.elim
  | _ :: _, [], hf, _ => hf.elim
theorem BsOk.sane {x : Instance} (ht : TmOk x) (hc : CuOk x) (he : x.End ≤ 1000000000) {ts : List Truck} {tl : List (List Int)} : ∀ {bs : List Bike} {rs : List Ride}, FB bs rs → BsOk x ts tl bs rs → SaneB rs
  | [], [], _, _ => by simp [SaneB]
  | b :: bs, r :: rs, hf, h => by
    intro q hq
    rcases List.mem_cons.1 hq with rfl | hq
    · have h1 := h.1
      obtain ⟨k1, k2⟩ := BlOk.sane ht hc he h1.1 hf.1 h1.2.2.2
      have h2 := h1.1
      have h3 := h1.2.1
      exact ⟨by omega, k2, k1⟩
    · exact BsOk.sane ht hc he hf.2 h.2 q hq
  | [], _ :: _, hf, _ => hf.elim
  | _ :: _, [], hf, _ => hf.elim
theorem bool_iff {a b : Bool} (h : a = true ↔ b = true) : a = b := by cases a <;> cases b <;> simp_all

/-- the law: by its plan clock.Check answers as the document's definitions -/
theorem clock_law {x : Instance} {y : Plan} {t : Times} (hx : InstOk x) (hp : planCheckF x y = 0) :
    clockCheckF x y t = if fitsB y t = true then (if (saneF t && canF x y t) = true then 0 else 12) else 4 := by
  have hpo := PlanOk.of hp
  have ht := tm_ok hx.num.t
  have hc := cust_ok hx.num
  have ho := hold_ok hx.num
  have he := hx.num.en
  unfold clockCheckF
  rw [if_neg (by rw [hp]; simp)]
  by_cases hf : ((!decide ((t.Trucks.length : Int) = y.Trucks.length) || !decide ((t.Bikes.length : Int) = y.Bikes.length)) || !fitsF y t) = true
  · rw [if_pos hf, if_neg]
    unfold fitsB
    revert hf
    cases (!decide ((t.Trucks.length : Int) = y.Trucks.length) || !decide ((t.Bikes.length : Int) = y.Bikes.length)) <;> cases fitsF y t <;> simp
  · have hf' : ((!decide ((t.Trucks.length : Int) = y.Trucks.length) || !decide ((t.Bikes.length : Int) = y.Bikes.length)) || !fitsF y t) = false := by simpa using hf
    have hfits : fitsB y t = true := by
      unfold fitsB
      revert hf'
      cases (!decide ((t.Trucks.length : Int) = y.Trucks.length) || !decide ((t.Bikes.length : Int) = y.Bikes.length)) <;> cases fitsF y t <;> simp
    rw [if_neg hf, if_pos hfits]
    · simp at hf'
      obtain ⟨⟨l1, l2⟩, l3⟩ := hf'
      have hfb := FB.of (o := fitT y.Trucks t.Trucks true) l3 (by omega)
      have hft := FT.of (o := true) (fitK_len l3).1 (by omega)
      have key : ((trucksT x y.Trucks t.Trucks (List.replicate x.Sats.length 0)).1 = true ∧ bikesT x y.Bikes t.Bikes (trucksT x y.Trucks t.Trucks (List.replicate x.Sats.length 0)).2 = true) ↔ (saneF t && canF x y t) = true := by
        obtain ⟨a1, a2⟩ := trucksT_iff ht he (rd := List.replicate x.Sats.length 0) hft
        rw [Bool.and_eq_true, saneF_iff]
        constructor
        · rintro ⟨k1, k2⟩
          rw [a2 k1] at k2
          have k3 := a1.1 k1
          have s1 := TsOk.sane ht he.2 hft k3
          have k4 := (bikesT_iff ht hc ho he s1 hpo.t hfb fun b hb => (hpo.b b hb).1).1 k2
          have s2 := BsOk.sane ht hc he.2 hfb k4
          refine ⟨⟨s1, s2⟩, ?_⟩
          have c1 := (canT_iff ht he hft s1).2 k3
          unfold canF
          rw [c1, if_neg (by simp)]
          exact (canK_iff ht hc ho he hft s1 hfb s2).2 k4
        · rintro ⟨⟨s1, s2⟩, k⟩
          have c1 : canT x y.Trucks t.Trucks true = true := by
            cases hq : canT x y.Trucks t.Trucks true with
            | true => rfl
            | false => unfold canF at k; rw [hq] at k; simp at k
          unfold canF at k
          rw [c1, if_neg (by simp)] at k
          have k3 := (canT_iff ht he hft s1).1 c1
          have k1 := a1.2 k3
          refine ⟨k1, ?_⟩
          rw [a2 k1]
          exact (bikesT_iff ht hc ho he s1 hpo.t hfb fun b hb => (hpo.b b hb).1).2 ((canK_iff ht hc ho he hft s1 hfb s2).1 k)
      by_cases hk : (saneF t && canF x y t) = true
      · have := key.2 hk
        rw [hk, if_pos rfl, if_neg (by rw [this.1]; simp), if_neg (by rw [this.2]; simp)]
      · rw [if_neg hk]
        by_cases h1 : (trucksT x y.Trucks t.Trucks (List.replicate x.Sats.length 0)).1 = true
        · rw [if_neg (by rw [h1]; simp), if_pos]
          cases h2 : bikesT x y.Bikes t.Bikes (trucksT x y.Trucks t.Trucks (List.replicate x.Sats.length 0)).2 with
          | true => exact absurd (key.1 ⟨h1, h2⟩) hk
          | false => rfl
        · rw [if_pos (by simpa using h1)]
end Go.Proofs.Ytdeacehacndopaa

namespace Go.Proofs.Ytdeacehacndopaa
open Go.RowKit
theorem fits_not {y : Plan} {t : Times} (h : fitsB y t = true) : ((!decide ((t.Trucks.length : Int) = y.Trucks.length) || !decide ((t.Bikes.length : Int) = y.Bikes.length)) || !fitsF y t) = false := by
  unfold fitsB at h
  revert h
  cases (!decide ((t.Trucks.length : Int) = y.Trucks.length) || !decide ((t.Bikes.length : Int) = y.Bikes.length)) <;> cases fitsF y t <;> simp
theorem rep_times {t : Times} {q : HP} {sh : Nat → Prop} {w : World} (h1 : (ro (tSl t64) q.t.1 q.t.2 t.Trucks).P sh w) (h2 : (ro tRide q.b.1 q.b.2 t.Bikes).P sh w) : tTimes.rep sh w (cT t q) t :=
  ⟨[_], [_], rfl, ⟨q.t.1, q.t.2, rfl, h1⟩, ⟨q.b.1, q.b.2, rfl, h2⟩⟩
theorem put_rep {z : Int} (hz : w64 z = z) (x : Int) (sh : Nat → Prop) (w : World) (_h : t64.rep sh w [.int .i64 x] x) : t64.rep sh w (([.int .i64 x] : List Value).set 0 (.int .i64 z)) z := ⟨rfl, hz⟩
theorem put_out {z : Int} (hz : w64 z = z) (x : RideR) (sh : Nat → Prop) (w : World) (h : tRideR.rep sh w [.int .i64 x.Out, .slice x.r.a x.r.l.length x.r.c, .int .i64 x.Back] x) :
    tRideR.rep sh w (([.int .i64 x.Out, .slice x.r.a x.r.l.length x.r.c, .int .i64 x.Back] : List Value).set 0 (.int .i64 z)) ⟨z, x.r, x.Back⟩ := rep_rideR hz (rideR_rng h).2 rfl _ _
theorem put_back {z : Int} (hz : w64 z = z) (x : RideR) (sh : Nat → Prop) (w : World) (h : tRideR.rep sh w [.int .i64 x.Out, .slice x.r.a x.r.l.length x.r.c, .int .i64 x.Back] x) :
    tRideR.rep sh w (([.int .i64 x.Out, .slice x.r.a x.r.l.length x.r.c, .int .i64 x.Back] : List Value).set 2 (.int .i64 z)) ⟨x.Out, x.r, z⟩ := rep_rideR (rideR_rng h).1 hz rfl _ _
theorem reset_two {α : Type} {ty : RTy α} {l : List α} {k : Nat} {x y : α} (hx : ∀ sh w cs, ty.rep sh w cs x → ty.rep sh w cs y) :
    ∀ sh w cs (i : Nat) (h : i < (l.set k x).length) (h' : i < (l.set k y).length), ty.rep sh w cs (l.set k x)[i] → ty.rep sh w cs (l.set k y)[i] := by
  intro sh w cs i h h' hr
  rw [List.getElem_set] at hr ⊢
  split
  · rename_i e; rw [if_pos e] at hr; exact hx _ _ _ hr
  · rename_i e; rw [if_neg e] at hr; exact hr

set_option maxRecDepth 20000 in
theorem clockAny_spec (hA : ∀ w, Calls Pr fn_law18_Awake #[] w fun e w' => e = .returned (.bool true) ∧ Ext w w') (s : Small) (ps : HS) (y : Wish) (pw : HW) (t : Times) (pt : HP) (raw : List Int) (ar : Option Addr) (cr : Nat) (hS : OkS s) (hW : OkW y) (ht : t.Trucks.length ≤ 9223372036854775807 ∧ t.Bikes.length ≤ 9223372036854775807) (hraw : raw.length ≤ 9223372036854775807)
    (sh : Nat → Prop) (w : World) (h : Holds ⟨0, w, [], sh⟩ [] (rS s ps (rW y pw (rT t pt [ro t64 ar cr raw]))) w) :
    Calls Pr fn_law18_ClockAny #[.agg (cS s ps).toArray, .agg (cW y pw).toArray, .agg (cT t pt).toArray, .slice ar raw.length cr] w fun e w' => e = .returned (.bool true) ∧ Ext w w' := by
  refine Calls.of_go (args := [_, _, _, _]) fn_law18_ClockAny_f rfl rfl rfl h ?_
  refine GoC.roAll ps.s.1 (fun h1 => ?_)
  refine GoC.roAll ps.u.1 (fun h2 => ?_)
  refine GoC.ro64 (kk := .u8) ps.k.1 (fun h3 => ?_)
  refine GoC.ro64 (kk := .u8) ps.t.1 (fun h4 => ?_)
  have hSm : SmallOk s := ⟨hS, h1, h2, h3, h4⟩
  have hMd := makeF_ok hSm
  refine GoC.seq ?_
  refine GoC.region ?_
  refine GoL.x (op_box rfl rfl) ?_
  rintro _ _ _ ⟨b4, rfl, rfl, rfl⟩
  refine GoL.x (op_box rfl rfl) ?_
  rintro _ _ _ ⟨b5, rfl, rfl, rfl⟩
  refine GoL.x (op_box rfl rfl) ?_
  rintro _ _ _ ⟨b6, rfl, rfl, rfl⟩
  refine GoL.x (op_box rfl rfl) ?_
  rintro _ _ _ ⟨b7, rfl, rfl, rfl⟩
  refine GoL.q (op_assign rfl) ?_
  refine GoL.nil .next ?_
  refine GoC.seq ?_
  refine GoC.seq ?_
  refine GoC.region ?_
  refine GoL.p (op_callP rfl fun w _ => hA w) ?_
  refine GoL.q (op_not rfl) ?_
  refine GoL.nil .next ?_
  refine GoC.cond rfl (fun hc0 => ?_) (fun hc0 => ?_)
  · exact absurd hc0 (by simp)
  · skip
    refine GoC.skipTo .next ?_
    refine GoC.seq ?_
    refine GoC.seq ?_
    refine GoC.region ?_
    refine GoL.q (op_fieldAddr rfl) ?_
    refine GoL.q (op_load rfl rfl) ?_
    refine GoL.q (op_len rfl) ?_
    refine GoL.q (op_fieldAddr rfl) ?_
    refine GoL.q (op_load rfl rfl) ?_
    refine GoL.q (op_len rfl) ?_
    refine GoL.q (op_add rfl rfl) ?_
    refine GoL.q (op_gtr rfl rfl) ?_
    refine GoL.q (op_move rfl) ?_
    apply GoL.or (m := 3) (x := 34) rfl rfl rfl rfl rfl rfl rfl rfl (Wn.none rfl)
    · intro hg1
      refine GoL.q (op_load rfl rfl) ?_ (hg := Wn.some rfl rfl rfl hg1)
      refine GoL.q (op_len rfl) ?_ (hg := Wn.some rfl rfl rfl hg1)
      refine GoL.q (op_gtr rfl rfl) ?_ (hg := Wn.some rfl rfl rfl hg1)
      exact GoL.part (k := 3) rfl rfl rfl
    refine GoL.nil .next ?_
    refine GoC.cond rfl (fun hc2 => ?_) (fun hc2 => ?_)
    · refine GoC.seq ?_
      refine GoC.region ?_
      refine GoL.q (op_assign rfl) ?_
      refine GoL.nil .next ?_
      refine GoC.ret (.thenRet (.here)) ?_
      refine done1 rfl rfl ?_
      intro w' hw
      exact ⟨rfl, hw.keep⟩
    · refine GoC.skipTo .next ?_
      refine GoC.seq ?_
      refine GoC.region ?_
      refine GoL.q (op_loadA rfl rfl rfl) ?_
      refine GoL.x (op_callF (vs := [.agg (cS s ps).toArray]) rfl (fun sh w h => make_spec s ps hS sh w h)) ?_
      rintro _ _ _ ⟨g, rfl, rfl, rfl⟩
      refine GoL.x (op_alloc) ?_
      rintro _ _ _ ⟨b9, rfl, rfl, rfl⟩
      refine GoL.y0 (op_store (cs' := c0 g.1) rfl rfl rfl rfl (by simp [Value.oneCell']) (Nat.le_of_ble_eq_true rfl) rfl) ?_
      rintro _ _ _ ⟨rfl, rfl, rfl⟩
      refine GoL.nil .next ?_
      refine GoC.seq ?_
      have hX : MadeOk g.1.x := by rw [g.2]; exact hMd
      refine GoC.recel b9 (cI g.1.x g.1.p) (c0_eq g.1) ?_
      refine GoC.shareDeep (f := inr ty_i64 t64) g.1.t.a (tSl t64) (·.l) (by rfl) (fun sh w cs x => rep_inr (T := ty_i64) sh w cs x) ?_
      refine GoC.shareDeep (f := inr ty_i64 t64) g.1.k.a (tSl t64) (·.l) (by rfl) (fun sh w cs x => rep_inr (T := ty_i64) sh w cs x) ?_
      refine GoC.shareOwn g.1.u.a ?_
      refine GoC.shareOwn g.1.s.a ?_
      change GoC Pr _ _ _ (rI g.1.x g.1.p (rS s ps (rW y pw (rT t pt [ro t64 ar cr raw])))) _ _
      refine GoC.region ?_
      refine GoL.q (op_loadA rfl rfl rfl) ?_
      refine GoL.q (op_loadA rfl rfl rfl) ?_
      refine GoL.x (op_callF (vs := [.agg (cI g.1.x g.1.p).toArray, .agg (cW y pw).toArray]) rfl (fun sh w h => draft_spec g.1.x g.1.p y pw hX.ok.okI hW hX.u6 hX.s3 hX.ok.ns.1 ⟨hX.tr.1, by have := hX.tr.2; omega⟩ (fun c hc => by have := (hX.cu c hc).1; omega) sh w h)) ?_
      rintro _ _ _ ⟨k, rfl, rfl, rfl⟩
      refine GoL.x (op_alloc) ?_
      rintro _ _ _ ⟨b10, rfl, rfl, rfl⟩
      refine GoL.y0 (op_store (cs' := cP0 k.1) rfl rfl rfl rfl (by simp [Value.oneCell']) (Nat.le_of_ble_eq_true rfl) rfl) ?_
      rintro _ _ _ ⟨rfl, rfl, rfl⟩
      refine GoL.nil .next ?_
      refine GoC.seq ?_
      refine GoC.seq ?_
      have hsm := k.2.2
      have hy : k.1.y.Trucks.length ≤ 9223372036854775807 ∧ k.1.y.Bikes.length ≤ 9223372036854775807 := ⟨by have := hsm.t; omega, by have := hsm.b; omega⟩
      refine GoC.recel b10 (cP k.1.y k.1.p) (cP0_eq k.1) ?_
      refine GoC.shareDeep (f := inB) k.1.b.a tBike BikeR.b (by rfl) (fun sh w cs x => rep_bike0 sh w cs x) ?_
      refine GoC.shareDeep (f := inT) k.1.t.a tTruck trk (by rfl) (fun sh w cs x => rep_truck0 sh w cs x) ?_
      change GoC Pr _ _ _ (rP k.1.y k.1.p (rI g.1.x g.1.p (rS s ps (rW y pw (rT t pt [ro t64 ar cr raw]))))) _ _
      refine GoC.region ?_
      refine GoL.q (op_loadA rfl rfl rfl) ?_
      refine GoL.q (op_loadA rfl rfl rfl) ?_
      refine GoL.p (op_callV (vs := [.agg (cI g.1.x g.1.p).toArray, .agg (cP k.1.y k.1.p).toArray]) rfl (fun sh w h => code_spec g.1.x g.1.p k.1.y k.1.p hX.ok.okI hX.ok.sq hy sh w h)) ?_
      refine GoL.q (op_neq rfl rfl) ?_
      refine GoL.nil .next ?_
      refine GoC.sub (E' := [(6, _), (7, _), (8, _), (9, _), (10, _), (44, _)]) ⟨rfl, rfl, rfl, rfl, rfl, rfl, trivial⟩ ?_
      refine GoC.cond rfl (fun hc3 => ?_) (fun hc3 => ?_)
      · skip
        refine GoC.seq ?_
        refine GoC.region ?_
        refine GoL.q (op_assign rfl) ?_
        refine GoL.nil .next ?_
        refine GoC.ret (.thenRet (.here)) ?_
        refine done1 rfl rfl ?_
        intro w' hw
        exact ⟨rfl, hw.keep⟩
      · have hcode : codeF g.1.x k.1.y = 0 := by simpa using hc3
        refine GoC.skipTo .next ?_
        refine GoC.seq ?_
        have hplan := (plan_of_code hX.ok hsm hcode).1
        have hpo := PlanOk.of hplan
        refine GoC.region ?_
        refine GoL.q (op_loadA rfl rfl rfl) ?_
        refine GoL.q (op_loadA rfl rfl rfl) ?_
        refine GoL.x (op_callF (vs := [.agg (cI g.1.x g.1.p).toArray, .agg (cP k.1.y k.1.p).toArray]) rfl (fun sh w h => soon_spec g.1.x g.1.p k.1.y k.1.p hX.ok.okI hX.ok.sq hpo.t hpo.b k.2.2 sh w h)) ?_
        rintro _ _ _ ⟨m, rfl, rfl, rfl⟩
        refine GoL.x (op_alloc) ?_
        rintro _ _ _ ⟨b11, rfl, rfl, rfl⟩
        refine GoL.x (op_alloc) ?_
        rintro _ _ _ ⟨b12, rfl, rfl, rfl⟩
        refine GoL.y0 (op_store (cs' := cT0 m.1) rfl rfl rfl rfl (by simp [Value.oneCell']) (Nat.le_of_ble_eq_true rfl) rfl) ?_
        rintro _ _ _ ⟨rfl, rfl, rfl⟩
        refine GoL.y0 (op_store (cs' := [.int .i64 0]) rfl rfl rfl rfl (by simp [Value.oneCell']) (Nat.le_of_ble_eq_true rfl) rfl) ?_
        rintro _ _ _ ⟨rfl, rfl, rfl⟩
        refine GoL.nil .next ?_
        refine GoC.seq ?_
        refine GoC.shareCel b7 ?_
        refine GoC.region ?_
        refine GoL.q (op_makeFunc rfl rfl) ?_
        refine GoL.q (op_assign rfl) ?_
        refine GoL.nil .next ?_
        refine GoC.seq ?_
        refine GoC.seq ?_
        refine GoC.region ?_
        refine GoL.q (op_fieldAddr rfl) ?_
        refine GoL.q (op_load rfl rfl) ?_
        refine GoL.q (op_len rfl) ?_
        refine GoL.q (op_move rfl) ?_
        refine GoL.nil .next ?_
        refine GoC.block ?_
        refine GoC.arrange [own ty_s_i64 (tH Int) m.1.t.a m.1.t.c m.1.t.l, grp (m.1.t.l.map inI), own ty_clock_Ride tRideR m.1.b.a m.1.b.c m.1.b.l, grp (m.1.b.l.map inR), cel b11 ty_clock_Times (cT0 m.1), cel b12 3 [.int .i64 0], cel b10 ty_plan_Plan (cP k.1.y k.1.p), cel b9 ty_inst_Instance (cI g.1.x g.1.p), cel b6 ty_clock_Times (cT t pt), cel b5 ty_law17_Wish (cW y pw), cel b4 ty_law11_Small (cS s ps)] ?_
        have hml := m.2.t
        have hmb := m.2.b
        refine GoC.loop (σ := Nat × List (Row Int) × Int) (fun u => [(52, .int .i64 (u.1 : Int))]) [(6, _), (9, _), (10, _), (11, _), (13, _), (51, _)] (fun u => [own ty_s_i64 (tH Int) m.1.t.a m.1.t.c u.2.1, grp (u.2.1.map inI), own ty_clock_Ride tRideR m.1.b.a m.1.b.c m.1.b.l, grp (m.1.b.l.map inR), cel b11 ty_clock_Times (cT0 m.1), cel b12 3 [.int .i64 u.2.2], cel b10 ty_plan_Plan (cP k.1.y k.1.p), cel b9 ty_inst_Instance (cI g.1.x g.1.p), cel b6 ty_clock_Times (cT t pt), cel b5 ty_law17_Wish (cW y pw), cel b4 ty_law11_Small (cS s ps)]) (fun u => _) (fun u => u.1 ≤ m.1.t.l.length ∧ (u.2.1.length = m.1.t.l.length ∧ (∀ r ∈ u.2.1, r.l.length ≤ 3000) ∧ 0 ≤ u.2.2 ∧ u.2.2 ≤ 6000 * (u.1 : Int))) (fun u => m.1.t.l.length - u.1) (0, m.1.t.l, 0) ⟨by simp, rfl, m.2.ts, by simp, by simp⟩ ⟨rfl, rfl, rfl, rfl, rfl, rfl, rfl, trivial⟩ (fun _ h => h) ?_
        intro u ⟨hu1, hu2⟩
        refine GoC.seq ?_
        refine GoC.region ?_
        refine GoL.q (op_lss rfl rfl) ?_
        refine GoL.nil .next ?_
        refine GoC.seq ?_
        refine GoC.cond rfl (fun hc4 => ?_) (fun hc4 => ?_)
        · have hlt : u.1 < m.1.t.l.length := by simpa using hc4
          refine GoC.skipTo .next ?_
          refine GoC.seq ?_
          refine GoC.block ?_
          refine GoC.seq ?_
          refine GoC.region ?_
          refine GoL.q (op_move rfl) ?_
          refine GoL.q (op_assign rfl) ?_
          refine GoL.nil .next ?_
          refine GoC.seq ?_
          have hk1 : u.1 < u.2.1.length := by have := hu2.1; omega
          have hrl := hu2.2.1 _ (List.getElem_mem hk1)
          refine GoC.region ?_
          refine GoL.q (op_fieldAddr rfl) ?_
          refine GoL.q (op_load rfl rfl) ?_
          refine GoL.q (op_move rfl) ?_
          refine GoL.q (op_indexO (k := u.1) rfl rfl rfl hk1 (by first | rfl | omega | (simp only [List.length_set]; omega))) ?_
          refine GoL.q (op_loadOF (m := 1) (u.1) 0 hk1 rfl rfl) ?_
          refine GoL.q (op_len rfl) ?_
          refine GoL.q (op_move rfl) ?_
          refine GoL.nil .next ?_
          refine GoC.block ?_
          refine GoC.pull (f := inI) u.2.1 u.1 hk1 ?_
          refine GoC.loop (σ := Nat × List Int × Int) (fun z => [(61, .int .i64 (z.1 : Int))]) [(52, _), (6, _), (9, _), (10, _), (11, _), (13, _), (51, _), (14, _), (60, _)] (fun z => [own ty_i64 t64 u.2.1[u.1].a u.2.1[u.1].c z.2.1, grp ((u.2.1.take u.1 ++ u.2.1.drop (u.1 + 1)).map inI), own ty_s_i64 (tH Int) m.1.t.a m.1.t.c u.2.1, own ty_clock_Ride tRideR m.1.b.a m.1.b.c m.1.b.l, grp (m.1.b.l.map inR), cel b11 ty_clock_Times (cT0 m.1), cel b12 3 [.int .i64 z.2.2], cel b10 ty_plan_Plan (cP k.1.y k.1.p), cel b9 ty_inst_Instance (cI g.1.x g.1.p), cel b6 ty_clock_Times (cT t pt), cel b5 ty_law17_Wish (cW y pw), cel b4 ty_law11_Small (cS s ps)]) (fun z => _) (fun z => z.1 ≤ u.2.1[u.1].l.length ∧ (z.2.1.length = u.2.1[u.1].l.length ∧ 0 ≤ z.2.2 ∧ z.2.2 ≤ 6000 * (u.1 : Int) + 2 * (z.1 : Int))) (fun z => u.2.1[u.1].l.length - z.1) (0, u.2.1[u.1].l, u.2.2) ⟨by simp, rfl, hu2.2.2.1, by have := hu2.2.2.2; simp only; omega⟩ ⟨rfl, rfl, rfl, rfl, rfl, rfl, rfl, rfl, rfl, rfl, trivial⟩ (fun _ h => h) ?_
          intro z ⟨hz1, hz2⟩
          refine GoC.seq ?_
          refine GoC.region ?_
          refine GoL.q (op_lss rfl rfl) ?_
          refine GoL.nil .next ?_
          refine GoC.seq ?_
          refine GoC.cond rfl (fun hc5 => ?_) (fun hc5 => ?_)
          · have hlt2 : z.1 < u.2.1[u.1].l.length := by simpa using hc5
            refine GoC.skipTo .next ?_
            refine GoC.seq ?_
            refine GoC.block ?_
            refine GoC.seq ?_
            refine GoC.region ?_
            refine GoL.q (op_move rfl) ?_
            refine GoL.q (op_assign rfl) ?_
            refine GoL.nil .next ?_
            have hk2 : z.1 < z.2.1.length := by have := hz2.1; omega
            refine GoC.region ?_
            refine GoL.q (op_move rfl) ?_
            refine GoL.q (op_fieldAddr rfl) ?_
            refine GoL.q (op_load rfl rfl) ?_
            refine GoL.q (op_move rfl) ?_
            refine GoL.q (op_indexO (k := u.1) rfl rfl rfl hk1 (by first | rfl | omega | (simp only [List.length_set]; omega))) ?_
            refine GoL.q (op_loadOF (m := 1) (u.1) 0 hk1 rfl rfl) ?_
            refine GoL.q (op_move rfl) ?_
            refine GoL.q (op_indexO (k := z.1) rfl rfl rfl hk2 (by first | rfl | omega | (simp only [List.length_set]; omega))) ?_
            refine GoL.y (op_cValM (γ := { o : Int // o = (z.2.1)[z.1]'hk2 ∨ ∃ q, w64 q = q ∧ o = ((id : Int → Int)) q }) (v := fun _ => .tuple #[]) (vs := [.pointer (some (eaddr u.2.1[u.1].a (z.1 * 1 + 0)))]) (us := [.pointer (some ⟨b12, 0, none⟩), .pointer (some ⟨b7, 0, none⟩)]) (Wa := [own ty_i64 t64 u.2.1[u.1].a u.2.1[u.1].c (z.2.1), cel b12 3 [.int .i64 z.2.2]]) (Ra := [ro t64 ar cr raw, cells (some ⟨b7, 0, none⟩) 0 [.slice ar raw.length cr]]) (W1 := fun o => [own ty_i64 t64 u.2.1[u.1].a u.2.1[u.1].c ((z.2.1).set z.1 o.1), cel b12 3 [.int .i64 (w64 (z.2.2 + 2))]]) (R1 := fun _ => []) rfl rfl (fun sh w h => put_spec (T := ty_i64) (ty := t64) (F := fun x => [.int .i64 x]) u.2.1[u.1].a u.2.1[u.1].c (z.2.1) z.1 0 1 ((id : Int → Int)) hk2 rfl (by decide) (fun q hq sh w h => put_rep hq _ sh w h) raw ar cr b12 b7 z.2.2 (by first | omega | (simp only [w64]; omega)) sh w h)) ?_
            rintro _ _ _ ⟨g72, rfl, rfl, rfl⟩
            refine GoL.nil (.blockNormal (.next)) ?_
            refine GoC.region ?_
            refine GoL.q (op_inc rfl (by omega)) ?_
            refine GoL.q (op_move rfl) ?_
            exact GoL.again (z.1 + 1, z.2.1.set z.1 g72.1, w64 (z.2.2 + 2)) ⟨by omega, by simp only [List.length_set]; exact hz2.1, by have := hz2.2; simp only; rw [w64_id (by omega)]; omega, by have := hz2.2; simp only; rw [w64_id (by omega)]; omega⟩ (by simp only; omega) ⟨rfl, rfl, rfl, rfl, rfl, rfl, rfl, rfl, rfl, rfl, trivial⟩
          · have hge2 : u.2.1[u.1].l.length ≤ z.1 := by simpa using hc5
            refine GoC.exit (.thenExit (.thenExit (.blockSame (.blockNormal (.next))))) ?_
            have hzl := hz2.1
            refine GoC.reown (ty := tH Int) (ty' := tH Int) m.1.t.a (u.2.1.set u.1 (⟨u.2.1[u.1].a, u.2.1[u.1].c, z.2.1⟩ : Row Int)) rfl (by simp) (reset_rep hk1 (fun sh w cs h => h.trans (by rw [hzl]))) ?_
            refine GoC.push (f := inI) u.2.1 u.1 (⟨u.2.1[u.1].a, u.2.1[u.1].c, z.2.1⟩ : Row Int) hk1 ?_
            refine GoC.region ?_
            refine GoL.q (op_inc rfl (by omega)) ?_
            refine GoL.q (op_move rfl) ?_
            exact GoL.again (u.1 + 1, u.2.1.set u.1 ⟨u.2.1[u.1].a, u.2.1[u.1].c, z.2.1⟩, z.2.2) ⟨by omega, by simp only [List.length_set]; exact hu2.1, fun r hr => by rcases List.mem_or_eq_of_mem_set hr with hr | rfl; exact hu2.2.1 r hr; simp only [hz2.1]; exact hrl, hz2.2.1, by have := hz2.2.2; simp only; omega⟩ (by simp only; omega) ⟨rfl, rfl, rfl, rfl, rfl, rfl, rfl, trivial⟩
        · have hge : m.1.t.l.length ≤ u.1 := by simpa using hc4
          refine GoC.exit (.thenExit (.thenExit (.blockSame (.next)))) ?_
          refine GoC.seq ?_
          refine GoC.seq ?_
          refine GoC.region ?_
          refine GoL.q (op_fieldAddr rfl) ?_
          refine GoL.q (op_load rfl rfl) ?_
          refine GoL.q (op_len rfl) ?_
          refine GoL.q (op_move rfl) ?_
          refine GoL.nil .next ?_
          refine GoC.block ?_
          refine GoC.loop (σ := Nat × List RideR × Int) (fun v => [(78, .int .i64 (v.1 : Int))]) [(6, _), (9, _), (10, _), (11, _), (13, _), (77, _)] (fun v => [own ty_s_i64 (tH Int) m.1.t.a m.1.t.c u.2.1, grp (u.2.1.map inI), own ty_clock_Ride tRideR m.1.b.a m.1.b.c v.2.1, grp (v.2.1.map inR), cel b11 ty_clock_Times (cT0 m.1), cel b12 3 [.int .i64 v.2.2], cel b10 ty_plan_Plan (cP k.1.y k.1.p), cel b9 ty_inst_Instance (cI g.1.x g.1.p), cel b6 ty_clock_Times (cT t pt), cel b5 ty_law17_Wish (cW y pw), cel b4 ty_law11_Small (cS s ps)]) (fun v => _) (fun v => v.1 ≤ m.1.b.l.length ∧ (v.2.1.length = m.1.b.l.length ∧ (∀ r ∈ v.2.1, r.r.l.length ≤ 3000) ∧ 0 ≤ v.2.2 ∧ v.2.2 ≤ 18000000 + 6004 * (v.1 : Int))) (fun v => m.1.b.l.length - v.1) (0, m.1.b.l, u.2.2) ⟨by simp, rfl, m.2.bs, hu2.2.2.1, by have := hu2.2.2.2; simp only; omega⟩ ⟨rfl, rfl, rfl, rfl, rfl, rfl, rfl, trivial⟩ (fun _ h => h) ?_
          intro v ⟨hv1, hv2⟩
          refine GoC.seq ?_
          refine GoC.region ?_
          refine GoL.q (op_lss rfl rfl) ?_
          refine GoL.nil .next ?_
          refine GoC.seq ?_
          refine GoC.cond rfl (fun hc6 => ?_) (fun hc6 => ?_)
          · have hlt5 : v.1 < m.1.b.l.length := by simpa using hc6
            refine GoC.skipTo .next ?_
            refine GoC.seq ?_
            refine GoC.block ?_
            refine GoC.seq ?_
            refine GoC.region ?_
            refine GoL.q (op_move rfl) ?_
            refine GoL.q (op_assign rfl) ?_
            refine GoL.nil .next ?_
            refine GoC.seq ?_
            have hk3 : v.1 < v.2.1.length := by have := hv2.1; omega
            have hrb := hv2.2.1 _ (List.getElem_mem hk3)
            refine GoC.region ?_
            refine GoL.q (op_move rfl) ?_
            refine GoL.q (op_fieldAddr rfl) ?_
            refine GoL.q (op_load rfl rfl) ?_
            refine GoL.q (op_move rfl) ?_
            refine GoL.q (op_indexO (k := v.1) rfl rfl rfl hk3 (by first | rfl | omega | (simp only [List.length_set]; omega))) ?_
            refine GoL.q (op_fieldAddrE rfl) ?_
            refine GoL.y (op_cValM (γ := { o : RideR // o = (v.2.1)[v.1]'hk3 ∨ ∃ q, w64 q = q ∧ o = ((fun q => ⟨q, v.2.1[v.1].r, v.2.1[v.1].Back⟩ : Int → RideR)) q }) (v := fun _ => .tuple #[]) (vs := [.pointer (some (eaddr m.1.b.a (v.1 * 3 + 0)))]) (us := [.pointer (some ⟨b12, 0, none⟩), .pointer (some ⟨b7, 0, none⟩)]) (Wa := [own ty_clock_Ride tRideR m.1.b.a m.1.b.c (v.2.1), cel b12 3 [.int .i64 v.2.2]]) (Ra := [ro t64 ar cr raw, cells (some ⟨b7, 0, none⟩) 0 [.slice ar raw.length cr]]) (W1 := fun o => [own ty_clock_Ride tRideR m.1.b.a m.1.b.c ((v.2.1).set v.1 o.1), cel b12 3 [.int .i64 (w64 (v.2.2 + 2))]]) (R1 := fun _ => []) rfl rfl (fun sh w h => put_spec (T := ty_clock_Ride) (ty := tRideR) (F := fun x => [.int .i64 x.Out, .slice x.r.a x.r.l.length x.r.c, .int .i64 x.Back]) m.1.b.a m.1.b.c (v.2.1) v.1 0 3 ((fun q => ⟨q, v.2.1[v.1].r, v.2.1[v.1].Back⟩ : Int → RideR)) hk3 rfl (by decide) (fun q hq sh w h => put_out hq _ sh w h) raw ar cr b12 b7 v.2.2 (by first | omega | (simp only [w64]; omega)) sh w h)) ?_
            rintro _ _ _ ⟨g87, rfl, rfl, rfl⟩
            refine GoL.nil .next ?_
            refine GoC.seq ?_
            have hk4 : v.1 < (v.2.1.set v.1 g87.1).length := by rw [List.length_set]; exact hk3
            have hw1 : w64 (v.2.2 + 2) = v.2.2 + 2 := w64_id (by omega)
            have hg1 : g87.1.r = v.2.1[v.1].r := by rcases g87.2 with h | ⟨_, _, h⟩ <;> rw [h]
            refine GoC.region ?_
            refine GoL.q (op_move rfl) ?_
            refine GoL.q (op_fieldAddr rfl) ?_
            refine GoL.q (op_load rfl rfl) ?_
            refine GoL.q (op_move rfl) ?_
            refine GoL.q (op_indexO (k := v.1) rfl rfl rfl hk4 (by first | rfl | omega | (simp only [List.length_set]; omega))) ?_
            refine GoL.q (op_fieldAddrE rfl) ?_
            refine GoL.y (op_cValM (γ := { o : RideR // o = (v.2.1.set v.1 g87.1)[v.1]'hk4 ∨ ∃ q, w64 q = q ∧ o = ((fun q => ⟨((v.2.1.set v.1 g87.1)[v.1]'hk4).Out, ((v.2.1.set v.1 g87.1)[v.1]'hk4).r, q⟩ : Int → RideR)) q }) (v := fun _ => .tuple #[]) (vs := [.pointer (some (eaddr m.1.b.a (v.1 * 3 + 2)))]) (us := [.pointer (some ⟨b12, 0, none⟩), .pointer (some ⟨b7, 0, none⟩)]) (Wa := [own ty_clock_Ride tRideR m.1.b.a m.1.b.c (v.2.1.set v.1 g87.1), cel b12 3 [.int .i64 (w64 (v.2.2 + 2))]]) (Ra := [ro t64 ar cr raw, cells (some ⟨b7, 0, none⟩) 0 [.slice ar raw.length cr]]) (W1 := fun o => [own ty_clock_Ride tRideR m.1.b.a m.1.b.c ((v.2.1.set v.1 g87.1).set v.1 o.1), cel b12 3 [.int .i64 (w64 ((w64 (v.2.2 + 2)) + 2))]]) (R1 := fun _ => []) rfl rfl (fun sh w h => put_spec (T := ty_clock_Ride) (ty := tRideR) (F := fun x => [.int .i64 x.Out, .slice x.r.a x.r.l.length x.r.c, .int .i64 x.Back]) m.1.b.a m.1.b.c (v.2.1.set v.1 g87.1) v.1 2 3 ((fun q => ⟨((v.2.1.set v.1 g87.1)[v.1]'hk4).Out, ((v.2.1.set v.1 g87.1)[v.1]'hk4).r, q⟩ : Int → RideR)) hk4 rfl (by decide) (fun q hq sh w h => put_back hq _ sh w h) raw ar cr b12 b7 (w64 (v.2.2 + 2)) (by first | omega | (simp only [w64]; omega)) sh w h)) ?_
            rintro _ _ _ ⟨g94, rfl, rfl, rfl⟩
            rw [List.set_set]
            refine GoL.nil .next ?_
            refine GoC.seq ?_
            have hk5 : v.1 < (v.2.1.set v.1 g94.1).length := by rw [List.length_set]; exact hk3
            have hg2 : g94.1.r = v.2.1[v.1].r := by rcases g94.2 with h | ⟨_, _, h⟩ <;> (rw [h]; simpa using hg1)
            have hw2 : w64 (w64 (v.2.2 + 2) + 2) = v.2.2 + 4 := by rw [hw1, w64_id (by omega)]; omega
            have hR5 : ((fun x : RideR => ([.int .i64 x.Out, .slice x.r.a x.r.l.length x.r.c, .int .i64 x.Back] : List Value)) ((v.2.1.set v.1 g94.1)[v.1]'hk5))[1]? = some (.slice v.2.1[v.1].r.a v.2.1[v.1].r.l.length v.2.1[v.1].r.c) := by simp [hg2]
            refine GoC.region ?_
            refine GoL.q (op_fieldAddr rfl) ?_
            refine GoL.q (op_load rfl rfl) ?_
            refine GoL.q (op_move rfl) ?_
            refine GoL.q (op_indexO (k := v.1) rfl rfl rfl hk5 (by first | rfl | omega | (simp only [List.length_set]; omega))) ?_
            refine GoL.q (op_fieldAddrE rfl) ?_
            refine GoL.q (op_loadOF (v := .slice v.2.1[v.1].r.a v.2.1[v.1].r.l.length v.2.1[v.1].r.c) (v.1) 1 hk5 rfl hR5 rfl) ?_
            refine GoL.q (op_len rfl) ?_
            refine GoL.q (op_move rfl) ?_
            refine GoL.nil .next ?_
            refine GoC.sub (E' := [(78, _), (6, _), (9, _), (10, _), (11, _), (13, _), (77, _), (16, _), (101, _), (102, _)]) ⟨rfl, rfl, rfl, rfl, rfl, rfl, rfl, rfl, rfl, rfl, trivial⟩ ?_
            refine GoC.block ?_
            refine GoC.pull (f := inR) v.2.1 v.1 hk3 ?_
            refine GoC.arrange [own ty_i64 t64 v.2.1[v.1].r.a v.2.1[v.1].r.c v.2.1[v.1].r.l, grp ((v.2.1.take v.1 ++ v.2.1.drop (v.1 + 1)).map inR), own ty_clock_Ride tRideR m.1.b.a m.1.b.c (v.2.1.set v.1 g94.1), own ty_s_i64 (tH Int) m.1.t.a m.1.t.c u.2.1, grp (u.2.1.map inI), cel b11 ty_clock_Times (cT0 m.1), cel b12 3 [.int .i64 (w64 (w64 (v.2.2 + 2) + 2))], cel b10 ty_plan_Plan (cP k.1.y k.1.p), cel b9 ty_inst_Instance (cI g.1.x g.1.p), cel b6 ty_clock_Times (cT t pt), cel b5 ty_law17_Wish (cW y pw), cel b4 ty_law11_Small (cS s ps)] ?_
            refine GoC.loop (σ := Nat × List Int × Int) (fun a => [(102, .int .i64 (a.1 : Int))]) [(78, _), (6, _), (9, _), (10, _), (11, _), (13, _), (77, _), (16, _), (101, _)] (fun a => [own ty_i64 t64 v.2.1[v.1].r.a v.2.1[v.1].r.c a.2.1, grp ((v.2.1.take v.1 ++ v.2.1.drop (v.1 + 1)).map inR), own ty_clock_Ride tRideR m.1.b.a m.1.b.c (v.2.1.set v.1 g94.1), own ty_s_i64 (tH Int) m.1.t.a m.1.t.c u.2.1, grp (u.2.1.map inI), cel b11 ty_clock_Times (cT0 m.1), cel b12 3 [.int .i64 a.2.2], cel b10 ty_plan_Plan (cP k.1.y k.1.p), cel b9 ty_inst_Instance (cI g.1.x g.1.p), cel b6 ty_clock_Times (cT t pt), cel b5 ty_law17_Wish (cW y pw), cel b4 ty_law11_Small (cS s ps)]) (fun a => _) (fun a => a.1 ≤ v.2.1[v.1].r.l.length ∧ (a.2.1.length = v.2.1[v.1].r.l.length ∧ 0 ≤ a.2.2 ∧ a.2.2 ≤ 18000004 + 6004 * (v.1 : Int) + 2 * (a.1 : Int))) (fun a => v.2.1[v.1].r.l.length - a.1) (0, v.2.1[v.1].r.l, w64 (w64 (v.2.2 + 2) + 2)) ⟨by simp, rfl, by simp only; rw [hw2]; have := hv2.2.2.1; omega, by simp only; rw [hw2]; have := hv2.2.2.2; omega⟩ ⟨rfl, rfl, rfl, rfl, rfl, rfl, rfl, rfl, rfl, rfl, trivial⟩ (fun _ h => h) ?_
            intro a ⟨ha1, ha2⟩
            refine GoC.seq ?_
            refine GoC.region ?_
            refine GoL.q (op_lss rfl rfl) ?_
            refine GoL.nil .next ?_
            refine GoC.seq ?_
            refine GoC.cond rfl (fun hc7 => ?_) (fun hc7 => ?_)
            · have hlt6 : a.1 < v.2.1[v.1].r.l.length := by simpa using hc7
              refine GoC.skipTo .next ?_
              refine GoC.seq ?_
              refine GoC.block ?_
              refine GoC.seq ?_
              refine GoC.region ?_
              refine GoL.q (op_move rfl) ?_
              refine GoL.q (op_assign rfl) ?_
              refine GoL.nil .next ?_
              have hk6 : a.1 < a.2.1.length := by have := ha2.1; omega
              refine GoC.region ?_
              refine GoL.q (op_move rfl) ?_
              refine GoL.q (op_fieldAddr rfl) ?_
              refine GoL.q (op_load rfl rfl) ?_
              refine GoL.q (op_move rfl) ?_
              refine GoL.q (op_indexO (k := v.1) rfl rfl rfl hk5 (by first | rfl | omega | (simp only [List.length_set]; omega))) ?_
              refine GoL.q (op_fieldAddrE rfl) ?_
              refine GoL.q (op_loadOF (v := .slice v.2.1[v.1].r.a v.2.1[v.1].r.l.length v.2.1[v.1].r.c) (v.1) 1 hk5 rfl hR5 rfl) ?_
              refine GoL.q (op_move rfl) ?_
              refine GoL.q (op_indexO (k := a.1) rfl rfl rfl hk6 (by first | rfl | omega | (simp only [List.length_set]; omega))) ?_
              refine GoL.y (op_cValM (γ := { o : Int // o = (a.2.1)[a.1]'hk6 ∨ ∃ q, w64 q = q ∧ o = ((id : Int → Int)) q }) (v := fun _ => .tuple #[]) (vs := [.pointer (some (eaddr v.2.1[v.1].r.a (a.1 * 1 + 0)))]) (us := [.pointer (some ⟨b12, 0, none⟩), .pointer (some ⟨b7, 0, none⟩)]) (Wa := [own ty_i64 t64 v.2.1[v.1].r.a v.2.1[v.1].r.c (a.2.1), cel b12 3 [.int .i64 a.2.2]]) (Ra := [ro t64 ar cr raw, cells (some ⟨b7, 0, none⟩) 0 [.slice ar raw.length cr]]) (W1 := fun o => [own ty_i64 t64 v.2.1[v.1].r.a v.2.1[v.1].r.c ((a.2.1).set a.1 o.1), cel b12 3 [.int .i64 (w64 (a.2.2 + 2))]]) (R1 := fun _ => []) rfl rfl (fun sh w h => put_spec (T := ty_i64) (ty := t64) (F := fun x => [.int .i64 x]) v.2.1[v.1].r.a v.2.1[v.1].r.c (a.2.1) a.1 0 1 ((id : Int → Int)) hk6 rfl (by decide) (fun q hq sh w h => put_rep hq _ sh w h) raw ar cr b12 b7 a.2.2 (by first | omega | (simp only [w64]; omega)) sh w h)) ?_
              rintro _ _ _ ⟨g114, rfl, rfl, rfl⟩
              refine GoL.nil (.blockNormal (.next)) ?_
              refine GoC.region ?_
              refine GoL.q (op_inc rfl (by omega)) ?_
              refine GoL.q (op_move rfl) ?_
              exact GoL.again (a.1 + 1, a.2.1.set a.1 g114.1, w64 (a.2.2 + 2)) ⟨by omega, by simp only [List.length_set]; exact ha2.1, by have := ha2.2; simp only; rw [w64_id (by omega)]; omega, by have := ha2.2; simp only; rw [w64_id (by omega)]; omega⟩ (by simp only; omega) ⟨rfl, rfl, rfl, rfl, rfl, rfl, rfl, rfl, rfl, rfl, trivial⟩
            · have hge6 : v.2.1[v.1].r.l.length ≤ a.1 := by simpa using hc7
              refine GoC.exit (.thenExit (.thenExit (.blockSame (.blockNormal (.next))))) ?_
              have hal := ha2.1
              refine GoC.reown (ty := tRideR) (ty' := tRideR) m.1.b.a (v.2.1.set v.1 (⟨g94.1.Out, ⟨v.2.1[v.1].r.a, v.2.1[v.1].r.c, a.2.1⟩, g94.1.Back⟩ : RideR)) rfl (by simp) (reset_two (fun sh w cs h => by
                obtain ⟨d1, d2, e1, e2, d3, d4, e3, e4, e5⟩ := h
                exact ⟨d1, d2, e1, e2, d3, d4, e3, e4.trans (by simp only [hg2, hal]), e5⟩)) ?_
              refine GoC.push (f := inR) v.2.1 v.1 (⟨g94.1.Out, ⟨v.2.1[v.1].r.a, v.2.1[v.1].r.c, a.2.1⟩, g94.1.Back⟩ : RideR) hk3 ?_
              refine GoC.region ?_
              refine GoL.q (op_inc rfl (by omega)) ?_
              refine GoL.q (op_move rfl) ?_
              exact GoL.again (v.1 + 1, v.2.1.set v.1 ⟨g94.1.Out, ⟨v.2.1[v.1].r.a, v.2.1[v.1].r.c, a.2.1⟩, g94.1.Back⟩, a.2.2) ⟨by omega, by simp only [List.length_set]; exact hv2.1, fun r hr => by rcases List.mem_or_eq_of_mem_set hr with hr | rfl; exact hv2.2.1 r hr; simp only [ha2.1]; exact hrb, ha2.2.1, by have := ha2.2.2; simp only; omega⟩ (by simp only; omega) ⟨rfl, rfl, rfl, rfl, rfl, rfl, rfl, trivial⟩
          · have hge5 : m.1.b.l.length ≤ v.1 := by simpa using hc6
            refine GoC.exit (.thenExit (.thenExit (.blockSame (.next)))) ?_
            refine GoC.seq ?_
            refine GoC.seq ?_
            have hul := hu2.1
            have hvl := hv2.1
            refine GoC.recel b11 (cT (⟨⟨m.1.t.a, m.1.t.c, u.2.1⟩, ⟨m.1.b.a, m.1.b.c, v.2.1⟩⟩ : Times0).y (⟨⟨m.1.t.a, m.1.t.c, u.2.1⟩, ⟨m.1.b.a, m.1.b.c, v.2.1⟩⟩ : Times0).p) (by rw [← cT0_eq]; show [_, _] = [_, _]; rw [hul, hvl]) ?_
            refine GoC.shareDeep (f := inR) m.1.b.a tRide RideR.q (by rfl) (fun sh w cs x => rep_ride0 sh w cs x) ?_
            refine GoC.shareDeep (f := inI) m.1.t.a (tSl t64) (·.l) (by rfl) (fun sh w cs x => rep_inr (T := ty_i64) sh w cs x) ?_
            change GoC Pr _ _ _ (rT (⟨⟨m.1.t.a, m.1.t.c, u.2.1⟩, ⟨m.1.b.a, m.1.b.c, v.2.1⟩⟩ : Times0).y (⟨⟨m.1.t.a, m.1.t.c, u.2.1⟩, ⟨m.1.b.a, m.1.b.c, v.2.1⟩⟩ : Times0).p (cells (some ⟨b7, 0, none⟩) 0 [.slice ar raw.length cr] :: rP k.1.y k.1.p (rI g.1.x g.1.p (rS s ps (rW y pw (rT t pt [ro t64 ar cr raw])))))) _ _
            refine GoC.region ?_
            refine GoL.q (op_loadA rfl rfl rfl) ?_
            refine GoL.q (op_loadA rfl rfl rfl) ?_
            refine GoL.x (op_buildSliceC (cT t pt ++ cT (⟨⟨m.1.t.a, m.1.t.c, u.2.1⟩, ⟨m.1.b.a, m.1.b.c, v.2.1⟩⟩ : Times0).y (⟨⟨m.1.t.a, m.1.t.c, u.2.1⟩, ⟨m.1.b.a, m.1.b.c, v.2.1⟩⟩ : Times0).p) rfl (by kernel_rfl)) ?_
            rintro _ _ _ ⟨b119, rfl, rfl, rfl⟩
            refine GoL.q (op_len rfl) ?_
            refine GoL.q (op_move rfl) ?_
            refine GoL.nil .next ?_
            refine GoC.block ?_
            refine GoC.shareTwo b119 tTimes t (⟨⟨m.1.t.a, m.1.t.c, u.2.1⟩, ⟨m.1.b.a, m.1.b.c, v.2.1⟩⟩ : Times0).y rfl (fun sh w hR => ⟨rep_times (hR _ (by simp)) (hR _ (by simp)), rep_times (hR _ (by simp)) (hR _ (by simp))⟩) ?_
            refine GoC.loop (σ := Nat) (fun e => [(121, .int .i64 (e : Int))]) [(9, _), (10, _), (119, _), (120, _)] (fun e => _) (fun e => _) (fun e => e ≤ [t, (⟨⟨m.1.t.a, m.1.t.c, u.2.1⟩, ⟨m.1.b.a, m.1.b.c, v.2.1⟩⟩ : Times0).y].length) (fun e => [t, (⟨⟨m.1.t.a, m.1.t.c, u.2.1⟩, ⟨m.1.b.a, m.1.b.c, v.2.1⟩⟩ : Times0).y].length - e) 0 (by simp) ⟨rfl, rfl, rfl, rfl, rfl, trivial⟩ (fun _ h => h) ?_
            intro e he1
            refine GoC.seq ?_
            refine GoC.region ?_
            refine GoL.q (op_lss rfl rfl) ?_
            refine GoL.nil .next ?_
            refine GoC.seq ?_
            refine GoC.cond rfl (fun hc8 => ?_) (fun hc8 => ?_)
            · have hlt8 : e < [t, (⟨⟨m.1.t.a, m.1.t.c, u.2.1⟩, ⟨m.1.b.a, m.1.b.c, v.2.1⟩⟩ : Times0).y].length := by have := of_decide_eq_true hc8; simp only [List.length_cons, List.length_nil]; omega
              have he2 : e < 2 := hlt8
              refine GoC.skipTo .next ?_
              refine GoC.seq ?_
              refine GoC.block ?_
              refine GoC.seq ?_
              refine GoC.openR (n := 2) (some ⟨b119, 0, none⟩) e hlt8 (fun q hq => ?_)
              refine GoC.region ?_
              refine GoL.q (op_indexR rfl rfl rfl (by first | assumption | omega)) ?_
              refine GoL.q (op_loadEA rfl rfl) ?_
              refine GoL.x (op_alloc) ?_
              rintro _ _ _ ⟨b19, rfl, rfl, rfl⟩
              refine GoL.y0 (op_store (cs' := cT [t, (⟨⟨m.1.t.a, m.1.t.c, u.2.1⟩, ⟨m.1.b.a, m.1.b.c, v.2.1⟩⟩ : Times0).y][e] q) rfl rfl rfl rfl (by simp [Value.oneCell']) (Nat.le_of_ble_eq_true rfl) rfl) ?_
              rintro _ _ _ ⟨rfl, rfl, rfl⟩
              refine GoL.nil .next ?_
              refine GoC.seq ?_
              refine GoC.region ?_
              refine GoL.q (op_assign rfl) ?_
              refine GoL.nil .next ?_
              refine GoC.seq ?_
              refine GoC.joinE (γ := Int) (fun wt => [(20, .int .i64 wt)]) [(121, _), (9, _), (10, _), (119, _), (120, _), (19, _)] (fun wt => wt = clockCheckF g.1.x k.1.y [t, (⟨⟨m.1.t.a, m.1.t.c, u.2.1⟩, ⟨m.1.b.a, m.1.b.c, v.2.1⟩⟩ : Times0).y][e]) ⟨rfl, rfl, rfl, rfl, rfl, rfl, trivial⟩ ?_ ?_
              · refine GoC.block ?_
                refine GoC.seq ?_
                refine GoC.region ?_
                refine GoL.q (op_loadA rfl rfl rfl) ?_
                refine GoL.q (op_loadA rfl rfl rfl) ?_
                refine GoL.p (op_callV (vs := [.agg (cP k.1.y k.1.p).toArray, .agg (cT [t, (⟨⟨m.1.t.a, m.1.t.c, u.2.1⟩, ⟨m.1.b.a, m.1.b.c, v.2.1⟩⟩ : Times0).y][e] q).toArray]) rfl (fun sh w h => fits18_spec k.1.y k.1.p [t, (⟨⟨m.1.t.a, m.1.t.c, u.2.1⟩, ⟨m.1.b.a, m.1.b.c, v.2.1⟩⟩ : Times0).y][e] q hy sh w h)) ?_
                refine GoL.q (op_not rfl) ?_
                refine GoL.q (op_assign rfl) ?_
                refine GoL.nil .next ?_
                refine GoC.cond rfl (fun hc9 => ?_) (fun hc9 => ?_)
                · have hfit : fitsB k.1.y [t, (⟨⟨m.1.t.a, m.1.t.c, u.2.1⟩, ⟨m.1.b.a, m.1.b.c, v.2.1⟩⟩ : Times0).y][e] = false := by simpa using hc9
                  refine GoC.region ?_
                  refine GoL.q (op_assign rfl) ?_
                  refine GoL.meet 4 (.blockNormal (.next)) (by rw [clock_law hX.ok hplan, if_neg (by rw [hfit]; simp)]) ?_
                  exact ⟨rfl, rfl, rfl, rfl, rfl, rfl, rfl, trivial⟩
                · have hfit : fitsB k.1.y [t, (⟨⟨m.1.t.a, m.1.t.c, u.2.1⟩, ⟨m.1.b.a, m.1.b.c, v.2.1⟩⟩ : Times0).y][e] = true := by simpa using hc9
                  refine GoC.seq ?_
                  refine GoC.region ?_
                  refine GoL.q (op_loadA rfl rfl rfl) ?_
                  refine GoL.p (op_callV (vs := [.agg (cT [t, (⟨⟨m.1.t.a, m.1.t.c, u.2.1⟩, ⟨m.1.b.a, m.1.b.c, v.2.1⟩⟩ : Times0).y][e] q).toArray]) rfl (fun sh w h => sane_spec [t, (⟨⟨m.1.t.a, m.1.t.c, u.2.1⟩, ⟨m.1.b.a, m.1.b.c, v.2.1⟩⟩ : Times0).y][e] q hq sh w h)) ?_
                  refine GoL.q (op_move rfl) ?_
                  apply GoL.and (m := 4) (x := 137) rfl rfl rfl rfl rfl rfl rfl rfl (Wn.none rfl)
                  · intro hg10
                    refine GoL.q (op_loadA rfl rfl rfl) ?_ (hg := Wn.some rfl rfl rfl hg10)
                    refine GoL.q (op_loadA rfl rfl rfl) ?_ (hg := Wn.some rfl rfl rfl hg10)
                    refine GoL.q (op_loadA rfl rfl rfl) ?_ (hg := Wn.some rfl rfl rfl hg10)
                    refine GoL.p (op_callV (vs := [.agg (cI g.1.x g.1.p).toArray, .agg (cP k.1.y k.1.p).toArray, .agg (cT [t, (⟨⟨m.1.t.a, m.1.t.c, u.2.1⟩, ⟨m.1.b.a, m.1.b.c, v.2.1⟩⟩ : Times0).y][e] q).toArray]) rfl (fun sh w h => can_spec g.1.x g.1.p k.1.y k.1.p [t, (⟨⟨m.1.t.a, m.1.t.c, u.2.1⟩, ⟨m.1.b.a, m.1.b.c, v.2.1⟩⟩ : Times0).y][e] q hX.ok.okI hpo (Fit3.of (fits_not hfit)) hy sh w h)) ?_ (hg := Wn.some rfl rfl rfl hg10)
                    exact GoL.part (k := 4) rfl rfl rfl
                  refine GoL.q (op_assign rfl) ?_
                  refine GoL.nil .next ?_
                  refine GoC.cond rfl (fun hc11 => ?_) (fun hc11 => ?_)
                  · have hcan := hc11
                    refine GoC.region ?_
                    refine GoL.q (op_assign rfl) ?_
                    refine GoL.meet 0 (.blockNormal (.next)) (by rw [clock_law hX.ok hplan, if_pos hfit, if_pos hcan]) ?_
                    exact ⟨rfl, rfl, rfl, rfl, rfl, rfl, rfl, trivial⟩
                  · have hcan := hc11
                    refine GoC.meet 12 (.blockNormal (.next)) (by rw [clock_law hX.ok hplan, if_pos hfit, if_neg (by rw [hcan]; simp)]) ?_
                    exact ⟨rfl, rfl, rfl, rfl, rfl, rfl, rfl, trivial⟩
              intro wt hwt
              subst hwt
              refine GoC.seq ?_
              refine GoC.region ?_
              refine GoL.q (op_loadA rfl rfl rfl) ?_
              refine GoL.q (op_loadA rfl rfl rfl) ?_
              refine GoL.q (op_loadA rfl rfl rfl) ?_
              refine GoL.p (op_callV (vs := [.agg (cI g.1.x g.1.p).toArray, .agg (cP k.1.y k.1.p).toArray, .agg (cT [t, (⟨⟨m.1.t.a, m.1.t.c, u.2.1⟩, ⟨m.1.b.a, m.1.b.c, v.2.1⟩⟩ : Times0).y][e] q).toArray]) rfl (fun sh w h => clockCheck_spec g.1.x g.1.p k.1.y k.1.p [t, (⟨⟨m.1.t.a, m.1.t.c, u.2.1⟩, ⟨m.1.b.a, m.1.b.c, v.2.1⟩⟩ : Times0).y][e] q hX.ok.okI hy hq sh w h)) ?_
              refine GoL.q (op_move rfl) ?_
              refine GoL.q (op_neq rfl rfl) ?_
              refine GoL.nil .next ?_
              refine GoC.cond rfl (fun hc12 => ?_) (fun hc12 => ?_)
              · exact absurd hc12 (by simp)
              · skip
                refine GoC.skipTo (.blockNormal (.next)) ?_
                refine GoC.region ?_
                refine GoL.q (op_inc rfl (by omega)) ?_
                refine GoL.q (op_move rfl) ?_
                exact GoL.again (e + 1) (by omega) (by omega) ⟨rfl, rfl, rfl, rfl, rfl, trivial⟩
            · have hge8 : [t, (⟨⟨m.1.t.a, m.1.t.c, u.2.1⟩, ⟨m.1.b.a, m.1.b.c, v.2.1⟩⟩ : Times0).y].length ≤ e := by have := of_decide_eq_false hc8; simp only [List.length_cons, List.length_nil]; omega
              refine GoC.exit (.thenExit (.thenExit (.blockSame (.next)))) ?_
              refine GoC.seq ?_
              refine GoC.region ?_
              refine GoL.q (op_assign rfl) ?_
              refine GoL.nil .next ?_
              refine GoC.ret .here ?_
              refine done1 rfl rfl ?_
              intro w' hw
              exact ⟨rfl, hw.keep⟩
end Go.Proofs.Ytdeacehacndopaa

namespace Go.Proofs.Ytdeacehacndopaa
open Go.RowKit

class TPtr (P : Program) (t : TypeId) (e : outParam TypeId) : Prop where
  un : P.underlying t = some (.pointer e)
class TStr (P : Program) (t : TypeId) : Prop where
  un : ∃ fs, P.underlying t = some (.struct fs)
/-- no interface -/
class TConc (P : Program) (t : TypeId) : Prop where
  un : ∃ d, P.underlying t = some d ∧ ∀ ms, d ≠ .interface ms
instance {P : Program} {t e : TypeId} [h : TPtr P t e] : TConc P t := ⟨_, h.un, by simp⟩
instance {P : Program} {t : TypeId} [h : TStr P t] : TConc P t := let ⟨_, hf⟩ := h.un; ⟨_, hf, by simp⟩

class TMethP (P : Program) (t : TypeId) (name : String) (f : outParam FuncId) : Prop where
  run : ∀ a w, (method (P.types.size + Made.depth) t (.pointer (some a)) name).run P w = .ok (f, .pointer (some a)) w
class TMethV (P : Program) (t : TypeId) (name : String) (f : outParam FuncId) (e : outParam TypeId) : Prop where
  run : ∀ a v w, (loadVar e a).run P w = .ok v w → (method (P.types.size + Made.depth) t (.pointer (some a)) name).run P w = .ok (f, v) w

theorem meth_find {P : Program} {t : TypeId} {name : String} {fp : FuncId × Bool} (h : (P.info? t).map (fun i => (i.methods.find? (·.name == name)).map (fun m => (m.path.isEmpty, m.func))) = some (some (true, some fp))) :
    ∃ i m, P.info? t = some i ∧ i.methods.find? (·.name == name) = some m ∧ m.path = #[] ∧ m.func = some fp := by
  cases hi : P.info? t with
  | none => simp [hi] at h
  | some i =>
    simp only [hi, Option.map_some, Option.some.injEq] at h
    cases hm : i.methods.find? (·.name == name) with
    | none => simp [hm] at h
    | some m =>
      simp only [hm, Option.map_some, Option.some.injEq, Prod.mk.injEq] at h
      exact ⟨i, m, rfl, hm, by simpa using h.1, h.2⟩
theorem TMethP.of {P : Program} {t e : TypeId} {name : String} {f : FuncId} [hp : TPtr P t e] (h : (P.info? t).map (fun i => (i.methods.find? (·.name == name)).map (fun m => (m.path.isEmpty, m.func))) = some (some (true, some (f, true)))) : TMethP P t name f := by
  refine ⟨fun a w => ?_⟩
  obtain ⟨i, m, h1, h2, h3, h4⟩ := meth_find h
  have hd : P.types.size + Made.depth = (P.types.size + 99) + 1 := rfl
  rw [hd]
  generalize P.types.size + 99 = n
  simp [method, typeInfo, run_prog, h1, h2, h3, h4, follow, receiverAt, run_under hp.un, Place.get]
theorem run_wrapNil {P : Program} {ts : Array TypeId} {t : TypeId} {a : Addr} {s1 s2 : ByteArray} {w : World} : (Builtin.ssaWrapNilChk_ ts t #[.pointer (some a), .string s1, .string s2]).run P w = .ok (.pointer (some a)) w := rfl
theorem TMethV.of {P : Program} {t e : TypeId} {name : String} {f : FuncId} [hp : TPtr P t e] (h : (P.info? t).map (fun i => (i.methods.find? (·.name == name)).map (fun m => (m.path.isEmpty, m.func))) = some (some (true, some (f, false)))) : TMethV P t name f e := by
  refine ⟨fun a v w hv => ?_⟩
  obtain ⟨i, m, h1, h2, h3, h4⟩ := meth_find h
  have hd : P.types.size + Made.depth = (P.types.size + 99) + 1 := rfl
  rw [hd]
  generalize P.types.size + 99 = n
  simp [method, typeInfo, run_prog, h1, h2, h3, h4, follow, receiverAt, run_under hp.un, Place.get, run_wrapNil, strVal, asAddr, hv]

section
variable {P : Program} {C : Cx} {E : Env} {W W' : List Ent} {R R' : List RF} {Q : Exit → Act → World → Prop} {ops : Array Oper}
variable {d : Option Tmp} {x y z fo : Operand} {t t' u e : TypeId} {pos : String} {aft : Array Edge} {gd : Option (Nat × Bool)}

theorem op_mkIface {v : Value} [h : TConc P t] (hx : evalE E x = some v) : OpR P C E W R ⟨d, .makeInterface t x, u, pos, aft, gd⟩ (.iface t v) := by
  intro a w hs
  obtain ⟨ds, hd, hn⟩ := h.un
  have : (Instr.makeInterface t v).run P w = .ok (.iface t v) w := by
    simp only [Instr.makeInterface, Sem.run_bind, run_under hd, Result.andThen_ok]
    cases ds <;> first | rfl | exact absurd rfl (hn _)
  simp [execOp, hs.fr.eval hx, this]
theorem op_assert {v : Value} [h : TConc P t'] (hx : evalE E x = some (.iface t' v)) : OpR P C E W R ⟨d, .typeAssert x t t' false, u, pos, aft, gd⟩ v := by
  intro a w hs
  obtain ⟨ds, hd, hn⟩ := h.un
  have : (Instr.typeAssert (.iface t' v) t t' false).run P w = .ok v w := by
    simp only [Instr.typeAssert, Sem.run_bind, run_under hd, Result.andThen_ok]
    cases ds <;> first | (simp; done) | exact absurd rfl (hn _)
  simp [execOp, hs.fr.eval hx, this]
theorem run_equal_ptr {p : Option Addr} {w : World} [h : TPtr P t e] : (Op.equal t (.pointer p) (.pointer none)).run P w = .ok p.isNone w := by
  have h1 : ∀ n, (Op.equalIn (n + 1) t (.pointer p) (.pointer none)).run P w = .ok p.isNone w := by
    intro n
    cases p <;> simp [Op.equalIn, run_under h.un]
  exact h1 9999
theorem op_neq_pointer {p : Option Addr} [h : TPtr P t e] (hx : evalE E x = some (.pointer p)) (hy : evalE E y = some (.pointer none)) : OpR P C E W R ⟨d, .binOp .neq t x y t', u, pos, aft, gd⟩ (.bool (!p.isNone)) := by
  intro a w hs
  have h1 : (eqGuard .neq t x y (.pointer p) (.pointer none)).run P w = .ok () w := by unfold eqGuard; simp
  have h2 : (binOp .neq t (.pointer p) (.pointer none)).run P w = .ok (.bool (!p.isNone)) w := by
    show ((do pure (.bool (!(← Op.equal t (.pointer p) (.pointer none)))) : Sem Value)).run P w = _
    rw [Sem.run_bind, run_equal_ptr]; rfl
  simp only [execOp, hs.fr.eval hx, hs.fr.eval hy, Sem.run_bind, h1, h2, Result.andThen_ok, Sem.run_pure]
theorem op_eql_pointer {p : Option Addr} [h : TPtr P t e] (hx : evalE E x = some (.pointer p)) (hy : evalE E y = some (.pointer none)) : OpR P C E W R ⟨d, .binOp .eql t x y t', u, pos, aft, gd⟩ (.bool p.isNone) := by
  intro a w hs
  have h1 : (eqGuard .eql t x y (.pointer p) (.pointer none)).run P w = .ok () w := by unfold eqGuard; simp
  have h2 : (binOp .eql t (.pointer p) (.pointer none)).run P w = .ok (.bool p.isNone) w := by
    show ((do pure (.bool (← Op.equal t (.pointer p) (.pointer none))) : Sem Value)).run P w = _
    rw [Sem.run_bind, run_equal_ptr]; rfl
  simp only [execOp, hs.fr.eval hx, hs.fr.eval hy, Sem.run_bind, h1, h2, Result.andThen_ok, Sem.run_pure]
theorem run_equal_slice {a : Option Addr} {m c : Nat} {w : World} [h : TSl P t e] : (Op.equal t (.slice a m c) (.slice none 0 0)).run P w = .ok a.isNone w := by
  have h1 : ∀ n, (Op.equalIn (n + 1) t (.slice a m c) (.slice none 0 0)).run P w = .ok a.isNone w := by
    intro n
    cases a <;> simp [Op.equalIn, run_under h.un]
  exact h1 9999
theorem op_eql_slice {a' : Option Addr} {m c : Nat} [h : TSl P t e] (hx : evalE E x = some (.slice a' m c)) (hy : evalE E y = some (.slice none 0 0)) : OpR P C E W R ⟨d, .binOp .eql t x y t', u, pos, aft, gd⟩ (.bool a'.isNone) := by
  intro a w hs
  have h1 : (eqGuard .eql t x y (.slice a' m c) (.slice none 0 0)).run P w = .ok () w := by unfold eqGuard; simp
  have h2 : (binOp .eql t (.slice a' m c) (.slice none 0 0)).run P w = .ok (.bool a'.isNone) w := by
    show ((do pure (.bool (← Op.equal t (.slice a' m c) (.slice none 0 0))) : Sem Value)).run P w = _
    rw [Sem.run_bind, run_equal_slice]; rfl
  simp only [execOp, hs.fr.eval hx, hs.fr.eval hy, Sem.run_bind, h1, h2, Result.andThen_ok, Sem.run_pure]
/-- a division towards nought -/
theorem op_quoT {m n : Int} (hx : evalE E x = some (.int .i64 m)) (hy : evalE E y = some (.int .i64 n)) (h1 : n ≠ 0) : OpR P C E W R ⟨d, .binOp .quo t x y t', u, pos, aft, gd⟩ (.int .i64 (IntKind.i64.wrap (m.tdiv n))) :=
  op_int hx hy fun w => by simp [binOp, Op.intDiv, h1]

/-- a method of what stands behind an interface -/
theorem op_invY {f : FuncId} {a' : Addr} {rv : Value} {name : String} {xs : List Operand} {vs : List Value} {ts : Array TypeId} {Φ : Value → List Ent → List RF → Prop} [hf : TFn P f] (hr : evalE E fo = some (.iface t (.pointer (some a')))) (hx : evalEs E xs = some vs)
    (hm : ∀ a w, St C E W R a w → (method (P.types.size + Made.depth) t (.pointer (some a')) name).run P w = .ok (f, rv) w)
    (hc : ∀ w, Holds C W R w → Calls P f (rv :: vs).toArray w fun e w' => ∃ v, e = .returned v ∧ ∃ W' R', Φ v W' R' ∧ Holds C W' R' w') : OpY P C E W R ⟨d, .call ⟨.invoke fo name, xs.toArray, ts⟩, u, pos, aft, gd⟩ Φ := by
  intro a w hs
  have ha : (xs.toArray.map a.eval) = vs.toArray := by rw [← evalEs_map hs.fr hx]; simp
  have h1 := hm a w hs
  have h2 : (#[Value.iface t (.pointer (some a'))] ++ vs.toArray).extract 1 (#[Value.iface t (.pointer (some a'))] ++ vs.toArray).size = vs.toArray := by
    apply Array.ext'
    simp
  have h3 : #[rv] ++ vs.toArray = (rv :: vs).toArray := by simp
  simp only [execOp, resolve, ha, hs.fr.eval hr, Sem.run_bind, Sem.run_pure, Result.andThen_ok, invoke]
  have h4 : (#[Value.iface t (.pointer (some a'))] ++ vs.toArray)[0]? = some (Value.iface t (.pointer (some a'))) := by simp
  simp only [h4, h2, callMethod, Sem.run_bind]
  have h5 : (Go.program).run P w = .ok P w := rfl
  simp only [h5, Result.andThen_ok, h1, h3, hf.call, ResX]
  exact (hc w hs.mem).mono fun e w' h => by simpa using h
/-- a pointer's method, by its contract; it may write into Wa -/
theorem op_invMP {f : FuncId} {a' : Addr} {name : String} {xs : List Operand} {vs : List Value} {ts : Array TypeId} {γ : Type} {v : γ → Value} {W1 WN : γ → List Ent} {R1 RN : γ → List RF} {Wa Wr : List Ent} {Ra : List RF} [hf : TFn P f] [hm : TMethP P t name f] [hs : Split Wa W Wr] [hR : AllIn Ra R] [hW : ∀ g, App (W1 g) Wr (WN g)] [hN : ∀ g, App (R1 g) R (RN g)]
    (hr : evalE E fo = some (.iface t (.pointer (some a')))) (hx : evalEs E xs = some vs)
    (hc : ∀ sh w, Holds ⟨0, w, fps Wa, sh⟩ Wa Ra w → Calls P f (.pointer (some a') :: vs).toArray w fun e w' => ∃ g, e = .returned (v g) ∧ Holds ⟨0, w, fps Wa, sh⟩ (W1 g) (R1 g) w') :
    OpY P C E W R ⟨d, .call ⟨.invoke fo name, xs.toArray, ts⟩, u, pos, aft, gd⟩ (fun v' W' R' => ∃ g, v' = v g ∧ W' = WN g ∧ R' = RN g) :=
  op_invY hr hx (fun _ w _ => hm.run _ w) fun w hw => by
    obtain ⟨sh, hm⟩ := hw
    have hm' := hm.perm' hs.perm
    refine (hc sh w (hm'.partM hR.all)).mono fun e w' ⟨g, he, hh⟩ => ?_
    refine ⟨v g, he, _, _, ⟨g, rfl, rfl, rfl⟩, ?_⟩
    rw [(hW g).eq, (hN g).eq]; exact Holds.frameM hm' hh
/-- a value's method, called by a pointer to a variable of one's own -/
theorem op_invMV {f : FuncId} {b o n : Nat} {T e2 : TypeId} {cs : List Value} {rv : Value} {name : String} {xs : List Operand} {vs : List Value} {ts : Array TypeId} {γ : Type} {v : γ → Value} {W1 WN : γ → List Ent} {R1 RN : γ → List RF} {Wa Wr : List Ent} {Ra : List RF} [hf : TFn P f] [hm : TMethV P t name f e2] [hcl : HasCel b W T cs] [hz : TSz P e2 n false] [hs : Split Wa W Wr] [hR : AllIn Ra R] [hW : ∀ g, App (W1 g) Wr (WN g)] [hN : ∀ g, App (R1 g) R (RN g)]
    (hr : evalE E fo = some (.iface t (.pointer (some ⟨b, o, none⟩)))) (hrv : cs[o]? = some rv) (hx : evalEs E xs = some vs)
    (hc : ∀ sh w, Holds ⟨0, w, fps Wa, sh⟩ Wa Ra w → Calls P f (rv :: vs).toArray w fun e w' => ∃ g, e = .returned (v g) ∧ Holds ⟨0, w, fps Wa, sh⟩ (W1 g) (R1 g) w') :
    OpY P C E W R ⟨d, .call ⟨.invoke fo name, xs.toArray, ts⟩, u, pos, aft, gd⟩ (fun v' W' R' => ∃ g, v' = v g ∧ W' = WN g ∧ R' = RN g) :=
  op_invY hr hx (fun _ w hst => hm.run _ _ w (by
    obtain ⟨sh, hmm⟩ := hst.mem
    exact run_loadVar1 (n := n) ((cell_of_cel (hmm.own _ hcl.mem) o).trans hrv))) fun w hw => by
    obtain ⟨sh, hm⟩ := hw
    have hm' := hm.perm' hs.perm
    refine (hc sh w (hm'.partM hR.all)).mono fun e w' ⟨g, he, hh⟩ => ?_
    refine ⟨v g, he, _, _, ⟨g, rfl, rfl, rfl⟩, ?_⟩
    rw [(hW g).eq, (hN g).eq]; exact Holds.frameM hm' hh
/-- the same, of a method that only reads -/
theorem op_invLV {f : FuncId} {b o n : Nat} {T e2 : TypeId} {cs : List Value} {rv v : Value} {name : String} {xs : List Operand} {vs : List Value} {ts : Array TypeId} (Ra : List RF) [hf : TFn P f] [hm : TMethV P t name f e2] [hcl : HasCel b W T cs] [hz : TSz P e2 n false] [hR : Lend Ra W R]
    (hr : evalE E fo = some (.iface t (.pointer (some ⟨b, o, none⟩)))) (hrv : cs[o]? = some rv) (hx : evalEs E xs = some vs)
    (hc : ∀ sh w, Holds ⟨0, w, [], sh⟩ [] Ra w → Calls P f (rv :: vs).toArray w fun e w' => e = .returned v ∧ Ext w w') :
    OpP P C E W R ⟨d, .call ⟨.invoke fo name, xs.toArray, ts⟩, u, pos, aft, gd⟩ v := by
  intro a w hs
  have ha : (xs.toArray.map a.eval) = vs.toArray := by rw [← evalEs_map hs.fr hx]; simp
  have h1 : (method (P.types.size + Made.depth) t (.pointer (some ⟨b, o, none⟩)) name).run P w = .ok (f, rv) w := hm.run _ _ w (by
    obtain ⟨sh, hmm⟩ := hs.mem
    exact run_loadVar1 (n := n) ((cell_of_cel (hmm.own _ hcl.mem) o).trans hrv))
  have h2 : (#[Value.iface t (.pointer (some ⟨b, o, none⟩))] ++ vs.toArray).extract 1 (#[Value.iface t (.pointer (some ⟨b, o, none⟩))] ++ vs.toArray).size = vs.toArray := by
    apply Array.ext'
    simp
  have h3 : #[rv] ++ vs.toArray = (rv :: vs).toArray := by simp
  simp only [execOp, resolve, ha, hs.fr.eval hr, Sem.run_bind, Sem.run_pure, Result.andThen_ok, invoke]
  have h4 : (#[Value.iface t (.pointer (some ⟨b, o, none⟩))] ++ vs.toArray)[0]? = some (Value.iface t (.pointer (some ⟨b, o, none⟩))) := by simp
  simp only [h4, h2, callMethod, Sem.run_bind]
  have h5 : (Go.program).run P w = .ok P w := rfl
  simp only [h5, Result.andThen_ok, h1, h3, hf.call, ResX]
  obtain ⟨sh, hh⟩ := hs.mem.lend (Ra := Ra)
  exact (hc sh w hh).mono fun e w' ⟨he, hw⟩ => ⟨v, he, rfl, hw⟩
end
end Go.Proofs.Ytdeacehacndopaa
