/- plan.Check: may a plan be, but for times? plan.Check. clock.Check's parts. clock.Check. No conditions beyond those that each theorem names. -/
import Derived.Test.YtdeacehacndopaaL5
import Derived.Test.YtdeacehacndopaaL3
namespace Go.Proofs.Ytdeacehacndopaa
open Go.RowKit

set_option maxRecDepth 20000 in
theorem trucks_spec (x : Instance) (p : HI) (y : Plan) (r : HP) (hy : y.Trucks.length ≤ 9223372036854775807) (sh : Nat → Prop) (w : World) (h : Holds ⟨0, w, [], sh⟩ [] (rP y r (rI x p [])) w) :
    Calls Pr fn_plan_Plan_trucks #[.agg (cP y r).toArray, .agg (cI x p).toArray] w fun e w' => e = .returned (.tuple #[.bool (trucksF x y.Trucks true true).1, .bool (trucksF x y.Trucks true true).2]) ∧ Ext w w' := by
  refine Calls.of_go (args := [_, _]) fn_plan_Plan_trucks_f rfl rfl rfl h ?_
  refine GoC.seq ?_
  refine GoC.region ?_
  refine GoL.x (op_box rfl rfl) ?_
  rintro _ _ _ ⟨b2, rfl, rfl, rfl⟩
  refine GoL.x (op_box rfl rfl) ?_
  rintro _ _ _ ⟨b3, rfl, rfl, rfl⟩
  refine GoL.q (op_assign rfl) ?_
  refine GoL.q (op_assign rfl) ?_
  refine GoL.nil .next ?_
  refine GoC.seq ?_
  refine GoC.region ?_
  refine GoL.q (op_assign rfl) ?_
  refine GoL.q (op_assign rfl) ?_
  refine GoL.nil .next ?_
  refine GoC.seq ?_
  refine GoC.seq ?_
  refine GoC.region ?_
  refine GoL.q (op_fieldAddr rfl) ?_
  refine GoL.q (op_load rfl rfl) ?_
  refine GoL.q (op_len rfl) ?_
  refine GoL.q (op_move rfl) ?_
  refine GoL.nil .next ?_
  refine GoC.block ?_
  refine GoC.loop (σ := Nat × Bool × Bool) (fun s => [(15, .int .i64 (s.1 : Int)), (4, .bool s.2.1), (5, .bool s.2.2)]) [(3, _), (13, _), (14, _)] (fun s => _) (fun s => _) (fun s => s.1 ≤ y.Trucks.length ∧ trucksF x (y.Trucks.drop s.1) s.2.1 s.2.2 = trucksF x y.Trucks true true) (fun s => y.Trucks.length - s.1) (0, true, true) ⟨by simp, rfl⟩ ⟨rfl, rfl, rfl, rfl, rfl, rfl, trivial⟩ (fun _ h => h) ?_
  intro s ⟨hs1, hs2⟩
  refine GoC.seq ?_
  refine GoC.region ?_
  refine GoL.q (op_lss rfl rfl) ?_
  refine GoL.nil .next ?_
  refine GoC.seq ?_
  refine GoC.cond rfl (fun hc0 => ?_) (fun hc0 => ?_)
  · have hlt : s.1 < y.Trucks.length := by simpa using hc0
    refine GoC.skipTo .next ?_
    refine GoC.seq ?_
    refine GoC.block ?_
    refine GoC.seq ?_
    refine GoC.openR (n := 1) r.t.1 s.1 hlt (fun q hq => ?_)
    refine GoC.region ?_
    refine GoL.q (op_indexR rfl rfl rfl (by first | assumption | omega)) ?_
    refine GoL.q (op_loadEA rfl rfl) ?_
    refine GoL.x (op_alloc) ?_
    rintro _ _ _ ⟨b7, rfl, rfl, rfl⟩
    refine GoL.y0 (op_store rfl rfl rfl rfl (by simp [Value.oneCell']) (Nat.le_of_ble_eq_true rfl) rfl) ?_
    rintro _ _ _ ⟨rfl, rfl, rfl⟩
    refine GoL.nil .next ?_
    refine GoC.seq ?_
    refine GoC.region ?_
    refine GoL.q (op_assign rfl) ?_
    refine GoL.nil .next ?_
    refine GoC.seq ?_
    refine GoC.region ?_
    refine GoL.q (op_fieldAddr rfl) ?_
    refine GoL.q (op_fieldAddr rfl) ?_
    refine GoL.q (op_load rfl rfl) ?_
    refine GoL.q (op_assign rfl) ?_
    refine GoL.nil .next ?_
    refine GoC.seq ?_
    refine GoC.seq ?_
    refine GoC.region ?_
    refine GoL.q (op_fieldAddr rfl) ?_
    refine GoL.q (op_load rfl rfl) ?_
    refine GoL.q (op_len rfl) ?_
    refine GoL.q (op_move rfl) ?_
    refine GoL.nil .next ?_
    refine GoC.block ?_
    -- !! loop 1: slots that turn: 4 (route), 5 (load)
    refine GoC.loop (σ := Nat × Int × Int) (fun u => [(25, .int .i64 (u.1 : Int)), (8, .int .u64 u.2.1), (9, .int .i64 u.2.2)]) [(15, _), (4, _), (5, _), (3, _), (13, _), (14, _), (7, _), (23, _), (24, _)] (fun u => _) (fun u => _) (fun u => u.1 ≤ y.Trucks[s.1].Stops.length ∧ stopsF x (y.Trucks[s.1].Stops.drop u.1) u.2.1 u.2.2 = stopsF x y.Trucks[s.1].Stops 0 x.Trucks.Room) (fun u => y.Trucks[s.1].Stops.length - u.1) (0, 0, x.Trucks.Room) ⟨by simp, rfl⟩ ⟨rfl, rfl, rfl, rfl, rfl, rfl, rfl, rfl, rfl, rfl, rfl, rfl, trivial⟩ (fun _ h => h) ?_
    intro u ⟨hu1, hu2⟩
    refine GoC.seq ?_
    refine GoC.region ?_
    refine GoL.q (op_lss rfl rfl) ?_
    refine GoL.nil .next ?_
    refine GoC.seq ?_
    refine GoC.cond rfl (fun hc1 => ?_) (fun hc1 => ?_)
    · have hlt2 : u.1 < y.Trucks[s.1].Stops.length := by simpa using hc1
      refine GoC.skipTo .next ?_
      refine GoC.seq ?_
      refine GoC.block ?_
      refine GoC.seq ?_
      refine GoC.openR (n := 2) q.1 u.1 hlt2 (fun _ hq2 => ?_)
      refine GoC.region ?_
      refine GoL.q (op_indexR rfl rfl rfl (by first | assumption | omega)) ?_
      refine GoL.q (op_loadEA rfl rfl) ?_
      refine GoL.x (op_alloc) ?_
      rintro _ _ _ ⟨b11, rfl, rfl, rfl⟩
      refine GoL.y0 (op_store rfl rfl rfl rfl (by simp [Value.oneCell']) (Nat.le_of_ble_eq_true rfl) rfl) ?_
      rintro _ _ _ ⟨rfl, rfl, rfl⟩
      refine GoL.nil .next ?_
      refine GoC.seq ?_
      refine GoC.seq ?_
      refine GoC.region ?_
      refine GoL.q (op_fieldAddr rfl) ?_
      refine GoL.q (op_load rfl rfl) ?_
      refine GoL.q (op_lss rfl rfl) ?_
      refine GoL.q (op_move rfl) ?_
      apply GoL.or (m := 6) (x := 38) rfl rfl rfl rfl rfl rfl rfl rfl (Wn.none rfl)
      · intro hg2
        refine GoL.q (op_fieldAddr rfl) ?_ (hg := Wn.some rfl rfl rfl hg2)
        refine GoL.q (op_load rfl rfl) ?_ (hg := Wn.some rfl rfl rfl hg2)
        refine GoL.q (op_fieldAddr rfl) ?_ (hg := Wn.some rfl rfl rfl hg2)
        refine GoL.q (op_load rfl rfl) ?_ (hg := Wn.some rfl rfl rfl hg2)
        refine GoL.q (op_len rfl) ?_ (hg := Wn.some rfl rfl rfl hg2)
        refine GoL.q (op_geq rfl rfl) ?_ (hg := Wn.some rfl rfl rfl hg2)
        exact GoL.part (k := 6) rfl rfl rfl
      refine GoL.q (op_move rfl) ?_
      apply GoL.or (m := 4) (x := 44) rfl rfl rfl rfl rfl rfl rfl rfl (Wn.none rfl)
      · intro hg3
        refine GoL.q (op_move rfl) ?_ (hg := Wn.some rfl rfl rfl hg3)
        refine GoL.q (op_fieldAddr rfl) ?_ (hg := Wn.some rfl rfl rfl hg3)
        refine GoL.q (op_load rfl rfl) ?_ (hg := Wn.some rfl rfl rfl hg3)
        refine GoL.p (op_callP rfl fun w _ => has_spec _ _ w) ?_ (hg := Wn.some rfl rfl rfl hg3)
        exact GoL.part (k := 4) rfl rfl rfl
      refine GoL.q (op_move rfl) ?_
      apply GoL.or (m := 3) (x := 49) rfl rfl rfl rfl rfl rfl rfl rfl (Wn.none rfl)
      · intro hg4
        refine GoL.q (op_fieldAddr rfl) ?_ (hg := Wn.some rfl rfl rfl hg4)
        refine GoL.q (op_load rfl rfl) ?_ (hg := Wn.some rfl rfl rfl hg4)
        refine GoL.q (op_lss rfl rfl) ?_ (hg := Wn.some rfl rfl rfl hg4)
        exact GoL.part (k := 3) rfl rfl rfl
      refine GoL.q (op_move rfl) ?_
      apply GoL.or (m := 3) (x := 54) rfl rfl rfl rfl rfl rfl rfl rfl (Wn.none rfl)
      · intro hg5
        refine GoL.q (op_fieldAddr rfl) ?_ (hg := Wn.some rfl rfl rfl hg5)
        refine GoL.q (op_load rfl rfl) ?_ (hg := Wn.some rfl rfl rfl hg5)
        refine GoL.q (op_gtr rfl rfl) ?_ (hg := Wn.some rfl rfl rfl hg5)
        exact GoL.part (k := 3) rfl rfl rfl
      refine GoL.nil .next ?_
      refine GoC.cond rfl (fun hc6 => ?_) (fun hc6 => ?_)
      · refine GoC.seq ?_
        refine GoC.region ?_
        refine GoL.q (op_move rfl) ?_
        refine GoL.q (op_assign rfl) ?_
        refine GoL.q (op_assign rfl) ?_
        refine GoL.nil .next ?_
        refine GoC.sub (E' := [(25, _), (8, _), (9, _), (15, _), (4, _), (5, _), (3, _), (13, _), (14, _), (7, _), (23, _), (24, _)]) ⟨rfl, rfl, rfl, rfl, rfl, rfl, rfl, rfl, rfl, rfl, rfl, rfl, trivial⟩ ?_
        refine GoC.ret (.thenRet (.blockRet (.thenRet (.thenRet (.blockRet (.thenRet (.blockRet (.thenRet (.thenRet (.blockRet (.thenRet (.here)))))))))))) ?_
        refine done2 rfl rfl rfl ?_
        intro w' hw
        have e1 : stopsF x y.Trucks[s.1].Stops 0 x.Trucks.Room = none := by rw [← hu2, List.drop_eq_getElem_cons hlt2, stopsF]; exact if_pos hc6
        have e2 : trucksF x y.Trucks true true = (false, s.2.2) := by rw [← hs2, List.drop_eq_getElem_cons hlt, trucksF, e1]
        exact ⟨by rw [e2], hw.keep⟩
      · refine GoC.skipTo .next ?_
        refine GoC.seq ?_
        refine GoC.region ?_
        refine GoL.q (op_move rfl) ?_
        refine GoL.q (op_fieldAddr rfl) ?_
        refine GoL.q (op_load rfl rfl) ?_
        refine GoL.p (op_callP rfl fun w _ => with_spec _ _ w) ?_
        refine GoL.q (op_assign rfl) ?_
        refine GoL.nil .next ?_
        refine GoC.sub (E' := [(25, _), (8, _), (9, _), (15, _), (4, _), (5, _), (3, _), (13, _), (14, _), (7, _), (23, _), (24, _), (11, _)]) ⟨rfl, rfl, rfl, rfl, rfl, rfl, rfl, rfl, rfl, rfl, rfl, rfl, rfl, trivial⟩ ?_
        refine GoC.region ?_
        refine GoL.q (op_move rfl) ?_
        refine GoL.q (op_fieldAddr rfl) ?_
        refine GoL.q (op_load rfl rfl) ?_
        refine GoL.q (op_sub rfl rfl) ?_
        refine GoL.q (op_assign rfl) ?_
        refine GoL.nil (.blockNormal (.next)) ?_
        refine GoC.region ?_
        refine GoL.q (op_inc rfl (by omega)) ?_
        refine GoL.q (op_move rfl) ?_
        exact GoL.again (u.1 + 1, withF u.2.1 y.Trucks[s.1].Stops[u.1].Sat, w64 (u.2.2 - y.Trucks[s.1].Stops[u.1].Load)) ⟨by omega, by rw [List.drop_eq_getElem_cons hlt2, stopsF] at hu2; exact (if_neg (Bool.eq_false_iff.1 hc6)).symm.trans hu2⟩ (by simp only; omega) ⟨rfl, rfl, rfl, rfl, rfl, rfl, rfl, rfl, rfl, rfl, rfl, rfl, trivial⟩
    · have hge2 : y.Trucks[s.1].Stops.length ≤ u.1 := by simpa using hc1
      refine GoC.exit (.thenExit (.thenExit (.blockSame (.next)))) ?_
      refine GoC.region ?_
      refine GoL.q (op_move rfl) ?_
      refine GoL.q (op_move rfl) ?_
      apply GoL.and (m := 4) (x := 71) rfl rfl rfl rfl rfl rfl rfl rfl (Wn.none rfl)
      · intro hg7
        refine GoL.q (op_fieldAddr rfl) ?_ (hg := Wn.some rfl rfl rfl hg7)
        refine GoL.q (op_load rfl rfl) ?_ (hg := Wn.some rfl rfl rfl hg7)
        refine GoL.q (op_len rfl) ?_ (hg := Wn.some rfl rfl rfl hg7)
        refine GoL.q (op_gtr rfl rfl) ?_ (hg := Wn.some rfl rfl rfl hg7)
        exact GoL.part (k := 4) rfl rfl rfl
      refine GoL.q (op_move rfl) ?_
      refine GoL.q (op_move rfl) ?_
      apply GoL.and (m := 2) (x := 76) rfl rfl rfl rfl rfl rfl rfl rfl (Wn.none rfl)
      · intro hg8
        refine GoL.q (op_move rfl) ?_ (hg := Wn.some rfl rfl rfl hg8)
        refine GoL.q (op_geq rfl rfl) ?_ (hg := Wn.some rfl rfl rfl hg8)
        exact GoL.part (k := 2) rfl rfl rfl
      refine GoL.q (op_assign rfl) ?_
      refine GoL.q (op_assign rfl) ?_
      refine GoL.nil (.blockNormal (.next)) ?_
      refine GoC.region ?_
      refine GoL.q (op_inc rfl (by omega)) ?_
      refine GoL.q (op_move rfl) ?_
      exact GoL.again (s.1 + 1, _, _) ⟨by omega, by rw [List.drop_of_length_le hge2, stopsF] at hu2; rw [List.drop_eq_getElem_cons hlt, trucksF, ← hu2] at hs2; exact hs2⟩ (by simp only; omega) ⟨rfl, rfl, rfl, rfl, rfl, rfl, trivial⟩
  · have hge : y.Trucks.length ≤ s.1 := by simpa using hc0
    refine GoC.exit (.thenExit (.thenExit (.blockSame (.next)))) ?_
    refine GoC.seq ?_
    refine GoC.region ?_
    refine GoL.q (op_move rfl) ?_
    refine GoL.q (op_move rfl) ?_
    refine GoL.q (op_assign rfl) ?_
    refine GoL.q (op_assign rfl) ?_
    refine GoL.nil .next ?_
    refine GoC.ret .here ?_
    refine done2 rfl rfl rfl ?_
    intro w' hw
    have e2 : trucksF x y.Trucks true true = (s.2.1, s.2.2) := by rw [← hs2, List.drop_of_length_le hge, trucksF]
    exact ⟨by rw [e2], hw.keep⟩
set_option maxRecDepth 20000 in
theorem bikes_spec (x : Instance) (p : HI) (y : Plan) (r : HP) (hy : y.Bikes.length ≤ 9223372036854775807) (sh : Nat → Prop) (w : World) (h : Holds ⟨0, w, [], sh⟩ [] (rP y r (rI x p [])) w) :
    Calls Pr fn_plan_Plan_bikes #[.agg (cP y r).toArray, .agg (cI x p).toArray] w fun e w' => e = .returned (.tuple #[.bool (bikesF x y.Bikes 0 true).1, .bool (bikesF x y.Bikes 0 true).2.1, .bool (bikesF x y.Bikes 0 true).2.2]) ∧ Ext w w' := by
  refine Calls.of_go (args := [_, _]) fn_plan_Plan_bikes_f rfl rfl rfl h ?_
  refine GoC.seq ?_
  refine GoC.region ?_
  refine GoL.x (op_box rfl rfl) ?_
  rintro _ _ _ ⟨b2, rfl, rfl, rfl⟩
  refine GoL.x (op_box rfl rfl) ?_
  rintro _ _ _ ⟨b3, rfl, rfl, rfl⟩
  refine GoL.q (op_assign rfl) ?_
  refine GoL.q (op_assign rfl) ?_
  refine GoL.q (op_assign rfl) ?_
  refine GoL.nil .next ?_
  refine GoC.seq ?_
  refine GoC.region ?_
  refine GoL.q (op_assign rfl) ?_
  refine GoL.nil .next ?_
  refine GoC.seq ?_
  refine GoC.region ?_
  refine GoL.q (op_assign rfl) ?_
  refine GoL.q (op_assign rfl) ?_
  refine GoL.nil .next ?_
  refine GoC.seq ?_
  refine GoC.seq ?_
  refine GoC.region ?_
  refine GoL.q (op_fieldAddr rfl) ?_
  refine GoL.q (op_load rfl rfl) ?_
  refine GoL.q (op_len rfl) ?_
  refine GoL.q (op_move rfl) ?_
  refine GoL.nil .next ?_
  refine GoC.block ?_
  refine GoC.loop (σ := Nat × Int × Bool) (fun s => [(16, .int .i64 (s.1 : Int)), (4, .bool true), (7, .int .u64 s.2.1), (6, .bool s.2.2)]) [(3, _), (14, _), (15, _)] (fun s => _) (fun s => _) (fun s => s.1 ≤ y.Bikes.length ∧ bikesF x (y.Bikes.drop s.1) s.2.1 s.2.2 = bikesF x y.Bikes 0 true) (fun s => y.Bikes.length - s.1) (0, 0, true) ⟨by simp, rfl⟩ ⟨rfl, rfl, rfl, rfl, rfl, rfl, rfl, trivial⟩ (fun _ h => h) ?_
  intro s ⟨hs1, hs2⟩
  refine GoC.seq ?_
  refine GoC.region ?_
  refine GoL.q (op_lss rfl rfl) ?_
  refine GoL.nil .next ?_
  refine GoC.seq ?_
  refine GoC.cond rfl (fun hc0 => ?_) (fun hc0 => ?_)
  · have hlt : s.1 < y.Bikes.length := by simpa using hc0
    refine GoC.skipTo .next ?_
    refine GoC.seq ?_
    refine GoC.block ?_
    refine GoC.seq ?_
    refine GoC.openR (n := 2) r.b.1 s.1 hlt (fun q hq => ?_)
    refine GoC.region ?_
    refine GoL.q (op_indexR rfl rfl rfl (by first | assumption | omega)) ?_
    refine GoL.q (op_loadEA rfl rfl) ?_
    refine GoL.x (op_alloc) ?_
    rintro _ _ _ ⟨b9, rfl, rfl, rfl⟩
    refine GoL.y0 (op_store rfl rfl rfl rfl (by simp [Value.oneCell']) (Nat.le_of_ble_eq_true rfl) rfl) ?_
    rintro _ _ _ ⟨rfl, rfl, rfl⟩
    refine GoL.nil .next ?_
    refine GoC.seq ?_
    refine GoC.seq ?_
    refine GoC.region ?_
    refine GoL.q (op_fieldAddr rfl) ?_
    refine GoL.q (op_load rfl rfl) ?_
    refine GoL.q (op_lss rfl rfl) ?_
    refine GoL.q (op_move rfl) ?_
    apply GoL.or (m := 6) (x := 29) rfl rfl rfl rfl rfl rfl rfl rfl (Wn.none rfl)
    · intro hg1
      refine GoL.q (op_fieldAddr rfl) ?_ (hg := Wn.some rfl rfl rfl hg1)
      refine GoL.q (op_load rfl rfl) ?_ (hg := Wn.some rfl rfl rfl hg1)
      refine GoL.q (op_fieldAddr rfl) ?_ (hg := Wn.some rfl rfl rfl hg1)
      refine GoL.q (op_load rfl rfl) ?_ (hg := Wn.some rfl rfl rfl hg1)
      refine GoL.q (op_len rfl) ?_ (hg := Wn.some rfl rfl rfl hg1)
      refine GoL.q (op_geq rfl rfl) ?_ (hg := Wn.some rfl rfl rfl hg1)
      exact GoL.part (k := 6) rfl rfl rfl
    refine GoL.q (op_move rfl) ?_
    apply GoL.or (m := 4) (x := 35) rfl rfl rfl rfl rfl rfl rfl rfl (Wn.none rfl)
    · intro hg2
      refine GoL.q (op_fieldAddr rfl) ?_ (hg := Wn.some rfl rfl rfl hg2)
      refine GoL.q (op_load rfl rfl) ?_ (hg := Wn.some rfl rfl rfl hg2)
      refine GoL.q (op_len rfl) ?_ (hg := Wn.some rfl rfl rfl hg2)
      refine GoL.q (op_eql rfl rfl) ?_ (hg := Wn.some rfl rfl rfl hg2)
      exact GoL.part (k := 4) rfl rfl rfl
    refine GoL.nil .next ?_
    refine GoC.cond rfl (fun hc3 => ?_) (fun hc3 => ?_)
    · refine GoC.seq ?_
      refine GoC.region ?_
      refine GoL.q (op_move rfl) ?_
      refine GoL.q (op_assign rfl) ?_
      refine GoL.q (op_assign rfl) ?_
      refine GoL.q (op_assign rfl) ?_
      refine GoL.nil .next ?_
      refine GoC.ret (.thenRet (.blockRet (.thenRet (.thenRet (.blockRet (.thenRet (.here))))))) ?_
      refine done3 rfl rfl rfl rfl ?_
      intro w' hw
      have e2 : bikesF x y.Bikes 0 true = (false, false, s.2.2) := by rw [← hs2, List.drop_eq_getElem_cons hlt, bikesF]; exact if_pos hc3
      exact ⟨by rw [e2], hw.keep⟩
    · refine GoC.skipTo .next ?_
      refine GoC.seq ?_
      refine GoC.region ?_
      refine GoL.q (op_fieldAddr rfl) ?_
      refine GoL.q (op_fieldAddr rfl) ?_
      refine GoL.q (op_load rfl rfl) ?_
      refine GoL.q (op_assign rfl) ?_
      refine GoL.nil .next ?_
      refine GoC.seq ?_
      refine GoC.seq ?_
      refine GoC.region ?_
      refine GoL.q (op_fieldAddr rfl) ?_
      refine GoL.q (op_load rfl rfl) ?_
      refine GoL.q (op_len rfl) ?_
      refine GoL.q (op_move rfl) ?_
      refine GoL.nil .next ?_
      refine GoC.block ?_
      -- !! loop 1: slots that turn: 4 (route), 6 (load)
      refine GoC.loop (σ := Nat × Int × Int) (fun u => [(44, .int .i64 (u.1 : Int)), (7, .int .u64 u.2.1), (10, .int .i64 u.2.2)]) [(16, _), (4, _), (6, _), (3, _), (14, _), (15, _), (42, _), (43, _)] (fun u => _) (fun u => _) (fun u => u.1 ≤ y.Bikes[s.1].Stops.length ∧ bstopsF x (y.Bikes[s.1].Stops.drop u.1) u.2.1 u.2.2 = bstopsF x y.Bikes[s.1].Stops s.2.1 x.Bikes.Room) (fun u => y.Bikes[s.1].Stops.length - u.1) (0, s.2.1, x.Bikes.Room) ⟨by simp, rfl⟩ ⟨rfl, rfl, rfl, rfl, rfl, rfl, rfl, rfl, rfl, rfl, rfl, trivial⟩ (fun _ h => h) ?_
      intro u ⟨hu1, hu2⟩
      refine GoC.seq ?_
      refine GoC.region ?_
      refine GoL.q (op_lss rfl rfl) ?_
      refine GoL.nil .next ?_
      refine GoC.seq ?_
      refine GoC.cond rfl (fun hc4 => ?_) (fun hc4 => ?_)
      · have hlt2 : u.1 < y.Bikes[s.1].Stops.length := by simpa using hc4
        refine GoC.skipTo .next ?_
        refine GoC.seq ?_
        refine GoC.block ?_
        refine GoC.seq ?_
        refine GoC.openR (n := 1) q.2.1 u.1 hlt2 (fun _ hq2 => ?_)
        refine GoC.region ?_
        refine GoL.q (op_indexR rfl rfl rfl (by first | assumption | omega)) ?_
        refine GoL.q (op_loadE rfl rfl) ?_
        refine GoL.q (op_assign rfl) ?_
        refine GoL.nil .next ?_
        refine GoC.seq ?_
        refine GoC.seq ?_
        refine GoC.region ?_
        refine GoL.q (op_move rfl) ?_
        refine GoL.q (op_lss rfl rfl) ?_
        refine GoL.q (op_move rfl) ?_
        apply GoL.or (m := 5) (x := 55) rfl rfl rfl rfl rfl rfl rfl rfl (Wn.none rfl)
        · intro hg5
          refine GoL.q (op_move rfl) ?_ (hg := Wn.some rfl rfl rfl hg5)
          refine GoL.q (op_fieldAddr rfl) ?_ (hg := Wn.some rfl rfl rfl hg5)
          refine GoL.q (op_load rfl rfl) ?_ (hg := Wn.some rfl rfl rfl hg5)
          refine GoL.q (op_len rfl) ?_ (hg := Wn.some rfl rfl rfl hg5)
          refine GoL.q (op_geq rfl rfl) ?_ (hg := Wn.some rfl rfl rfl hg5)
          exact GoL.part (k := 5) rfl rfl rfl
        refine GoL.q (op_move rfl) ?_
        apply GoL.or (m := 3) (x := 60) rfl rfl rfl rfl rfl rfl rfl rfl (Wn.none rfl)
        · intro hg6
          refine GoL.q (op_move rfl) ?_ (hg := Wn.some rfl rfl rfl hg6)
          refine GoL.q (op_move rfl) ?_ (hg := Wn.some rfl rfl rfl hg6)
          refine GoL.p (op_callP rfl fun w _ => has_spec _ _ w) ?_ (hg := Wn.some rfl rfl rfl hg6)
          exact GoL.part (k := 3) rfl rfl rfl
        refine GoL.nil .next ?_
        refine GoC.cond rfl (fun hc7 => ?_) (fun hc7 => ?_)
        · refine GoC.seq ?_
          refine GoC.region ?_
          refine GoL.q (op_move rfl) ?_
          refine GoL.q (op_assign rfl) ?_
          refine GoL.q (op_assign rfl) ?_
          refine GoL.q (op_assign rfl) ?_
          refine GoL.nil .next ?_
          refine GoC.ret (.thenRet (.blockRet (.thenRet (.thenRet (.blockRet (.thenRet (.blockRet (.thenRet (.thenRet (.blockRet (.thenRet (.here)))))))))))) ?_
          refine done3 rfl rfl rfl rfl ?_
          intro w' hw
          have e1 : bstopsF x y.Bikes[s.1].Stops s.2.1 x.Bikes.Room = none := by rw [← hu2, List.drop_eq_getElem_cons hlt2, bstopsF]; exact if_pos hc7
          have e2 : bikesF x y.Bikes 0 true = (false, false, s.2.2) := by rw [← hs2, List.drop_eq_getElem_cons hlt, bikesF, e1]; exact if_neg (Bool.eq_false_iff.1 hc3)
          exact ⟨by rw [e2], hw.keep⟩
        · refine GoC.skipTo .next ?_
          refine GoC.seq ?_
          refine GoC.region ?_
          refine GoL.q (op_move rfl) ?_
          refine GoL.q (op_move rfl) ?_
          refine GoL.p (op_callP rfl fun w _ => with_spec _ _ w) ?_
          refine GoL.q (op_assign rfl) ?_
          refine GoL.nil .next ?_
          have hcc : 0 ≤ y.Bikes[s.1].Stops[u.1] ∧ y.Bikes[s.1].Stops[u.1] < x.Customers.length := by have h0 : custBad x u.2.1 y.Bikes[s.1].Stops[u.1] = false := hc7; simp [custBad] at h0; omega
          have hl2 : y.Bikes[s.1].Stops[u.1].toNat < x.Customers.length := by omega
          refine GoC.openR (n := 4) p.u.1 y.Bikes[s.1].Stops[u.1].toNat hl2 (fun _ hq3 => ?_)
          refine GoC.region ?_
          refine GoL.q (op_move rfl) ?_
          refine GoL.q (op_fieldAddr rfl) ?_
          refine GoL.q (op_load rfl rfl) ?_
          refine GoL.q (op_move rfl) ?_
          refine GoL.q (op_indexR rfl rfl (Int.toNat_of_nonneg hcc.1).symm hl2) ?_
          refine GoL.q (op_fieldAddrE rfl) ?_
          refine GoL.q (op_loadF rfl rfl) ?_
          refine GoL.q (op_sub rfl rfl) ?_
          refine GoL.q (op_assign rfl) ?_
          refine GoL.nil (.blockNormal (.next)) ?_
          refine GoC.sub (E' := [(44, _), (7, _), (10, _), (16, _), (4, _), (6, _), (3, _), (14, _), (15, _), (42, _), (43, _)]) ⟨rfl, rfl, rfl, rfl, rfl, rfl, rfl, rfl, rfl, rfl, rfl, trivial⟩ ?_
          refine GoC.region ?_
          refine GoL.q (op_inc rfl (by omega)) ?_
          refine GoL.q (op_move rfl) ?_
          exact GoL.again (u.1 + 1, withF u.2.1 y.Bikes[s.1].Stops[u.1], w64 (u.2.2 - x.Customers[y.Bikes[s.1].Stops[u.1].toNat].Load)) ⟨by omega, by rw [List.drop_eq_getElem_cons hlt2, bstopsF, loadOf, getD_lt _ hl2] at hu2; exact (if_neg (Bool.eq_false_iff.1 hc7)).symm.trans hu2⟩ (by simp only; omega) ⟨rfl, rfl, rfl, rfl, rfl, rfl, rfl, rfl, rfl, rfl, rfl, trivial⟩
      · have hge2 : y.Bikes[s.1].Stops.length ≤ u.1 := by simpa using hc4
        refine GoC.exit (.thenExit (.thenExit (.blockSame (.next)))) ?_
        refine GoC.region ?_
        refine GoL.q (op_move rfl) ?_
        refine GoL.q (op_move rfl) ?_
        apply GoL.and (m := 2) (x := 78) rfl rfl rfl rfl rfl rfl rfl rfl (Wn.none rfl)
        · intro hg8
          refine GoL.q (op_move rfl) ?_ (hg := Wn.some rfl rfl rfl hg8)
          refine GoL.q (op_geq rfl rfl) ?_ (hg := Wn.some rfl rfl rfl hg8)
          exact GoL.part (k := 2) rfl rfl rfl
        refine GoL.q (op_assign rfl) ?_
        refine GoL.nil (.blockNormal (.next)) ?_
        refine GoC.region ?_
        refine GoL.q (op_inc rfl (by omega)) ?_
        refine GoL.q (op_move rfl) ?_
        exact GoL.again (s.1 + 1, _, _) ⟨by omega, by rw [List.drop_of_length_le hge2, bstopsF] at hu2; rw [List.drop_eq_getElem_cons hlt, bikesF, ← hu2] at hs2; exact (if_neg (Bool.eq_false_iff.1 hc3)).symm.trans hs2⟩ (by simp only; omega) ⟨rfl, rfl, rfl, rfl, rfl, rfl, rfl, trivial⟩
  · have hge : y.Bikes.length ≤ s.1 := by simpa using hc0
    refine GoC.exit (.thenExit (.thenExit (.blockSame (.next)))) ?_
    refine GoC.seq ?_
    refine GoC.draw 10 [] [0, 1, 2, 3, 4, 5, 6, 7, 8, 9] (by kernel_rfl) Pr_mixed ?_
    refine Can.q rfl (op_move rfl) ?_
    refine Can.q rfl (op_move rfl) ?_
    refine Can.p rfl (op_callP rfl fun w _ => len_spec _ w) ?_
    refine Can.q rfl (op_fieldAddr rfl) ?_
    refine Can.q rfl (op_load rfl rfl) ?_
    refine Can.q rfl (op_len rfl) ?_
    refine Can.q rfl (op_eql rfl rfl) ?_
    refine Can.q rfl (op_move rfl) ?_
    refine Can.q rfl (op_assign rfl) ?_
    refine Can.q rfl (op_assign rfl) ?_
    refine Can.nil rfl ?_
    refine GoL.q (op_assign rfl) ?_
    refine GoL.nil .next ?_
    refine GoC.ret .here ?_
    refine done3 rfl rfl rfl rfl ?_
    intro w' hw
    have e2 : bikesF x y.Bikes 0 true = (true, decide (onesF s.2.1 = x.Customers.length), s.2.2) := by rw [← hs2, List.drop_of_length_le hge, bikesF]
    exact ⟨by rw [e2], hw.keep⟩
set_option maxRecDepth 20000 in
theorem equal64_spec (l m : List Int) (a b : Option Addr) (c d : Nat) (hl : l.length ≤ 9223372036854775807) (sh : Nat → Prop) (w : World) (h : Holds ⟨0, w, [], sh⟩ [] [ro t64 a c l, ro t64 b d m] w) :
    Calls Pr fn_slices_Equal_s_int64_int64 #[.slice a l.length c, .slice b m.length d] w fun e w' => e = .returned (.bool (decide (l = m))) ∧ Ext w w' := by
  refine Calls.of_go (args := [_, _]) fn_slices_Equal_s_int64_int64_f rfl rfl rfl h ?_
  refine GoC.seq ?_
  refine GoC.region ?_
  refine GoL.q (op_assign rfl) ?_
  refine GoL.nil .next ?_
  refine GoC.seq ?_
  refine GoC.seq ?_
  refine GoC.region ?_
  refine GoL.q (op_move rfl) ?_
  refine GoL.q (op_len rfl) ?_
  refine GoL.q (op_move rfl) ?_
  refine GoL.q (op_len rfl) ?_
  refine GoL.q (op_neq rfl rfl) ?_
  refine GoL.nil .next ?_
  refine GoC.cond rfl (fun hc0 => ?_) (fun hc0 => ?_)
  · skip
    refine GoC.seq ?_
    refine GoC.region ?_
    refine GoL.q (op_assign rfl) ?_
    refine GoL.nil .next ?_
    refine GoC.ret (.thenRet (.here)) ?_
    refine done1 rfl rfl ?_
    intro w' hw
    exact ⟨by rw [decide_eq_false]; rintro rfl; simp at hc0, hw.keep⟩
  · have hlm : l.length = m.length := by have := hc0; simp at this; omega
    refine GoC.skipTo .next ?_
    refine GoC.seq ?_
    refine GoC.seq ?_
    refine GoC.region ?_
    refine GoL.q (op_move rfl) ?_
    refine GoL.q (op_len rfl) ?_
    refine GoL.q (op_move rfl) ?_
    refine GoL.nil .next ?_
    refine GoC.block ?_
    refine GoC.loop (σ := Nat) (fun s => [(13, .int .i64 (s : Int))]) [(0, _), (1, _), (12, _)] (fun s => _) (fun s => _) (fun s => s ≤ l.length ∧ (l.drop s = m.drop s ↔ l = m)) (fun s => l.length - s) 0 ⟨by simp, by simp⟩ ⟨rfl, rfl, rfl, rfl, trivial⟩ (fun _ h => h) ?_
    intro s ⟨hs1, hs2⟩
    refine GoC.seq ?_
    refine GoC.region ?_
    refine GoL.q (op_lss rfl rfl) ?_
    refine GoL.nil .next ?_
    refine GoC.seq ?_
    refine GoC.cond rfl (fun hc1 => ?_) (fun hc1 => ?_)
    · have hlt : s < l.length := by simpa using hc1
      refine GoC.skipTo .next ?_
      refine GoC.seq ?_
      refine GoC.block ?_
      refine GoC.seq ?_
      refine GoC.region ?_
      refine GoL.q (op_move rfl) ?_
      refine GoL.q (op_assign rfl) ?_
      refine GoL.nil .next ?_
      refine GoC.seq ?_
      have hltm : s < m.length := by omega
      refine GoC.openR (n := 1) a s hlt (fun _ hq => ?_)
      refine GoC.openR (n := 1) b s hltm (fun _ hq2 => ?_)
      refine GoC.draw 8 [] [0, 1, 2, 3, 4, 5, 6, 7] (by kernel_rfl) Pr_mixed ?_
      refine Can.q rfl (op_move rfl) ?_
      refine Can.q rfl (op_move rfl) ?_
      refine Can.q rfl (op_indexR rfl rfl rfl (by first | assumption | omega)) ?_
      refine Can.q rfl (op_loadE rfl rfl) ?_
      refine Can.q rfl (op_move rfl) ?_
      refine Can.q rfl (op_move rfl) ?_
      refine Can.q rfl (op_indexR rfl rfl rfl (by first | assumption | omega)) ?_
      refine Can.q rfl (op_loadE rfl rfl) ?_
      refine Can.nil rfl ?_
      refine GoL.q (op_neq rfl rfl) ?_
      refine GoL.nil .next ?_
      refine GoC.cond rfl (fun hc2 => ?_) (fun hc2 => ?_)
      · refine GoC.seq ?_
        refine GoC.region ?_
        refine GoL.q (op_assign rfl) ?_
        refine GoL.nil .next ?_
        refine GoC.ret (.blockRet (.thenRet (.thenRet (.blockRet (.thenRet (.here)))))) ?_
        refine done1 rfl rfl ?_
        intro w' hw
        exact ⟨by rw [decide_eq_false]; rintro rfl; simp at hc2, hw.keep⟩
      · refine GoC.skipTo (.blockNormal (.next)) ?_
        refine GoC.region ?_
        refine GoL.q (op_inc rfl (by omega)) ?_
        refine GoL.q (op_move rfl) ?_
        exact GoL.again (s + 1) ⟨by omega, by rw [List.drop_eq_getElem_cons hlt, List.drop_eq_getElem_cons hltm] at hs2; have h5 : l[s] = m[s] := (by simpa using hc2); simp only [h5, List.cons.injEq, true_and] at hs2; exact hs2⟩ (by omega) ⟨rfl, rfl, rfl, rfl, trivial⟩
    · have hge : l.length ≤ s := by simpa using hc1
      refine GoC.exit (.thenExit (.thenExit (.blockSame (.next)))) ?_
      refine GoC.seq ?_
      refine GoC.region ?_
      refine GoL.q (op_assign rfl) ?_
      refine GoL.nil .next ?_
      refine GoC.ret .here ?_
      refine done1 rfl rfl ?_
      intro w' hw
      have e : l = m := by rw [List.drop_of_length_le hge, List.drop_of_length_le (by omega)] at hs2; simpa using hs2
      exact ⟨by rw [decide_eq_true e], hw.keep⟩
set_option maxRecDepth 20000 in
theorem drops_spec (x : Instance) (p : HI) (y : Plan) (r : HP) (hI : OkI x) (hs12 : x.Sats.length ≤ 1000000) (hy : y.Trucks.length ≤ 9223372036854775807) (hst : Sited x y.Trucks) (sh : Nat → Prop) (w : World) (h : Holds ⟨0, w, [], sh⟩ [] (rP y r (rI x p [])) w) :
    Calls Pr fn_plan_Plan_drops #[.agg (cP y r).toArray, .agg (cI x p).toArray] w fun e w' => ∃ g : Hdr, e = .returned (.slice g.1 (dropsF x y.Trucks).length g.2) ∧ Holds ⟨0, w, [], sh⟩ [own ty_i64 t64 g.1 g.2 (dropsF x y.Trucks)] [] w' := by
  refine Calls.of_go (args := [_, _]) fn_plan_Plan_drops_f rfl rfl rfl h ?_
  refine GoC.seq ?_
  refine GoC.region ?_
  refine GoL.x (op_box rfl rfl) ?_
  rintro _ _ _ ⟨b2, rfl, rfl, rfl⟩
  refine GoL.x (op_box rfl rfl) ?_
  rintro _ _ _ ⟨b3, rfl, rfl, rfl⟩
  refine GoL.q (op_assign rfl) ?_
  refine GoL.nil .next ?_
  refine GoC.seq ?_
  refine GoC.region ?_
  refine GoL.q (op_fieldAddr rfl) ?_
  refine GoL.q (op_load rfl rfl) ?_
  refine GoL.q (op_len rfl) ?_
  refine GoL.x (op_make (ty := t64) (0 : Int) (fun _ _ => ⟨rfl, rfl⟩) rfl (by omega) hI.s) ?_
  rintro _ _ _ ⟨b13, rfl, rfl, rfl⟩
  refine GoL.q (op_assign rfl) ?_
  refine GoL.nil .next ?_
  refine GoC.seq ?_
  refine GoC.seq ?_
  refine GoC.region ?_
  refine GoL.q (op_fieldAddr rfl) ?_
  refine GoL.q (op_load rfl rfl) ?_
  refine GoL.q (op_len rfl) ?_
  refine GoL.q (op_move rfl) ?_
  refine GoL.nil .next ?_
  refine GoC.block ?_
  refine GoC.loop (σ := Nat × List Int) (fun s => [(17, .int .i64 (s.1 : Int))]) [(5, _), (15, _), (16, _)] (fun s => [own ty_i64 t64 (some ⟨b13, 0, none⟩) x.Sats.length s.2, cel b3 ty_inst_Instance (cI x p), cel b2 ty_plan_Plan (cP y r)]) (fun s => _) (fun s => s.1 ≤ y.Trucks.length ∧ (s.2.length = x.Sats.length ∧ (y.Trucks.drop s.1).foldl (fun out t => t.Stops.foldl dropsC out) s.2 = dropsF x y.Trucks)) (fun s => y.Trucks.length - s.1) (0, List.replicate x.Sats.length 0) ⟨by simp, by simp, by simp [dropsF]⟩ ⟨rfl, rfl, rfl, rfl, trivial⟩ (fun _ h => h) ?_
  intro s ⟨hs1, hs2⟩
  refine GoC.seq ?_
  refine GoC.region ?_
  refine GoL.q (op_lss rfl rfl) ?_
  refine GoL.nil .next ?_
  refine GoC.seq ?_
  refine GoC.cond rfl (fun hc0 => ?_) (fun hc0 => ?_)
  · have hlt : s.1 < y.Trucks.length := by simpa using hc0
    refine GoC.skipTo .next ?_
    refine GoC.seq ?_
    refine GoC.block ?_
    refine GoC.seq ?_
    refine GoC.openR (n := 1) r.t.1 s.1 hlt (fun q hq => ?_)
    refine GoC.region ?_
    refine GoL.q (op_indexR rfl rfl rfl (by first | assumption | omega)) ?_
    refine GoL.q (op_loadEA rfl rfl) ?_
    refine GoL.x (op_alloc) ?_
    rintro _ _ _ ⟨b7, rfl, rfl, rfl⟩
    refine GoL.y0 (op_store rfl rfl rfl rfl (by simp [Value.oneCell']) (Nat.le_of_ble_eq_true rfl) rfl) ?_
    rintro _ _ _ ⟨rfl, rfl, rfl⟩
    refine GoL.nil .next ?_
    refine GoC.seq ?_
    refine GoC.region ?_
    refine GoL.q (op_fieldAddr rfl) ?_
    refine GoL.q (op_load rfl rfl) ?_
    refine GoL.q (op_len rfl) ?_
    refine GoL.q (op_move rfl) ?_
    refine GoL.nil .next ?_
    refine GoC.block ?_
    refine GoC.loop (σ := Nat × List Int) (fun u => [(24, .int .i64 (u.1 : Int))]) [(17, _), (5, _), (15, _), (16, _), (22, _), (23, _)] (fun u => [cel b7 ty_plan_Truck [.slice q.1 y.Trucks[s.1].Stops.length q.2], own ty_i64 t64 (some ⟨b13, 0, none⟩) x.Sats.length u.2, cel b3 ty_inst_Instance (cI x p), cel b2 ty_plan_Plan (cP y r)]) (fun u => _) (fun u => u.1 ≤ y.Trucks[s.1].Stops.length ∧ (u.2.length = x.Sats.length ∧ (y.Trucks[s.1].Stops.drop u.1).foldl dropsC u.2 = y.Trucks[s.1].Stops.foldl dropsC s.2)) (fun u => y.Trucks[s.1].Stops.length - u.1) (0, s.2) ⟨by simp, hs2.1, by simp⟩ ⟨rfl, rfl, rfl, rfl, rfl, rfl, rfl, trivial⟩ (fun _ h => h) ?_
    intro u ⟨hu1, hu2⟩
    refine GoC.seq ?_
    refine GoC.region ?_
    refine GoL.q (op_lss rfl rfl) ?_
    refine GoL.nil .next ?_
    refine GoC.seq ?_
    refine GoC.cond rfl (fun hc1 => ?_) (fun hc1 => ?_)
    · have hlt2 : u.1 < y.Trucks[s.1].Stops.length := by simpa using hc1
      refine GoC.skipTo .next ?_
      refine GoC.seq ?_
      refine GoC.block ?_
      refine GoC.seq ?_
      refine GoC.openR (n := 2) q.1 u.1 hlt2 (fun _ hq2 => ?_)
      have hcc := hst _ (List.getElem_mem hlt) _ (List.getElem_mem hlt2)
      have hl1 : y.Trucks[s.1].Stops[u.1].Sat.toNat < u.2.length := by omega
      refine GoC.region ?_
      refine GoL.q (op_indexR rfl rfl rfl (by first | assumption | omega)) ?_
      refine GoL.q (op_loadEA rfl rfl) ?_
      refine GoL.x (op_alloc) ?_
      rintro _ _ _ ⟨b9, rfl, rfl, rfl⟩
      refine GoL.y0 (op_store rfl rfl rfl rfl (by simp [Value.oneCell']) (Nat.le_of_ble_eq_true rfl) rfl) ?_
      rintro _ _ _ ⟨rfl, rfl, rfl⟩
      refine GoL.nil .next ?_
      refine GoC.draw 7 [] [0, 1, 2, 3, 4, 5, 6] (by kernel_rfl) Pr_mixed ?_
      refine Can.q rfl (op_move rfl) ?_
      refine Can.q rfl (op_fieldAddr rfl) ?_
      refine Can.q rfl (op_load rfl rfl) ?_
      refine Can.q rfl (op_indexO rfl rfl (Int.toNat_of_nonneg hcc.1).symm hl1 (by first | rfl | omega)) ?_
      refine Can.q rfl (op_loadO rfl (by intro _ _ _ _ h; exact h.1) (by first | assumption | omega) rfl) ?_
      refine Can.q rfl (op_fieldAddr rfl) ?_
      refine Can.q rfl (op_load rfl rfl) ?_
      refine Can.nil rfl ?_
      refine GoL.q (op_add rfl rfl) ?_
      refine GoL.q (op_indexO rfl rfl (Int.toNat_of_nonneg hcc.1).symm hl1 (by first | rfl | omega)) ?_
      refine GoL.y0 (op_storeO (xv := w64 (u.2[y.Trucks[s.1].Stops[u.1].Sat.toNat] + y.Trucks[s.1].Stops[u.1].Load)) rfl rfl hl1 (by intro _ _; exact ⟨rfl, w64_w64 _⟩)) ?_
      rintro _ _ _ ⟨rfl, rfl, rfl⟩
      refine GoL.nil (.blockNormal (.next)) ?_
      refine GoC.region ?_
      refine GoL.q (op_inc rfl (by omega)) ?_
      refine GoL.q (op_move rfl) ?_
      exact GoL.again (u.1 + 1, u.2.set y.Trucks[s.1].Stops[u.1].Sat.toNat (w64 (u.2[y.Trucks[s.1].Stops[u.1].Sat.toNat] + y.Trucks[s.1].Stops[u.1].Load))) ⟨by omega, by simpa using hu2.1, by have hu3 := hu2.2; rw [List.drop_eq_getElem_cons hlt2, List.foldl_cons] at hu3; rw [← hu3, dropsC, getD_lt _ hl1]⟩ (by simp only; omega) ⟨rfl, rfl, rfl, rfl, rfl, rfl, rfl, trivial⟩
    · have hge2 : y.Trucks[s.1].Stops.length ≤ u.1 := by simpa using hc1
      refine GoC.exit (.thenExit (.thenExit (.blockSame (.blockNormal (.next))))) ?_
      refine GoC.region ?_
      refine GoL.q (op_inc rfl (by omega)) ?_
      refine GoL.q (op_move rfl) ?_
      exact GoL.again (s.1 + 1, u.2) ⟨by omega, hu2.1, by rw [List.drop_eq_getElem_cons hlt, List.foldl_cons, ← hu2.2, List.drop_of_length_le hge2] at hs2; exact hs2.2⟩ (by simp only; omega) ⟨rfl, rfl, rfl, rfl, trivial⟩
  · have hge : y.Trucks.length ≤ s.1 := by simpa using hc0
    refine GoC.exit (.thenExit (.thenExit (.blockSame (.next)))) ?_
    refine GoC.seq ?_
    refine GoC.region ?_
    refine GoL.q (op_move rfl) ?_
    refine GoL.q (op_assign rfl) ?_
    refine GoL.nil .next ?_
    refine GoC.ret .here ?_
    refine done1 rfl rfl ?_
    intro w' hw
    have he : s.2 = dropsF x y.Trucks := by rw [← hs2.2, List.drop_of_length_le hge]; rfl
    rw [he] at hw
    have hlen : x.Sats.length = (dropsF x y.Trucks).length := (dropsF_len _ _).symm
    exact ⟨(some ⟨b13, 0, none⟩, x.Sats.length), by rw [← hlen], hw.n.drop (SubL.sub) (by simp)⟩
end Go.Proofs.Ytdeacehacndopaa

namespace Go.Proofs.Ytdeacehacndopaa
open Go.RowKit

theorem instCheckF_sats {x : Instance} (h : instCheckF x = 0) : x.Sats.length ≤ 12 := by
  unfold instCheckF at h
  split at h
  · cases h
  · rename_i h1
    simp [manyF] at h1
    omega

set_option maxRecDepth 20000 in
theorem planCheck_spec (x : Instance) (p : HI) (y : Plan) (r : HP) (hI : OkI x) (hy : y.Trucks.length ≤ 9223372036854775807 ∧ y.Bikes.length ≤ 9223372036854775807) (sh : Nat → Prop) (w : World) (h : Holds ⟨0, w, [], sh⟩ [] (rP y r (rI x p [])) w) :
    Calls Pr fn_plan_Check #[.agg (cI x p).toArray, .agg (cP y r).toArray] w fun e w' => e = .returned (.int .i64 (planCheckF x y)) ∧ Ext w w' := by
  refine Calls.of_go (args := [_, _]) fn_plan_Check_f rfl rfl rfl h ?_
  refine GoC.seq ?_
  refine GoC.region ?_
  refine GoL.x (op_box rfl rfl) ?_
  rintro _ _ _ ⟨b2, rfl, rfl, rfl⟩
  refine GoL.x (op_box rfl rfl) ?_
  rintro _ _ _ ⟨b3, rfl, rfl, rfl⟩
  refine GoL.q (op_assign rfl) ?_
  refine GoL.nil .next ?_
  refine GoC.seq ?_
  refine GoC.seq ?_
  refine GoC.region ?_
  refine GoL.q (op_loadA rfl rfl rfl) ?_
  refine GoL.p (op_callV rfl (fun sh w h => instCheck_spec x p hI sh w h)) ?_
  refine GoL.q (op_assign rfl) ?_
  refine GoL.nil .next ?_
  refine GoC.seq ?_
  refine GoC.region ?_
  refine GoL.q (op_move rfl) ?_
  refine GoL.q (op_neq rfl rfl) ?_
  refine GoL.nil .next ?_
  refine GoC.cond rfl (fun hc0 => ?_) (fun hc0 => ?_)
  · refine GoC.seq ?_
    refine GoC.region ?_
    refine GoL.q (op_move rfl) ?_
    refine GoL.q (op_assign rfl) ?_
    refine GoL.nil .next ?_
    refine GoC.ret (.thenRet (.here)) ?_
    refine done1 rfl rfl ?_
    intro w' hw
    have e : planCheckF x y = instCheckF x := if_pos hc0
    exact ⟨by rw [e], hw.keep⟩
  · refine GoC.skipTo .next ?_
    refine GoC.seq ?_
    refine GoC.seq ?_
    refine GoC.region ?_
    refine GoL.q (op_fieldAddr rfl) ?_
    refine GoL.q (op_load rfl rfl) ?_
    refine GoL.q (op_len rfl) ?_
    refine GoL.q (op_fieldAddr rfl) ?_
    refine GoL.q (op_fieldAddr rfl) ?_
    refine GoL.q (op_load rfl rfl) ?_
    refine GoL.q (op_gtr rfl rfl) ?_
    refine GoL.q (op_move rfl) ?_
    apply GoL.or (m := 7) (x := 33) rfl rfl rfl rfl rfl rfl rfl rfl (Wn.none rfl)
    · intro hg1
      refine GoL.q (op_fieldAddr rfl) ?_ (hg := Wn.some rfl rfl rfl hg1)
      refine GoL.q (op_load rfl rfl) ?_ (hg := Wn.some rfl rfl rfl hg1)
      refine GoL.q (op_len rfl) ?_ (hg := Wn.some rfl rfl rfl hg1)
      refine GoL.q (op_fieldAddr rfl) ?_ (hg := Wn.some rfl rfl rfl hg1)
      refine GoL.q (op_fieldAddr rfl) ?_ (hg := Wn.some rfl rfl rfl hg1)
      refine GoL.q (op_load rfl rfl) ?_ (hg := Wn.some rfl rfl rfl hg1)
      refine GoL.q (op_gtr rfl rfl) ?_ (hg := Wn.some rfl rfl rfl hg1)
      exact GoL.part (k := 7) rfl rfl rfl
    refine GoL.nil .next ?_
    refine GoC.cond rfl (fun hc2 => ?_) (fun hc2 => ?_)
    · refine GoC.seq ?_
      refine GoC.region ?_
      refine GoL.q (op_assign rfl) ?_
      refine GoL.nil .next ?_
      refine GoC.ret (.thenRet (.here)) ?_
      refine done1 rfl rfl ?_
      intro w' hw
      have e : planCheckF x y = 11 := ((if_neg (Bool.eq_false_iff.1 hc0)).trans (if_pos hc2))
      exact ⟨by rw [e], hw.keep⟩
    · refine GoC.skipTo .next ?_
      refine GoC.seq ?_
      refine GoC.region ?_
      refine GoL.q (op_loadA rfl rfl rfl) ?_
      refine GoL.q (op_loadA rfl rfl rfl) ?_
      refine GoL.p (op_callV rfl (fun sh w h => trucks_spec x p y r hy.1 sh w h)) ?_
      refine GoL.q (op_move rfl) ?_
      refine GoL.q (op_extract rfl rfl) ?_
      refine GoL.q (op_extract rfl rfl) ?_
      refine GoL.q (op_assign rfl) ?_
      refine GoL.q (op_assign rfl) ?_
      refine GoL.nil .next ?_
      refine GoC.seq ?_
      refine GoC.region ?_
      refine GoL.q (op_loadA rfl rfl rfl) ?_
      refine GoL.q (op_loadA rfl rfl rfl) ?_
      refine GoL.p (op_callV rfl (fun sh w h => bikes_spec x p y r hy.2 sh w h)) ?_
      refine GoL.q (op_move rfl) ?_
      refine GoL.q (op_extract rfl rfl) ?_
      refine GoL.q (op_extract rfl rfl) ?_
      refine GoL.q (op_extract rfl rfl) ?_
      refine GoL.q (op_assign rfl) ?_
      refine GoL.q (op_assign rfl) ?_
      refine GoL.q (op_assign rfl) ?_
      refine GoL.nil .next ?_
      refine GoC.sub (E' := [(2, _), (3, _), (4, _), (6, _), (7, _), (8, _), (9, _), (10, _)]) ⟨rfl, rfl, rfl, rfl, rfl, rfl, rfl, rfl, trivial⟩ ?_
      refine GoC.seq ?_
      refine GoC.block ?_
      refine GoC.seq ?_
      refine GoC.region ?_
      refine GoL.q (op_move rfl) ?_
      refine GoL.q (op_not rfl) ?_
      refine GoL.q (op_move rfl) ?_
      apply GoL.or (m := 2) (x := 53) rfl rfl rfl rfl rfl rfl rfl rfl (Wn.none rfl)
      · intro hg3
        refine GoL.q (op_move rfl) ?_ (hg := Wn.some rfl rfl rfl hg3)
        refine GoL.q (op_not rfl) ?_ (hg := Wn.some rfl rfl rfl hg3)
        exact GoL.part (k := 2) rfl rfl rfl
      refine GoL.q (op_assign rfl) ?_
      refine GoL.nil .next ?_
      refine GoC.cond rfl (fun hc4 => ?_) (fun hc4 => ?_)
      · refine GoC.seq ?_
        refine GoC.region ?_
        refine GoL.q (op_assign rfl) ?_
        refine GoL.nil .next ?_
        refine GoC.ret (.blockRet (.thenRet (.here))) ?_
        refine done1 rfl rfl ?_
        intro w' hw
        have e : planCheckF x y = 15 := ((if_neg (Bool.eq_false_iff.1 hc0)).trans ((if_neg (Bool.eq_false_iff.1 hc2)).trans (if_pos hc4)))
        exact ⟨by rw [e], hw.keep⟩
      · refine GoC.seq ?_
        refine GoC.region ?_
        refine GoL.q (op_move rfl) ?_
        refine GoL.q (op_not rfl) ?_
        refine GoL.q (op_assign rfl) ?_
        refine GoL.nil .next ?_
        refine GoC.cond rfl (fun hc5 => ?_) (fun hc5 => ?_)
        · refine GoC.seq ?_
          refine GoC.region ?_
          refine GoL.q (op_assign rfl) ?_
          refine GoL.nil .next ?_
          refine GoC.ret (.blockRet (.thenRet (.here))) ?_
          refine done1 rfl rfl ?_
          intro w' hw
          have e : planCheckF x y = 8 := ((if_neg (Bool.eq_false_iff.1 hc0)).trans ((if_neg (Bool.eq_false_iff.1 hc2)).trans ((if_neg (Bool.eq_false_iff.1 hc4)).trans (if_pos hc5))))
          exact ⟨by rw [e], hw.keep⟩
        · refine GoC.seq ?_
          refine GoC.region ?_
          refine GoL.q (op_move rfl) ?_
          refine GoL.q (op_not rfl) ?_
          refine GoL.q (op_move rfl) ?_
          apply GoL.or (m := 2) (x := 63) rfl rfl rfl rfl rfl rfl rfl rfl (Wn.none rfl)
          · intro hg6
            refine GoL.q (op_move rfl) ?_ (hg := Wn.some rfl rfl rfl hg6)
            refine GoL.q (op_not rfl) ?_ (hg := Wn.some rfl rfl rfl hg6)
            exact GoL.part (k := 2) rfl rfl rfl
          refine GoL.q (op_assign rfl) ?_
          refine GoL.nil .next ?_
          refine GoC.cond rfl (fun hc7 => ?_) (fun hc7 => ?_)
          · refine GoC.seq ?_
            refine GoC.region ?_
            refine GoL.q (op_assign rfl) ?_
            refine GoL.nil .next ?_
            refine GoC.ret (.blockRet (.thenRet (.here))) ?_
            refine done1 rfl rfl ?_
            intro w' hw
            have e : planCheckF x y = 10 := ((if_neg (Bool.eq_false_iff.1 hc0)).trans ((if_neg (Bool.eq_false_iff.1 hc2)).trans ((if_neg (Bool.eq_false_iff.1 hc4)).trans ((if_neg (Bool.eq_false_iff.1 hc5)).trans (if_pos hc7)))))
            exact ⟨by rw [e], hw.keep⟩
          · refine GoC.skipTo (.blockNormal (.next)) ?_
            refine GoC.seq ?_
            have h12 := instCheckF_sats (show instCheckF x = 0 by simpa using hc0)
            have hsit : Sited x y.Trucks := trucksF_sited (show (trucksF x y.Trucks true true).1 = true by revert hc4; cases (trucksF x y.Trucks true true).1 <;> simp)
            refine GoC.region ?_
            refine GoL.q (op_loadA rfl rfl rfl) ?_
            refine GoL.q (op_fieldAddr rfl) ?_
            refine GoL.q (op_load rfl rfl) ?_
            refine GoL.x (op_callF rfl (fun sh w h => loads_spec x y.Bikes p r.b.1 r.b.2 hI (by omega) hy.2 sh w h)) ?_
            rintro _ _ _ ⟨gl, rfl, rfl, rfl⟩
            refine GoL.q (op_assign rfl) ?_
            refine GoL.nil .next ?_
            refine GoC.seq ?_
            refine GoC.seq ?_
            refine GoC.region ?_
            refine GoL.q (op_move rfl) ?_
            refine GoL.q (op_len rfl) ?_
            refine GoL.q (op_move rfl) ?_
            refine GoL.nil .next ?_
            refine GoC.block ?_
            refine GoC.loop (σ := Nat) (fun s => [(71, .int .i64 (s : Int))]) [(2, _), (3, _), (11, _), (69, _), (70, _)] (fun s => _) (fun s => _) (fun s => s ≤ (loadsF x y.Bikes).length ∧ roomsF ((loadsF x y.Bikes).drop s) (x.Sats.drop s) = roomsF (loadsF x y.Bikes) x.Sats) (fun s => (loadsF x y.Bikes).length - s) 0 ⟨by simp, rfl⟩ ⟨rfl, rfl, rfl, rfl, rfl, rfl, trivial⟩ (fun _ h => h) ?_
            intro s ⟨hs1, hs2⟩
            refine GoC.seq ?_
            refine GoC.region ?_
            refine GoL.q (op_lss rfl rfl) ?_
            refine GoL.nil .next ?_
            refine GoC.seq ?_
            refine GoC.cond rfl (fun hc8 => ?_) (fun hc8 => ?_)
            · have hlt : s < (loadsF x y.Bikes).length := by simpa using hc8
              refine GoC.skipTo .next ?_
              refine GoC.seq ?_
              refine GoC.block ?_
              refine GoC.seq ?_
              refine GoC.region ?_
              refine GoL.q (op_move rfl) ?_
              refine GoL.q (op_indexO rfl rfl rfl hlt (by first | rfl | omega)) ?_
              refine GoL.q (op_loadO rfl (by intro _ _ _ _ h; exact h.1) (by first | assumption | omega) rfl) ?_
              refine GoL.q (op_assign rfl) ?_
              refine GoL.q (op_assign rfl) ?_
              refine GoL.nil .next ?_
              refine GoC.seq ?_
              have hlt2 : s < x.Sats.length := by rw [loadsF_len] at hlt; exact hlt
              refine GoC.openR (n := 2) p.s.1 s hlt2 (fun _ hq => ?_)
              refine GoC.region ?_
              refine GoL.q (op_move rfl) ?_
              refine GoL.q (op_fieldAddr rfl) ?_
              refine GoL.q (op_load rfl rfl) ?_
              refine GoL.q (op_move rfl) ?_
              refine GoL.q (op_indexR rfl rfl rfl hlt2) ?_
              refine GoL.q (op_fieldAddrE rfl) ?_
              refine GoL.q (op_loadF rfl rfl) ?_
              refine GoL.q (op_gtr rfl rfl) ?_
              refine GoL.nil .next ?_
              refine GoC.cond rfl (fun hc9 => ?_) (fun hc9 => ?_)
              · refine GoC.seq ?_
                refine GoC.region ?_
                refine GoL.q (op_assign rfl) ?_
                refine GoL.nil .next ?_
                refine GoC.ret (.blockRet (.thenRet (.thenRet (.blockRet (.thenRet (.here)))))) ?_
                refine done1 rfl rfl ?_
                intro w' hw
                have hr : roomsF (loadsF x y.Bikes) x.Sats = true := by rw [← hs2, List.drop_eq_getElem_cons hlt, List.drop_eq_getElem_cons hlt2, roomsF, hc9]; rfl
                have e : planCheckF x y = 10 := ((if_neg (Bool.eq_false_iff.1 hc0)).trans ((if_neg (Bool.eq_false_iff.1 hc2)).trans ((if_neg (Bool.eq_false_iff.1 hc4)).trans ((if_neg (Bool.eq_false_iff.1 hc5)).trans ((if_neg (Bool.eq_false_iff.1 hc7)).trans (if_pos hr))))))
                exact ⟨by rw [e], hw.keep⟩
              · refine GoC.skipTo (.blockNormal (.next)) ?_
                refine GoC.region ?_
                refine GoL.q (op_inc rfl (by omega)) ?_
                refine GoL.q (op_move rfl) ?_
                exact GoL.again (s + 1) ⟨by omega, by rw [List.drop_eq_getElem_cons hlt, List.drop_eq_getElem_cons hlt2, roomsF, hc9, Bool.false_or] at hs2; exact hs2⟩ (by omega) ⟨rfl, rfl, rfl, rfl, rfl, rfl, trivial⟩
            · have hge : (loadsF x y.Bikes).length ≤ s := by simpa using hc8
              refine GoC.exit (.thenExit (.thenExit (.blockSame (.next)))) ?_
              refine GoC.seq ?_
              refine GoC.seq ?_
              refine GoC.shareOwn gl.1 ?_
              refine GoC.region ?_
              refine GoL.q (op_move rfl) ?_
              refine GoL.q (op_loadA rfl rfl rfl) ?_
              refine GoL.q (op_loadA rfl rfl rfl) ?_
              refine GoL.x (op_callF rfl (fun sh w h => drops_spec x p y r hI (by omega) hy.1 hsit sh w h)) ?_
              rintro _ _ _ ⟨gd, rfl, rfl, rfl⟩
              refine GoL.shareOwn gd.1 ?_
              refine GoL.p (op_callV rfl (fun sh w h => equal64_spec _ _ gl.1 gd.1 gl.2 gd.2 (by rw [loadsF_len]; omega) sh w h)) ?_
              refine GoL.q (op_not rfl) ?_
              refine GoL.nil .next ?_
              refine GoC.cond rfl (fun hc10 => ?_) (fun hc10 => ?_)
              · refine GoC.seq ?_
                refine GoC.region ?_
                refine GoL.q (op_assign rfl) ?_
                refine GoL.nil .next ?_
                refine GoC.ret (.thenRet (.here)) ?_
                refine done1 rfl rfl ?_
                intro w' hw
                have hr : roomsF (loadsF x y.Bikes) x.Sats = false := by rw [← hs2, List.drop_of_length_le hge]; rfl
                have e : planCheckF x y = 13 := ((if_neg (Bool.eq_false_iff.1 hc0)).trans ((if_neg (Bool.eq_false_iff.1 hc2)).trans ((if_neg (Bool.eq_false_iff.1 hc4)).trans ((if_neg (Bool.eq_false_iff.1 hc5)).trans ((if_neg (Bool.eq_false_iff.1 hc7)).trans ((if_neg (Bool.eq_false_iff.1 hr)).trans (if_pos hc10)))))))
                exact ⟨by rw [e], hw.keep⟩
              · refine GoC.skipTo .next ?_
                refine GoC.seq ?_
                refine GoC.region ?_
                refine GoL.q (op_assign rfl) ?_
                refine GoL.nil .next ?_
                refine GoC.ret .here ?_
                refine done1 rfl rfl ?_
                intro w' hw
                have hr : roomsF (loadsF x y.Bikes) x.Sats = false := by rw [← hs2, List.drop_of_length_le hge]; rfl
                have e : planCheckF x y = 0 := ((if_neg (Bool.eq_false_iff.1 hc0)).trans ((if_neg (Bool.eq_false_iff.1 hc2)).trans ((if_neg (Bool.eq_false_iff.1 hc4)).trans ((if_neg (Bool.eq_false_iff.1 hc5)).trans ((if_neg (Bool.eq_false_iff.1 hc7)).trans ((if_neg (Bool.eq_false_iff.1 hr)).trans (if_neg (Bool.eq_false_iff.1 hc10))))))))
                exact ⟨by rw [e], hw.keep⟩
end Go.Proofs.Ytdeacehacndopaa

namespace Go.Proofs.Ytdeacehacndopaa
open Go.RowKit

theorem ns_eq {x : Instance} {s : Int} (hx : Sq x) (h : 0 ≤ s ∧ s < x.Sats.length) : ns s = ((1 + s.toNat : Nat) : Int) := by
  have := hx.s
  rw [ns, w64_id (by omega)]; omega
theorem nc_eq {x : Instance} {c : Int} (hx : Sq x) (h : 0 ≤ c ∧ c < x.Customers.length) : nc x c = ((1 + x.Sats.length + c.toNat : Nat) : Int) := by
  have := hx.s
  have := hx.u
  rw [nc, w64_id (n := 1 + (x.Sats.length : Int)) (by omega), w64_id (by omega)]; omega
theorem tm_eq {x : Instance} {i j : Nat} {n m : Int} (hi : i < x.Time.length) (hj : j < x.Time[i].length) (hn : n = (i : Int)) (hm : m = (j : Int)) : x.Time[i][j] = tm x n m := by
  subst hn; subst hm
  simp [tm, List.getD, hi, hj]

set_option maxRecDepth 20000 in
theorem fits_spec (y : Plan) (r : HP) (t : Times) (q : HP) (hy : y.Trucks.length ≤ 9223372036854775807 ∧ y.Bikes.length ≤ 9223372036854775807) (he : t.Trucks.length = y.Trucks.length ∧ t.Bikes.length = y.Bikes.length) (sh : Nat → Prop) (w : World) (h : Holds ⟨0, w, [], sh⟩ [] (rP y r (rT t q [])) w) :
    Calls Pr fn_clock_fits #[.agg (cP y r).toArray, .agg (cT t q).toArray] w fun e w' => e = .returned (.bool (fitsF y t)) ∧ Ext w w' := by
  obtain ⟨hy1, hy2⟩ := hy
  obtain ⟨he1, he2⟩ := he
  refine Calls.of_go (args := [_, _]) fn_clock_fits_f rfl rfl rfl h ?_
  refine GoC.seq ?_
  refine GoC.region ?_
  refine GoL.x (op_box rfl rfl) ?_
  rintro _ _ _ ⟨b2, rfl, rfl, rfl⟩
  refine GoL.x (op_box rfl rfl) ?_
  rintro _ _ _ ⟨b3, rfl, rfl, rfl⟩
  refine GoL.q (op_assign rfl) ?_
  refine GoL.nil .next ?_
  refine GoC.seq ?_
  refine GoC.region ?_
  refine GoL.q (op_fieldAddr rfl) ?_
  refine GoL.q (op_load rfl rfl) ?_
  refine GoL.q (op_len rfl) ?_
  refine GoL.q (op_fieldAddr rfl) ?_
  refine GoL.q (op_load rfl rfl) ?_
  refine GoL.q (op_len rfl) ?_
  refine GoL.q (op_eql rfl rfl) ?_
  refine GoL.q (op_move rfl) ?_
  apply GoL.and (m := 7) (x := 24) rfl rfl rfl rfl rfl rfl rfl rfl (Wn.none rfl)
  · intro hg0
    refine GoL.q (op_fieldAddr rfl) ?_ (hg := Wn.some rfl rfl rfl hg0)
    refine GoL.q (op_load rfl rfl) ?_ (hg := Wn.some rfl rfl rfl hg0)
    refine GoL.q (op_len rfl) ?_ (hg := Wn.some rfl rfl rfl hg0)
    refine GoL.q (op_fieldAddr rfl) ?_ (hg := Wn.some rfl rfl rfl hg0)
    refine GoL.q (op_load rfl rfl) ?_ (hg := Wn.some rfl rfl rfl hg0)
    refine GoL.q (op_len rfl) ?_ (hg := Wn.some rfl rfl rfl hg0)
    refine GoL.q (op_eql rfl rfl) ?_ (hg := Wn.some rfl rfl rfl hg0)
    exact GoL.part (k := 7) rfl rfl rfl
  refine GoL.q (op_assign rfl) ?_
  refine GoL.nil .next ?_
  refine GoC.seq ?_
  refine GoC.seq ?_
  refine GoC.region ?_
  refine GoL.q (op_fieldAddr rfl) ?_
  refine GoL.q (op_load rfl rfl) ?_
  refine GoL.q (op_len rfl) ?_
  refine GoL.q (op_move rfl) ?_
  refine GoL.nil .next ?_
  refine GoC.block ?_
  refine GoC.loop (σ := Nat × Bool) (fun s => [(29, .int .i64 (s.1 : Int)), (5, .bool s.2)]) [(2, _), (3, _), (27, _), (28, _)] (fun s => _) (fun s => _) (fun s => s.1 ≤ y.Trucks.length ∧ fitT (y.Trucks.drop s.1) (t.Trucks.drop s.1) s.2 = fitT y.Trucks t.Trucks true) (fun s => y.Trucks.length - s.1) (0, _) ⟨by simp, by simp [he1, he2]⟩ ⟨rfl, rfl, rfl, rfl, rfl, rfl, trivial⟩ (fun _ h => h) ?_
  intro s ⟨hs1, hs2⟩
  refine GoC.seq ?_
  refine GoC.region ?_
  refine GoL.q (op_lss rfl rfl) ?_
  refine GoL.nil .next ?_
  refine GoC.seq ?_
  refine GoC.cond rfl (fun hc1 => ?_) (fun hc1 => ?_)
  · have hlt : s.1 < y.Trucks.length := by simpa using hc1
    refine GoC.skipTo .next ?_
    refine GoC.seq ?_
    refine GoC.block ?_
    refine GoC.seq ?_
    have hltm : s.1 < t.Trucks.length := by omega
    refine GoC.openR (n := 1) r.t.1 s.1 hlt (fun q1 hq => ?_)
    refine GoC.openR (n := 1) q.t.1 s.1 hltm (fun q2 hq2 => ?_)
    refine GoC.region ?_
    refine GoL.q (op_move rfl) ?_
    refine GoL.q (op_indexR rfl rfl rfl (by first | assumption | omega)) ?_
    refine GoL.q (op_loadEA rfl rfl) ?_
    refine GoL.x (op_alloc) ?_
    rintro _ _ _ ⟨b7, rfl, rfl, rfl⟩
    refine GoL.q (op_assign rfl) ?_
    refine GoL.y0 (op_store rfl rfl rfl rfl (by simp [Value.oneCell']) (Nat.le_of_ble_eq_true rfl) rfl) ?_
    rintro _ _ _ ⟨rfl, rfl, rfl⟩
    refine GoL.nil .next ?_
    refine GoC.draw 13 [] [0, 1, 2, 3, 4, 5, 6, 7, 8, 9, 10, 11, 12] (by kernel_rfl) Pr_mixed ?_
    refine Can.q rfl (op_move rfl) ?_
    refine Can.q rfl (op_move rfl) ?_
    apply Can.and (x := 45) (l1 := [2, 3, 4, 5, 6, 7, 8, 9, 10, 11]) rfl rfl rfl rfl rfl rfl rfl rfl rfl (Wn.none rfl)
    · intro hg2 r' k'
      refine Can.q rfl (op_fieldAddr rfl) ?_ (hw := Wn.some rfl rfl rfl hg2)
      refine Can.q rfl (op_load rfl rfl) ?_ (hw := Wn.some rfl rfl rfl hg2)
      refine Can.q rfl (op_move rfl) ?_ (hw := Wn.some rfl rfl rfl hg2)
      refine Can.q rfl (op_indexR rfl rfl rfl (by first | assumption | omega)) ?_ (hw := Wn.some rfl rfl rfl hg2)
      refine Can.q rfl (op_loadE rfl rfl) ?_ (hw := Wn.some rfl rfl rfl hg2)
      refine Can.q rfl (op_len rfl) ?_ (hw := Wn.some rfl rfl rfl hg2)
      refine Can.q rfl (op_fieldAddr rfl) ?_ (hw := Wn.some rfl rfl rfl hg2)
      refine Can.q rfl (op_load rfl rfl) ?_ (hw := Wn.some rfl rfl rfl hg2)
      refine Can.q rfl (op_len rfl) ?_ (hw := Wn.some rfl rfl rfl hg2)
      refine Can.q rfl (op_eql rfl rfl) ?_ (hw := Wn.some rfl rfl rfl hg2)
      exact k' _ (Le.part (k := 10) rfl rfl rfl)
    refine Can.nil rfl ?_
    refine GoL.q (op_assign rfl) ?_
    refine GoL.nil (.blockNormal (.next)) ?_
    refine GoC.region ?_
    refine GoL.q (op_inc rfl (by omega)) ?_
    refine GoL.q (op_move rfl) ?_
    exact GoL.again (s.1 + 1, _) ⟨by omega, by rw [List.drop_eq_getElem_cons hlt, List.drop_eq_getElem_cons hltm, fitT] at hs2; exact hs2⟩ (by simp only; omega) ⟨rfl, rfl, rfl, rfl, rfl, rfl, trivial⟩
  · have hge : y.Trucks.length ≤ s.1 := by simpa using hc1
    refine GoC.exit (.thenExit (.thenExit (.blockSame (.next)))) ?_
    refine GoC.seq ?_
    refine GoC.seq ?_
    refine GoC.region ?_
    refine GoL.q (op_fieldAddr rfl) ?_
    refine GoL.q (op_load rfl rfl) ?_
    refine GoL.q (op_len rfl) ?_
    refine GoL.q (op_move rfl) ?_
    refine GoL.nil .next ?_
    refine GoC.block ?_
    refine GoC.loop (σ := Nat × Bool) (fun u => [(51, .int .i64 (u.1 : Int)), (5, .bool u.2)]) [(3, _), (49, _), (50, _)] (fun u => _) (fun u => _) (fun u => u.1 ≤ y.Bikes.length ∧ fitK (y.Bikes.drop u.1) (t.Bikes.drop u.1) u.2 = fitsF y t) (fun u => y.Bikes.length - u.1) (0, _) ⟨by simp, by rw [List.drop_of_length_le hge, fitT] at hs2; simp [fitsF, hs2]⟩ ⟨rfl, rfl, rfl, rfl, rfl, trivial⟩ (fun _ h => h) ?_
    intro u ⟨hu1, hu2⟩
    refine GoC.seq ?_
    refine GoC.region ?_
    refine GoL.q (op_lss rfl rfl) ?_
    refine GoL.nil .next ?_
    refine GoC.seq ?_
    refine GoC.cond rfl (fun hc3 => ?_) (fun hc3 => ?_)
    · have hlt2 : u.1 < y.Bikes.length := by simpa using hc3
      refine GoC.skipTo .next ?_
      refine GoC.seq ?_
      refine GoC.block ?_
      refine GoC.seq ?_
      have hltm : u.1 < t.Bikes.length := by omega
      refine GoC.openR (n := 2) r.b.1 u.1 hlt2 (fun q1 hq => ?_)
      refine GoC.openR (n := 3) q.b.1 u.1 hltm (fun q2 hq2 => ?_)
      refine GoC.region ?_
      refine GoL.q (op_move rfl) ?_
      refine GoL.q (op_indexR rfl rfl rfl (by first | assumption | omega)) ?_
      refine GoL.q (op_loadEA rfl rfl) ?_
      refine GoL.x (op_alloc) ?_
      rintro _ _ _ ⟨b9, rfl, rfl, rfl⟩
      refine GoL.q (op_assign rfl) ?_
      refine GoL.y0 (op_store rfl rfl rfl rfl (by simp [Value.oneCell']) (Nat.le_of_ble_eq_true rfl) rfl) ?_
      rintro _ _ _ ⟨rfl, rfl, rfl⟩
      refine GoL.nil .next ?_
      refine GoC.draw 14 [] [0, 1, 2, 3, 4, 5, 6, 7, 8, 9, 10, 11, 12, 13] (by kernel_rfl) Pr_mixed ?_
      refine Can.q rfl (op_move rfl) ?_
      refine Can.q rfl (op_move rfl) ?_
      apply Can.and (x := 68) (l1 := [2, 3, 4, 5, 6, 7, 8, 9, 10, 11, 12]) rfl rfl rfl rfl rfl rfl rfl rfl rfl (Wn.none rfl)
      · intro hg4 r' k'
        refine Can.q rfl (op_fieldAddr rfl) ?_ (hw := Wn.some rfl rfl rfl hg4)
        refine Can.q rfl (op_load rfl rfl) ?_ (hw := Wn.some rfl rfl rfl hg4)
        refine Can.q rfl (op_move rfl) ?_ (hw := Wn.some rfl rfl rfl hg4)
        refine Can.q rfl (op_indexR rfl rfl rfl (by first | assumption | omega)) ?_ (hw := Wn.some rfl rfl rfl hg4)
        refine Can.q rfl (op_fieldAddrE rfl) ?_ (hw := Wn.some rfl rfl rfl hg4)
        refine Can.q rfl (op_loadF rfl rfl) ?_ (hw := Wn.some rfl rfl rfl hg4)
        refine Can.q rfl (op_len rfl) ?_ (hw := Wn.some rfl rfl rfl hg4)
        refine Can.q rfl (op_fieldAddr rfl) ?_ (hw := Wn.some rfl rfl rfl hg4)
        refine Can.q rfl (op_load rfl rfl) ?_ (hw := Wn.some rfl rfl rfl hg4)
        refine Can.q rfl (op_len rfl) ?_ (hw := Wn.some rfl rfl rfl hg4)
        refine Can.q rfl (op_eql rfl rfl) ?_ (hw := Wn.some rfl rfl rfl hg4)
        exact k' _ (Le.part (k := 11) rfl rfl rfl)
      refine Can.nil rfl ?_
      refine GoL.q (op_assign rfl) ?_
      refine GoL.nil (.blockNormal (.next)) ?_
      refine GoC.region ?_
      refine GoL.q (op_inc rfl (by omega)) ?_
      refine GoL.q (op_move rfl) ?_
      exact GoL.again (u.1 + 1, _) ⟨by omega, by rw [List.drop_eq_getElem_cons hlt2, List.drop_eq_getElem_cons hltm, fitK] at hu2; exact hu2⟩ (by simp only; omega) ⟨rfl, rfl, rfl, rfl, rfl, trivial⟩
    · have hge2 : y.Bikes.length ≤ u.1 := by simpa using hc3
      refine GoC.exit (.thenExit (.thenExit (.blockSame (.next)))) ?_
      refine GoC.seq ?_
      refine GoC.region ?_
      refine GoL.q (op_move rfl) ?_
      refine GoL.q (op_assign rfl) ?_
      refine GoL.nil .next ?_
      refine GoC.ret .here ?_
      refine done1 rfl rfl ?_
      intro w' hw
      have e : fitsF y t = u.2 := by rw [← hu2, List.drop_of_length_le hge2, fitK]
      exact ⟨by rw [e], hw.keep⟩
set_option maxRecDepth 20000 in
theorem truck_spec (x : Instance) (p : HI) (hI : OkI x) (hx : Sq x) (k : Truck) (q : Hdr) (l rd : List Int) (al ar : Option Addr) (cl cr : Nat) (hk : k.Stops.length ≤ 9223372036854775807) (hst : ∀ s ∈ k.Stops, 0 ≤ s.Sat ∧ s.Sat < x.Sats.length) (hl : l.length = k.Stops.length) (hr : rd.length = x.Sats.length)
    (sh : Nat → Prop) (w : World) (h : Holds ⟨0, w, fps [own ty_i64 t64 ar cr rd], sh⟩ [own ty_i64 t64 ar cr rd] (rI x p [ro tStop q.1 q.2 k.Stops, ro t64 al cl l]) w) :
    Calls Pr fn_clock_truck #[.agg (cI x p).toArray, .agg #[.slice q.1 k.Stops.length q.2], .slice al l.length cl, .slice ar x.Sats.length cr] w fun e w' => ∃ _ : Unit, e = .returned (.bool (truckF x k.Stops l 0 0 rd).1) ∧ Holds ⟨0, w, fps [own ty_i64 t64 ar cr rd], sh⟩ [own ty_i64 t64 ar cr (truckF x k.Stops l 0 0 rd).2] [] w' := by
  have hx1 := hx.s
  have hx2 := hx.u
  have hxn := hx.n
  refine Calls.of_go (args := [_, _, _, _]) fn_clock_truck_f rfl rfl rfl h ?_
  refine GoC.seq ?_
  refine GoC.region ?_
  refine GoL.x (op_box rfl rfl) ?_
  rintro _ _ _ ⟨b4, rfl, rfl, rfl⟩
  refine GoL.x (op_box rfl rfl) ?_
  rintro _ _ _ ⟨b5, rfl, rfl, rfl⟩
  refine GoL.q (op_assign rfl) ?_
  refine GoL.nil .next ?_
  refine GoC.seq ?_
  refine GoC.region ?_
  refine GoL.q (op_assign rfl) ?_
  refine GoL.q (op_assign rfl) ?_
  refine GoL.nil .next ?_
  refine GoC.seq ?_
  refine GoC.seq ?_
  refine GoC.region ?_
  refine GoL.q (op_fieldAddr rfl) ?_
  refine GoL.q (op_load rfl rfl) ?_
  refine GoL.q (op_len rfl) ?_
  refine GoL.q (op_move rfl) ?_
  refine GoL.nil .next ?_
  refine GoC.block ?_
  refine GoC.loop (σ := Nat × Int × Int × List Int) (fun s => [(16, .int .i64 (s.1 : Int)), (9, .int .i64 s.2.1), (10, .int .i64 s.2.2.1)]) [(2, _), (3, _), (4, _), (14, _), (15, _)] (fun s => [cel b5 82 [.slice q.1 k.Stops.length q.2], cel b4 40 (cI x p), own ty_i64 t64 ar cr s.2.2.2]) (fun s => _) (fun s => s.1 ≤ k.Stops.length ∧ (0 ≤ s.2.2.1 ∧ s.2.2.1 < x.Time.length ∧ s.2.2.2.length = x.Sats.length ∧ truckF x (k.Stops.drop s.1) (l.drop s.1) s.2.1 s.2.2.1 s.2.2.2 = truckF x k.Stops l 0 0 rd)) (fun s => k.Stops.length - s.1) (0, 0, 0, rd) ⟨by simp, by simp, by simp; omega, hr, rfl⟩ ⟨rfl, rfl, rfl, rfl, rfl, rfl, rfl, rfl, trivial⟩ (fun _ h => h) ?_
  intro s ⟨hs1, hs2⟩
  refine GoC.seq ?_
  refine GoC.region ?_
  refine GoL.q (op_lss rfl rfl) ?_
  refine GoL.nil .next ?_
  refine GoC.seq ?_
  refine GoC.cond rfl (fun hc0 => ?_) (fun hc0 => ?_)
  · have hlt : s.1 < k.Stops.length := by simpa using hc0
    refine GoC.skipTo .next ?_
    refine GoC.seq ?_
    refine GoC.block ?_
    refine GoC.seq ?_
    have hltm : s.1 < l.length := by omega
    have hcc := hst _ (List.getElem_mem hlt)
    refine GoC.openR (n := 2) q.1 s.1 hlt (fun q1 hq => ?_)
    refine GoC.openR (n := 1) al s.1 hltm (fun q2 hq2 => ?_)
    have hn1 : s.2.2.1.toNat < x.Time.length := by omega
    refine GoC.openR (n := 1) p.t.1 s.2.2.1.toNat hn1 (fun q3 hq3 => ?_)
    have hn2 : 1 + k.Stops[s.1].Sat.toNat < x.Time[s.2.2.1.toNat].length := by rw [hx.r]; omega
    refine GoC.openR (n := 1) q3.1 (1 + k.Stops[s.1].Sat.toNat) hn2 (fun q4 hq4 => ?_)
    have hn3 : k.Stops[s.1].Sat.toNat < s.2.2.2.length := by omega
    have hn4 : k.Stops[s.1].Sat.toNat < x.Sats.length := by omega
    refine GoC.openR (n := 2) p.s.1 k.Stops[s.1].Sat.toNat hn4 (fun q5 hq5 => ?_)
    refine GoC.own64 ar (fun hrd => ?_)
    have htm := tm_eq hn1 hn2 (Int.toNat_of_nonneg hs2.1).symm (ns_eq hx hcc)
    have hns0 : 0 ≤ ns k.Stops[s.1].Sat := by rw [ns_eq hx hcc]; omega
    have hns1 : ns k.Stops[s.1].Sat < x.Time.length := by rw [ns_eq hx hcc]; omega
    refine GoC.region ?_
    refine GoL.q (op_move rfl) ?_
    refine GoL.q (op_indexR rfl rfl rfl (by first | assumption | omega)) ?_
    refine GoL.q (op_loadEA rfl rfl) ?_
    refine GoL.x (op_alloc) ?_
    rintro _ _ _ ⟨b12, rfl, rfl, rfl⟩
    refine GoL.q (op_assign rfl) ?_
    refine GoL.y0 (op_store rfl rfl rfl rfl (by simp [Value.oneCell']) (Nat.le_of_ble_eq_true rfl) rfl) ?_
    rintro _ _ _ ⟨rfl, rfl, rfl⟩
    refine GoL.nil .next ?_
    refine GoC.seq ?_
    refine GoC.seq ?_
    refine GoC.draw 19 [] [0, 1, 2, 3, 4, 5, 6, 7, 8, 9, 10, 11, 12, 13, 14, 15, 16, 17, 18] (by kernel_rfl) Pr_mixed ?_
    refine Can.q rfl (op_move rfl) ?_
    refine Can.q rfl (op_move rfl) ?_
    refine Can.q rfl (op_indexR rfl rfl rfl hltm) ?_
    refine Can.q rfl (op_loadE rfl rfl) ?_
    refine Can.q rfl (op_move rfl) ?_
    refine Can.q rfl (op_fieldAddr rfl) ?_
    refine Can.q rfl (op_load rfl rfl) ?_
    refine Can.q rfl (op_move rfl) ?_
    refine Can.q rfl (op_indexR rfl rfl (Int.toNat_of_nonneg hs2.1).symm hn1) ?_
    refine Can.q rfl (op_loadE rfl rfl) ?_
    refine Can.q rfl (op_loadA rfl rfl rfl) ?_
    refine Can.q rfl (op_fieldAddr rfl) ?_
    refine Can.q rfl (op_load rfl rfl) ?_
    refine Can.p rfl (op_callP rfl fun w _ => sat_spec (cI x p) _ w) ?_
    refine Can.q rfl (op_indexR rfl rfl (ns_eq hx hcc) hn2) ?_
    refine Can.q rfl (op_loadE rfl rfl) ?_
    refine Can.q rfl (op_add rfl rfl) ?_
    refine Can.q rfl (op_fieldAddr rfl) ?_
    refine Can.q rfl (op_load rfl rfl) ?_
    refine Can.nil rfl ?_
    refine GoL.p (op_callP rfl fun w _ => between_spec _ _ _ w) ?_
    refine GoL.q (op_not rfl) ?_
    refine GoL.nil .next ?_
    refine GoC.sub (E' := [(16, _), (9, _), (10, _), (2, _), (3, _), (4, _), (14, _), (15, _), (12, _), (11, _), (41, _)]) ⟨rfl, rfl, rfl, rfl, rfl, rfl, rfl, rfl, rfl, rfl, rfl, trivial⟩ ?_
    refine GoC.cond rfl (fun hc1 => ?_) (fun hc1 => ?_)
    · refine GoC.seq ?_
      refine GoC.region ?_
      refine GoL.q (op_assign rfl) ?_
      refine GoL.nil .next ?_
      refine GoC.ret (.thenRet (.blockRet (.thenRet (.thenRet (.blockRet (.thenRet (.here))))))) ?_
      refine done1 rfl rfl ?_
      intro w' hw
      have e : truckF x k.Stops l 0 0 rd = (false, s.2.2.2) := by rw [← hs2.2.2.2, List.drop_eq_getElem_cons hlt, List.drop_eq_getElem_cons hltm, truckF, ← htm]; exact if_pos hc1
      rw [e]
      exact ⟨(), rfl, hw.n.drop (SubL.sub) (by simp)⟩
    · refine GoC.skipTo .next ?_
      refine GoC.seq ?_
      refine GoC.draw 8 [] [0, 1, 2, 3, 4, 5, 6, 7] (by kernel_rfl) Pr_mixed ?_
      refine Can.q rfl (op_move rfl) ?_
      refine Can.q rfl (op_move rfl) ?_
      refine Can.q rfl (op_indexR rfl rfl rfl hltm) ?_
      refine Can.q rfl (op_loadE rfl rfl) ?_
      refine Can.q rfl (op_loadA rfl rfl rfl) ?_
      refine Can.q rfl (op_fieldAddr rfl) ?_
      refine Can.q rfl (op_load rfl rfl) ?_
      refine Can.p rfl (op_callP rfl fun w _ => sat_spec (cI x p) _ w) ?_
      refine Can.nil rfl ?_
      refine GoL.q (op_assign rfl) ?_
      refine GoL.q (op_assign rfl) ?_
      refine GoL.nil .next ?_
      refine GoC.draw 18 [] [0, 1, 2, 3, 4, 5, 6, 7, 8, 9, 10, 11, 12, 13, 14, 15, 16, 17] (by kernel_rfl) Pr_mixed ?_
      refine Can.q rfl (op_move rfl) ?_
      refine Can.q rfl (op_fieldAddr rfl) ?_
      refine Can.q rfl (op_load rfl rfl) ?_
      refine Can.q rfl (op_move rfl) ?_
      refine Can.q rfl (op_fieldAddr rfl) ?_
      refine Can.q rfl (op_load rfl rfl) ?_
      refine Can.q rfl (op_indexO rfl rfl (Int.toNat_of_nonneg hcc.1).symm hn3 (by first | rfl | omega)) ?_
      refine Can.q rfl (op_loadO rfl (by intro _ _ _ _ h; exact h.1) (by first | assumption | omega) rfl) ?_
      refine Can.q rfl (op_move rfl) ?_
      refine Can.q rfl (op_fieldAddr rfl) ?_
      refine Can.q rfl (op_load rfl rfl) ?_
      refine Can.q rfl (op_fieldAddr rfl) ?_
      refine Can.q rfl (op_load rfl rfl) ?_
      refine Can.q rfl (op_indexR rfl rfl (Int.toNat_of_nonneg hcc.1).symm hn4) ?_
      refine Can.q rfl (op_fieldAddrE rfl) ?_
      refine Can.q rfl (op_loadF rfl rfl) ?_
      refine Can.q rfl (op_add rfl rfl) ?_
      refine Can.q rfl (op_max rfl rfl) ?_
      refine Can.nil rfl ?_
      refine GoL.q (op_indexO rfl rfl (Int.toNat_of_nonneg hcc.1).symm hn3 (by first | rfl | omega)) ?_
      refine GoL.y0 (op_storeO (xv := max s.2.2.2[k.Stops[s.1].Sat.toNat] (w64 (l[s.1] + x.Sats[k.Stops[s.1].Sat.toNat].Hold))) rfl rfl hn3 (by intro _ _; exact ⟨rfl, i64_max (hrd _ (List.getElem_mem _)) (w64_i _)⟩)) ?_
      rintro _ _ _ ⟨rfl, rfl, rfl⟩
      refine GoL.nil (.blockNormal (.next)) ?_
      refine GoC.sub (E' := [(16, _), (9, _), (10, _), (2, _), (3, _), (4, _), (14, _), (15, _)]) ⟨rfl, rfl, rfl, rfl, rfl, rfl, rfl, rfl, trivial⟩ ?_
      refine GoC.region ?_
      refine GoL.q (op_inc rfl (by omega)) ?_
      refine GoL.q (op_move rfl) ?_
      exact GoL.again (s.1 + 1, l[s.1], ns k.Stops[s.1].Sat, s.2.2.2.set k.Stops[s.1].Sat.toNat (max s.2.2.2[k.Stops[s.1].Sat.toNat] (w64 (l[s.1] + x.Sats[k.Stops[s.1].Sat.toNat].Hold)))) ⟨by omega, hns0, hns1, by simpa using hs2.2.2.1, by have h5 := hs2.2.2.2; rw [List.drop_eq_getElem_cons hlt, List.drop_eq_getElem_cons hltm, truckF, ← htm, holdOf, getD_lt _ hn3, getD_lt _ hn4] at h5; exact (if_neg (Bool.eq_false_iff.1 hc1)).symm.trans h5⟩ (by simp only; omega) ⟨rfl, rfl, rfl, rfl, rfl, rfl, rfl, rfl, trivial⟩
  · have hge : k.Stops.length ≤ s.1 := by simpa using hc0
    refine GoC.exit (.thenExit (.thenExit (.blockSame (.next)))) ?_
    refine GoC.seq ?_
    have hn1 : s.2.2.1.toNat < x.Time.length := by omega
    refine GoC.openR (n := 1) p.t.1 s.2.2.1.toNat hn1 (fun q3 hq3 => ?_)
    have hn2 : 0 < x.Time[s.2.2.1.toNat].length := by rw [hx.r]; omega
    refine GoC.openR (n := 1) q3.1 0 hn2 (fun q4 hq4 => ?_)
    have htm := tm_eq hn1 hn2 (Int.toNat_of_nonneg hs2.1).symm (rfl : (0 : Int) = ((0 : Nat) : Int))
    refine GoC.draw 11 [] [0, 1, 2, 3, 4, 5, 6, 7, 8, 9, 10] (by kernel_rfl) Pr_mixed ?_
    refine Can.q rfl (op_move rfl) ?_
    refine Can.q rfl (op_fieldAddr rfl) ?_
    refine Can.q rfl (op_load rfl rfl) ?_
    refine Can.q rfl (op_move rfl) ?_
    refine Can.q rfl (op_indexR rfl rfl (Int.toNat_of_nonneg hs2.1).symm hn1) ?_
    refine Can.q rfl (op_loadE rfl rfl) ?_
    refine Can.q rfl (op_indexR rfl rfl (k := 0) rfl hn2) ?_
    refine Can.q rfl (op_loadE rfl rfl) ?_
    refine Can.q rfl (op_add rfl rfl) ?_
    refine Can.q rfl (op_fieldAddr rfl) ?_
    refine Can.q rfl (op_load rfl rfl) ?_
    refine Can.nil rfl ?_
    refine GoL.q (op_leq rfl rfl) ?_
    refine GoL.q (op_assign rfl) ?_
    refine GoL.nil .next ?_
    refine GoC.ret .here ?_
    refine done1 rfl rfl ?_
    intro w' hw
    have e : truckF x k.Stops l 0 0 rd = (decide (w64 (s.2.1 + x.Time[s.2.2.1.toNat][0]) ≤ x.End), s.2.2.2) := by rw [← hs2.2.2.2, List.drop_of_length_le hge, truckF, ← htm]
    rw [e]
    exact ⟨(), rfl, hw.n.drop (SubL.sub) (by simp)⟩
end Go.Proofs.Ytdeacehacndopaa

namespace Go.Proofs.Ytdeacehacndopaa
open Go.RowKit

set_option maxRecDepth 20000 in
theorem bike_spec (x : Instance) (p : HI) (hI : OkI x) (hx : Sq x) (b : Bike) (q : Hdr) (t : Ride) (qt : Hdr) (rd : List Int) (ar : Option Addr) (cr : Nat) (hk : b.Stops.length ≤ 9223372036854775807) (hb : 0 ≤ b.Sat ∧ b.Sat < x.Sats.length) (hst : ∀ c ∈ b.Stops, 0 ≤ c ∧ c < x.Customers.length) (hl : t.Starts.length = b.Stops.length) (hr : rd.length = x.Sats.length)
    (sh : Nat → Prop) (w : World) (h : Holds ⟨0, w, [], sh⟩ [] (rI x p [ro t64 q.1 q.2 b.Stops, ro t64 qt.1 qt.2 t.Starts, ro t64 ar cr rd]) w) :
    Calls Pr fn_clock_bike #[.agg (cI x p).toArray, .agg #[.int .i64 b.Sat, .slice q.1 b.Stops.length q.2], .agg #[.int .i64 t.Out, .slice qt.1 t.Starts.length qt.2, .int .i64 t.Back], .slice ar x.Sats.length cr] w fun e w' => e = .returned (.bool (bikeF x b t rd)) ∧ Ext w w' := by
  have hx1 := hx.s
  have hx2 := hx.u
  have hxn := hx.n
  have hn0 : b.Sat.toNat < rd.length := by omega
  have hns0 : 0 ≤ ns b.Sat := by rw [ns_eq hx hb]; omega
  have hns1 : ns b.Sat < x.Time.length := by rw [ns_eq hx hb]; omega
  have hra : Value.slice ar x.Sats.length cr = .slice ar rd.length cr := by rw [hr]
  rw [hra]
  refine Calls.of_go (args := [_, _, _, _]) fn_clock_bike_f rfl rfl rfl h ?_
  refine GoC.openR (n := 1) ar b.Sat.toNat hn0 (fun q0 hq0 => ?_)
  have hrd : rd[b.Sat.toNat] = rd.getD b.Sat.toNat 0 := (getD_lt _ hn0).symm
  refine GoC.seq ?_
  refine GoC.region ?_
  refine GoL.x (op_box rfl rfl) ?_
  rintro _ _ _ ⟨b4, rfl, rfl, rfl⟩
  refine GoL.x (op_box rfl rfl) ?_
  rintro _ _ _ ⟨b5, rfl, rfl, rfl⟩
  refine GoL.x (op_box rfl rfl) ?_
  rintro _ _ _ ⟨b6, rfl, rfl, rfl⟩
  refine GoL.q (op_assign rfl) ?_
  refine GoL.nil .next ?_
  refine GoC.seq ?_
  refine GoC.seq ?_
  refine GoC.draw 9 [] [0, 1, 2, 3, 4, 5, 6, 7, 8] (by kernel_rfl) Pr_mixed ?_
  refine Can.q rfl (op_fieldAddr rfl) ?_
  refine Can.q rfl (op_load rfl rfl) ?_
  refine Can.q rfl (op_move rfl) ?_
  refine Can.q rfl (op_fieldAddr rfl) ?_
  refine Can.q rfl (op_load rfl rfl) ?_
  refine Can.q rfl (op_indexR rfl rfl (Int.toNat_of_nonneg hb.1).symm hn0) ?_
  refine Can.q rfl (op_loadE rfl rfl) ?_
  refine Can.q rfl (op_fieldAddr rfl) ?_
  refine Can.q rfl (op_load rfl rfl) ?_
  refine Can.nil rfl ?_
  refine GoL.p (op_callP rfl fun w _ => between_spec _ _ _ w) ?_
  refine GoL.q (op_not rfl) ?_
  refine GoL.nil .next ?_
  refine GoC.cond rfl (fun hc0 => ?_) (fun hc0 => ?_)
  · refine GoC.seq ?_
    refine GoC.region ?_
    refine GoL.q (op_assign rfl) ?_
    refine GoL.nil .next ?_
    refine GoC.ret (.thenRet (.here)) ?_
    refine done1 rfl rfl ?_
    intro w' hw
    have e : bikeF x b t rd = false := by rw [bikeF, ← hrd]; exact if_pos hc0
    exact ⟨by rw [e], hw.keep⟩
  · refine GoC.skipTo .next ?_
    refine GoC.seq ?_
    refine GoC.draw 6 [] [0, 1, 2, 3, 4, 5] (by kernel_rfl) Pr_mixed ?_
    refine Can.q rfl (op_fieldAddr rfl) ?_
    refine Can.q rfl (op_load rfl rfl) ?_
    refine Can.q rfl (op_loadA rfl rfl rfl) ?_
    refine Can.q rfl (op_fieldAddr rfl) ?_
    refine Can.q rfl (op_load rfl rfl) ?_
    refine Can.p rfl (op_callP rfl fun w _ => sat_spec (cI x p) _ w) ?_
    refine Can.nil rfl ?_
    refine GoL.q (op_assign rfl) ?_
    refine GoL.q (op_assign rfl) ?_
    refine GoL.nil .next ?_
    refine GoC.seq ?_
    refine GoC.seq ?_
    refine GoC.region ?_
    refine GoL.q (op_fieldAddr rfl) ?_
    refine GoL.q (op_load rfl rfl) ?_
    refine GoL.q (op_len rfl) ?_
    refine GoL.q (op_move rfl) ?_
    refine GoL.nil .next ?_
    refine GoC.sub (E' := [(4, _), (5, _), (6, _), (8, _), (9, _), (10, _), (32, _), (33, _), (34, _)]) ⟨rfl, rfl, rfl, rfl, rfl, rfl, rfl, rfl, rfl, trivial⟩ ?_
    refine GoC.block ?_
    refine GoC.loop (σ := Nat × Int × Int) (fun s => [(34, .int .i64 (s.1 : Int)), (9, .int .i64 s.2.1), (10, .int .i64 s.2.2)]) [(4, _), (5, _), (6, _), (32, _), (33, _)] (fun s => _) (fun s => _) (fun s => s.1 ≤ b.Stops.length ∧ (0 ≤ s.2.2 ∧ s.2.2 < x.Time.length ∧ bikeL x b.Sat t.Back (b.Stops.drop s.1) (t.Starts.drop s.1) s.2.1 s.2.2 = bikeL x b.Sat t.Back b.Stops t.Starts t.Out (ns b.Sat))) (fun s => b.Stops.length - s.1) (0, t.Out, ns b.Sat) ⟨by simp, hns0, hns1, rfl⟩ ⟨rfl, rfl, rfl, rfl, rfl, rfl, rfl, rfl, trivial⟩ (fun _ h => h) ?_
    intro s ⟨hs1, hs2⟩
    refine GoC.seq ?_
    refine GoC.region ?_
    refine GoL.q (op_lss rfl rfl) ?_
    refine GoL.nil .next ?_
    refine GoC.seq ?_
    refine GoC.cond rfl (fun hc1 => ?_) (fun hc1 => ?_)
    · have hlt : s.1 < b.Stops.length := by simpa using hc1
      refine GoC.skipTo .next ?_
      refine GoC.seq ?_
      refine GoC.block ?_
      refine GoC.seq ?_
      have hltm : s.1 < t.Starts.length := by omega
      have hcc := hst _ (List.getElem_mem hlt)
      refine GoC.openR (n := 1) q.1 s.1 hlt (fun q1 hq => ?_)
      refine GoC.openR (n := 1) qt.1 s.1 hltm (fun q2 hq2 => ?_)
      have hn1 : s.2.2.toNat < x.Time.length := by omega
      refine GoC.openR (n := 1) p.t.1 s.2.2.toNat hn1 (fun q3 hq3 => ?_)
      have hn2 : 1 + x.Sats.length + b.Stops[s.1].toNat < x.Time[s.2.2.toNat].length := by rw [hx.r]; omega
      refine GoC.openR (n := 1) q3.1 (1 + x.Sats.length + b.Stops[s.1].toNat) hn2 (fun q4 hq4 => ?_)
      have hn4 : b.Stops[s.1].toNat < x.Customers.length := by omega
      refine GoC.openR (n := 4) p.u.1 b.Stops[s.1].toNat hn4 (fun q5 hq5 => ?_)
      have htm := tm_eq hn1 hn2 (Int.toNat_of_nonneg hs2.1).symm (nc_eq hx hcc)
      have hcu : x.Customers[b.Stops[s.1].toNat] = custOf x b.Stops[s.1] := (getD_lt _ hn4).symm
      have hnc0 : 0 ≤ nc x b.Stops[s.1] := by rw [nc_eq hx hcc]; omega
      have hnc1 : nc x b.Stops[s.1] < x.Time.length := by rw [nc_eq hx hcc]; omega
      refine GoC.region ?_
      refine GoL.q (op_move rfl) ?_
      refine GoL.q (op_indexR rfl rfl rfl (by first | assumption | omega)) ?_
      refine GoL.q (op_loadE rfl rfl) ?_
      refine GoL.q (op_assign rfl) ?_
      refine GoL.q (op_assign rfl) ?_
      refine GoL.nil .next ?_
      refine GoC.seq ?_
      refine GoC.region ?_
      refine GoL.q (op_fieldAddr rfl) ?_
      refine GoL.q (op_load rfl rfl) ?_
      refine GoL.q (op_move rfl) ?_
      refine GoL.q (op_indexR rfl rfl (Int.toNat_of_nonneg hcc.1).symm hn4) ?_
      refine GoL.q (op_loadEA rfl rfl) ?_
      refine GoL.x (op_alloc) ?_
      rintro _ _ _ ⟨b13, rfl, rfl, rfl⟩
      refine GoL.y0 (op_store rfl rfl rfl rfl (by simp [Value.oneCell']) (Nat.le_of_ble_eq_true rfl) rfl) ?_
      rintro _ _ _ ⟨rfl, rfl, rfl⟩
      refine GoL.nil .next ?_
      refine GoC.seq ?_
      refine GoC.seq ?_
      refine GoC.draw 25 [] [0, 1, 2, 3, 4, 5, 6, 7, 8, 9, 10, 11, 12, 13, 14, 15, 16, 17, 18, 19, 20, 21, 22, 23, 24] (by kernel_rfl) Pr_mixed ?_
      refine Can.q rfl (op_fieldAddr rfl) ?_
      refine Can.q rfl (op_load rfl rfl) ?_
      refine Can.q rfl (op_move rfl) ?_
      refine Can.q rfl (op_indexR rfl rfl rfl hltm) ?_
      refine Can.q rfl (op_loadE rfl rfl) ?_
      refine Can.q rfl (op_fieldAddr rfl) ?_
      refine Can.q rfl (op_load rfl rfl) ?_
      refine Can.q rfl (op_move rfl) ?_
      refine Can.q rfl (op_fieldAddr rfl) ?_
      refine Can.q rfl (op_load rfl rfl) ?_
      refine Can.q rfl (op_move rfl) ?_
      refine Can.q rfl (op_indexR rfl rfl (Int.toNat_of_nonneg hs2.1).symm hn1) ?_
      refine Can.q rfl (op_loadE rfl rfl) ?_
      refine Can.q rfl (op_loadA rfl rfl rfl) ?_
      refine Can.q rfl (op_move rfl) ?_
      refine Can.p rfl (op_callP rfl fun w _ => customer_spec x p _ w) ?_
      refine Can.q rfl (op_indexR rfl rfl (nc_eq hx hcc) hn2) ?_
      refine Can.q rfl (op_loadE rfl rfl) ?_
      refine Can.q rfl (op_add rfl rfl) ?_
      refine Can.q rfl (op_max rfl rfl) ?_
      refine Can.q rfl (op_fieldAddr rfl) ?_
      refine Can.q rfl (op_load rfl rfl) ?_
      refine Can.q rfl (op_fieldAddr rfl) ?_
      refine Can.q rfl (op_load rfl rfl) ?_
      refine Can.q rfl (op_min rfl rfl) ?_
      refine Can.nil rfl ?_
      refine GoL.p (op_callP rfl fun w _ => between_spec _ _ _ w) ?_
      refine GoL.q (op_not rfl) ?_
      refine GoL.nil .next ?_
      refine GoC.sub (E' := [(34, _), (9, _), (10, _), (4, _), (5, _), (6, _), (32, _), (33, _), (11, _), (12, _), (13, _), (70, _)]) ⟨rfl, rfl, rfl, rfl, rfl, rfl, rfl, rfl, rfl, rfl, rfl, rfl, trivial⟩ ?_
      refine GoC.cond rfl (fun hc2 => ?_) (fun hc2 => ?_)
      · refine GoC.seq ?_
        refine GoC.region ?_
        refine GoL.q (op_assign rfl) ?_
        refine GoL.nil .next ?_
        refine GoC.ret (.thenRet (.blockRet (.thenRet (.thenRet (.blockRet (.thenRet (.here))))))) ?_
        refine done1 rfl rfl ?_
        intro w' hw
        have e : bikeF x b t rd = false := by rw [bikeF, ← hrd]; refine (if_neg (Bool.eq_false_iff.1 hc0)).trans ?_; rw [← hs2.2.2, List.drop_eq_getElem_cons hlt, List.drop_eq_getElem_cons hltm, bikeL, ← htm, ← hcu]; exact if_pos hc2
        exact ⟨by rw [e], hw.keep⟩
      · refine GoC.skipTo .next ?_
        refine GoC.draw 11 [] [0, 1, 2, 3, 4, 5, 6, 7, 8, 9, 10] (by kernel_rfl) Pr_mixed ?_
        refine Can.q rfl (op_fieldAddr rfl) ?_
        refine Can.q rfl (op_load rfl rfl) ?_
        refine Can.q rfl (op_move rfl) ?_
        refine Can.q rfl (op_indexR rfl rfl rfl hltm) ?_
        refine Can.q rfl (op_loadE rfl rfl) ?_
        refine Can.q rfl (op_fieldAddr rfl) ?_
        refine Can.q rfl (op_load rfl rfl) ?_
        refine Can.q rfl (op_add rfl rfl) ?_
        refine Can.q rfl (op_loadA rfl rfl rfl) ?_
        refine Can.q rfl (op_move rfl) ?_
        refine Can.p rfl (op_callP rfl fun w _ => customer_spec x p _ w) ?_
        refine Can.nil rfl ?_
        refine GoL.q (op_assign rfl) ?_
        refine GoL.q (op_assign rfl) ?_
        refine GoL.nil (.blockNormal (.next)) ?_
        refine GoC.region ?_
        refine GoL.q (op_inc rfl (by omega)) ?_
        refine GoL.q (op_move rfl) ?_
        exact GoL.again (s.1 + 1, w64 (t.Starts[s.1] + x.Customers[b.Stops[s.1].toNat].Stay), nc x b.Stops[s.1]) ⟨by omega, hnc0, hnc1, by have h5 := hs2.2.2; rw [List.drop_eq_getElem_cons hlt, List.drop_eq_getElem_cons hltm, bikeL, ← htm, ← hcu] at h5; exact (if_neg (Bool.eq_false_iff.1 hc2)).symm.trans h5⟩ (by simp only; omega) ⟨rfl, rfl, rfl, rfl, rfl, rfl, rfl, rfl, trivial⟩
    · have hge : b.Stops.length ≤ s.1 := by simpa using hc1
      refine GoC.exit (.thenExit (.thenExit (.blockSame (.next)))) ?_
      refine GoC.seq ?_
      have hn1 : s.2.2.toNat < x.Time.length := by omega
      refine GoC.openR (n := 1) p.t.1 s.2.2.toNat hn1 (fun q3 hq3 => ?_)
      have hn2 : 1 + b.Sat.toNat < x.Time[s.2.2.toNat].length := by rw [hx.r]; omega
      refine GoC.openR (n := 1) q3.1 (1 + b.Sat.toNat) hn2 (fun q4 hq4 => ?_)
      have htm := tm_eq hn1 hn2 (Int.toNat_of_nonneg hs2.1).symm (ns_eq hx hb)
      refine GoC.draw 17 [] [0, 1, 2, 3, 4, 5, 6, 7, 8, 9, 10, 11, 12, 13, 14, 15, 16] (by kernel_rfl) Pr_mixed ?_
      refine Can.q rfl (op_fieldAddr rfl) ?_
      refine Can.q rfl (op_load rfl rfl) ?_
      refine Can.q rfl (op_move rfl) ?_
      refine Can.q rfl (op_fieldAddr rfl) ?_
      refine Can.q rfl (op_load rfl rfl) ?_
      refine Can.q rfl (op_move rfl) ?_
      refine Can.q rfl (op_indexR rfl rfl (Int.toNat_of_nonneg hs2.1).symm hn1) ?_
      refine Can.q rfl (op_loadE rfl rfl) ?_
      refine Can.q rfl (op_loadA rfl rfl rfl) ?_
      refine Can.q rfl (op_fieldAddr rfl) ?_
      refine Can.q rfl (op_load rfl rfl) ?_
      refine Can.p rfl (op_callP rfl fun w _ => sat_spec (cI x p) _ w) ?_
      refine Can.q rfl (op_indexR rfl rfl (ns_eq hx hb) hn2) ?_
      refine Can.q rfl (op_loadE rfl rfl) ?_
      refine Can.q rfl (op_add rfl rfl) ?_
      refine Can.q rfl (op_fieldAddr rfl) ?_
      refine Can.q rfl (op_load rfl rfl) ?_
      refine Can.nil rfl ?_
      refine GoL.p (op_callP rfl fun w _ => between_spec _ _ _ w) ?_
      refine GoL.q (op_assign rfl) ?_
      refine GoL.nil .next ?_
      refine GoC.ret .here ?_
      refine done1 rfl rfl ?_
      intro w' hw
      have e : bikeF x b t rd = btw t.Back (w64 (s.2.1 + x.Time[s.2.2.toNat][1 + b.Sat.toNat])) x.End := by rw [bikeF, ← hrd]; refine (if_neg (Bool.eq_false_iff.1 hc0)).trans ?_; rw [← hs2.2.2, List.drop_of_length_le hge, bikeL, ← htm]
      exact ⟨by rw [e]; rfl, hw.keep⟩
set_option maxRecDepth 20000 in
theorem clockCheck_spec (x : Instance) (p : HI) (y : Plan) (r : HP) (t : Times) (q : HP) (hI : OkI x) (hy : y.Trucks.length ≤ 9223372036854775807 ∧ y.Bikes.length ≤ 9223372036854775807) (ht : t.Trucks.length ≤ 9223372036854775807 ∧ t.Bikes.length ≤ 9223372036854775807) (sh : Nat → Prop) (w : World) (h : Holds ⟨0, w, [], sh⟩ [] (rT t q (rP y r (rI x p []))) w) :
    Calls Pr fn_clock_Check #[.agg (cI x p).toArray, .agg (cP y r).toArray, .agg (cT t q).toArray] w fun e w' => e = .returned (.int .i64 (clockCheckF x y t)) ∧ Ext w w' := by
  obtain ⟨hy1, hy2⟩ := hy
  obtain ⟨ht1, ht2⟩ := ht
  refine Calls.of_go (args := [_, _, _]) fn_clock_Check_f rfl rfl rfl h ?_
  refine GoC.seq ?_
  refine GoC.region ?_
  refine GoL.x (op_box rfl rfl) ?_
  rintro _ _ _ ⟨b3, rfl, rfl, rfl⟩
  refine GoL.x (op_box rfl rfl) ?_
  rintro _ _ _ ⟨b4, rfl, rfl, rfl⟩
  refine GoL.x (op_box rfl rfl) ?_
  rintro _ _ _ ⟨b5, rfl, rfl, rfl⟩
  refine GoL.q (op_assign rfl) ?_
  refine GoL.nil .next ?_
  refine GoC.seq ?_
  refine GoC.seq ?_
  refine GoC.region ?_
  refine GoL.q (op_loadA rfl rfl rfl) ?_
  refine GoL.q (op_loadA rfl rfl rfl) ?_
  refine GoL.p (op_callV rfl (fun sh w h => planCheck_spec x p y r hI ⟨hy1, hy2⟩ sh w h)) ?_
  refine GoL.q (op_assign rfl) ?_
  refine GoL.nil .next ?_
  refine GoC.seq ?_
  refine GoC.region ?_
  refine GoL.q (op_move rfl) ?_
  refine GoL.q (op_neq rfl rfl) ?_
  refine GoL.nil .next ?_
  refine GoC.cond rfl (fun hc0 => ?_) (fun hc0 => ?_)
  · refine GoC.seq ?_
    refine GoC.region ?_
    refine GoL.q (op_move rfl) ?_
    refine GoL.q (op_assign rfl) ?_
    refine GoL.nil .next ?_
    refine GoC.ret (.thenRet (.here)) ?_
    refine done1 rfl rfl ?_
    intro w' hw
    have e : clockCheckF x y t = planCheckF x y := if_pos hc0
    exact ⟨by rw [e], hw.keep⟩
  · refine GoC.skipTo .next ?_
    refine GoC.seq ?_
    refine GoC.seq ?_
    refine GoC.region ?_
    refine GoL.q (op_fieldAddr rfl) ?_
    refine GoL.q (op_load rfl rfl) ?_
    refine GoL.q (op_len rfl) ?_
    refine GoL.q (op_fieldAddr rfl) ?_
    refine GoL.q (op_load rfl rfl) ?_
    refine GoL.q (op_len rfl) ?_
    refine GoL.q (op_neq rfl rfl) ?_
    refine GoL.q (op_move rfl) ?_
    apply GoL.or (m := 7) (x := 33) rfl rfl rfl rfl rfl rfl rfl rfl (Wn.none rfl)
    · intro hg1
      refine GoL.q (op_fieldAddr rfl) ?_ (hg := Wn.some rfl rfl rfl hg1)
      refine GoL.q (op_load rfl rfl) ?_ (hg := Wn.some rfl rfl rfl hg1)
      refine GoL.q (op_len rfl) ?_ (hg := Wn.some rfl rfl rfl hg1)
      refine GoL.q (op_fieldAddr rfl) ?_ (hg := Wn.some rfl rfl rfl hg1)
      refine GoL.q (op_load rfl rfl) ?_ (hg := Wn.some rfl rfl rfl hg1)
      refine GoL.q (op_len rfl) ?_ (hg := Wn.some rfl rfl rfl hg1)
      refine GoL.q (op_neq rfl rfl) ?_ (hg := Wn.some rfl rfl rfl hg1)
      exact GoL.part (k := 7) rfl rfl rfl
    refine GoL.q (op_move rfl) ?_
    apply GoL.or (m := 4) (x := 39) rfl rfl rfl rfl rfl rfl rfl rfl (Wn.none rfl)
    · intro hg2
      refine GoL.q (op_loadA rfl rfl rfl) ?_ (hg := Wn.some rfl rfl rfl hg2)
      refine GoL.q (op_loadA rfl rfl rfl) ?_ (hg := Wn.some rfl rfl rfl hg2)
      refine GoL.p (op_callV rfl (fun sh w h => fits_spec y r t q ⟨hy1, hy2⟩ (by simp at hg2; omega) sh w h)) ?_ (hg := Wn.some rfl rfl rfl hg2)
      refine GoL.q (op_not rfl) ?_ (hg := Wn.some rfl rfl rfl hg2)
      exact GoL.part (k := 4) rfl rfl rfl
    refine GoL.nil .next ?_
    refine GoC.cond rfl (fun hc3 => ?_) (fun hc3 => ?_)
    · refine GoC.seq ?_
      refine GoC.region ?_
      refine GoL.q (op_assign rfl) ?_
      refine GoL.nil .next ?_
      refine GoC.ret (.thenRet (.here)) ?_
      refine done1 rfl rfl ?_
      intro w' hw
      have e : clockCheckF x y t = 4 := ((if_neg (Bool.eq_false_iff.1 hc0)).trans (if_pos hc3))
      exact ⟨by rw [e], hw.keep⟩
    · refine GoC.skipTo .next ?_
      refine GoC.seq ?_
      have hpo := PlanOk.of (show planCheckF x y = 0 by simpa using hc0)
      have hx := Sq.of hpo.i
      have hx1 := hx.s
      have hfit := Fit3.of hc3
      have hfl := hfit.nt
      have hfb := hfit.nb
      refine GoC.region ?_
      refine GoL.q (op_fieldAddr rfl) ?_
      refine GoL.q (op_load rfl rfl) ?_
      refine GoL.q (op_len rfl) ?_
      refine GoL.x (op_make (ty := t64) (0 : Int) (fun _ _ => ⟨rfl, rfl⟩) rfl (by omega) (by simp only [maxLen]; omega)) ?_
      rintro _ _ _ ⟨b44, rfl, rfl, rfl⟩
      refine GoL.q (op_assign rfl) ?_
      refine GoL.nil .next ?_
      refine GoC.seq ?_
      refine GoC.seq ?_
      refine GoC.region ?_
      refine GoL.q (op_fieldAddr rfl) ?_
      refine GoL.q (op_load rfl rfl) ?_
      refine GoL.q (op_len rfl) ?_
      refine GoL.q (op_move rfl) ?_
      refine GoL.nil .next ?_
      refine GoC.sub (E' := [(3, _), (4, _), (5, _), (6, _), (8, _), (46, _), (47, _), (48, _)]) ⟨rfl, rfl, rfl, rfl, rfl, rfl, rfl, rfl, trivial⟩ ?_
      refine GoC.block ?_
      refine GoC.loop (σ := Nat × List Int) (fun s => [(48, .int .i64 (s.1 : Int))]) [(3, _), (4, _), (5, _), (8, _), (46, _), (47, _)] (fun s => [own ty_i64 t64 (some ⟨b44, 0, none⟩) x.Sats.length s.2, cel b5 32 (cT t q), cel b4 45 (cP y r), cel b3 40 (cI x p)]) (fun s => _) (fun s => s.1 ≤ y.Trucks.length ∧ (s.2.length = x.Sats.length ∧ trucksT x (y.Trucks.drop s.1) (t.Trucks.drop s.1) s.2 = trucksT x y.Trucks t.Trucks (List.replicate x.Sats.length 0))) (fun s => y.Trucks.length - s.1) (0, List.replicate x.Sats.length 0) ⟨by simp, by simp, rfl⟩ ⟨rfl, rfl, rfl, rfl, rfl, rfl, rfl, trivial⟩ (fun _ h => h) ?_
      intro s ⟨hs1, hs2⟩
      refine GoC.seq ?_
      refine GoC.region ?_
      refine GoL.q (op_lss rfl rfl) ?_
      refine GoL.nil .next ?_
      refine GoC.seq ?_
      refine GoC.cond rfl (fun hc4 => ?_) (fun hc4 => ?_)
      · have hlt : s.1 < y.Trucks.length := by simpa using hc4
        refine GoC.skipTo .next ?_
        refine GoC.seq ?_
        refine GoC.block ?_
        refine GoC.seq ?_
        have hltm : s.1 < t.Trucks.length := by omega
        refine GoC.openR (n := 1) r.t.1 s.1 hlt (fun q1 hq => ?_)
        refine GoC.openR (n := 1) q.t.1 s.1 hltm (fun q2 hq2 => ?_)
        refine GoC.region ?_
        refine GoL.q (op_move rfl) ?_
        refine GoL.q (op_indexR rfl rfl rfl (by first | assumption | omega)) ?_
        refine GoL.q (op_loadEA rfl rfl) ?_
        refine GoL.x (op_alloc) ?_
        rintro _ _ _ ⟨b10, rfl, rfl, rfl⟩
        refine GoL.q (op_assign rfl) ?_
        refine GoL.y0 (op_store rfl rfl rfl rfl (by simp [Value.oneCell']) (Nat.le_of_ble_eq_true rfl) rfl) ?_
        rintro _ _ _ ⟨rfl, rfl, rfl⟩
        refine GoL.nil .next ?_
        refine GoC.seq ?_
        refine GoC.draw 8 [] [0, 1, 2, 3, 4, 5, 6, 7] (by kernel_rfl) Pr_mixed ?_
        refine Can.q rfl (op_loadA rfl rfl rfl) ?_
        refine Can.q rfl (op_loadA rfl rfl rfl) ?_
        refine Can.q rfl (op_fieldAddr rfl) ?_
        refine Can.q rfl (op_load rfl rfl) ?_
        refine Can.q rfl (op_move rfl) ?_
        refine Can.q rfl (op_indexR rfl rfl rfl (by first | assumption | omega)) ?_
        refine Can.q rfl (op_loadE rfl rfl) ?_
        refine Can.q rfl (op_move rfl) ?_
        refine Can.nil rfl ?_
        refine GoL.y (op_callM (vs := [.agg (cI x p).toArray, .agg #[.slice q1.1 y.Trucks[s.1].Stops.length q1.2], .slice q2.1 t.Trucks[s.1].length q2.2, .slice (some ⟨b44, 0, none⟩) x.Sats.length x.Sats.length]) rfl (fun sh w h => truck_spec x p hI hx y.Trucks[s.1] q1 t.Trucks[s.1] s.2 q2.1 (some ⟨b44, 0, none⟩) q2.2 x.Sats.length hq (hpo.t _ (List.getElem_mem hlt)) (hfit.lt s.1 hlt hltm) hs2.1 sh w h)) ?_
        rintro _ _ _ ⟨_, rfl, rfl, rfl⟩
        refine GoL.q (op_not rfl) ?_
        refine GoL.nil .next ?_
        refine GoC.cond rfl (fun hc5 => ?_) (fun hc5 => ?_)
        · refine GoC.seq ?_
          refine GoC.region ?_
          refine GoL.q (op_assign rfl) ?_
          refine GoL.nil .next ?_
          refine GoC.ret (.blockRet (.thenRet (.thenRet (.blockRet (.thenRet (.here)))))) ?_
          refine done1 rfl rfl ?_
          intro w' hw
          have hr : (trucksT x y.Trucks t.Trucks (List.replicate x.Sats.length 0)).1 = false := by rw [← hs2.2, List.drop_eq_getElem_cons hlt, List.drop_eq_getElem_cons hltm, trucksT, if_pos hc5]
          have e : clockCheckF x y t = 12 := ((if_neg (Bool.eq_false_iff.1 hc0)).trans ((if_neg (Bool.eq_false_iff.1 hc3)).trans (if_pos (by rw [hr]; rfl))))
          exact ⟨by rw [e], hw.keep⟩
        · refine GoC.skipTo (.blockNormal (.next)) ?_
          refine GoC.region ?_
          refine GoL.q (op_inc rfl (by omega)) ?_
          refine GoL.q (op_move rfl) ?_
          exact GoL.again (s.1 + 1, (truckF x y.Trucks[s.1].Stops t.Trucks[s.1] 0 0 s.2).2) ⟨by omega, by rw [truckF_len]; exact hs2.1, by have h5 := hs2.2; rw [List.drop_eq_getElem_cons hlt, List.drop_eq_getElem_cons hltm, trucksT] at h5; exact (if_neg (Bool.eq_false_iff.1 hc5)).symm.trans h5⟩ (by simp only; omega) ⟨rfl, rfl, rfl, rfl, rfl, rfl, rfl, trivial⟩
      · have hge : y.Trucks.length ≤ s.1 := by simpa using hc4
        refine GoC.exit (.thenExit (.thenExit (.blockSame (.next)))) ?_
        refine GoC.seq ?_
        refine GoC.seq ?_
        refine GoC.region ?_
        refine GoL.q (op_fieldAddr rfl) ?_
        refine GoL.q (op_load rfl rfl) ?_
        refine GoL.q (op_len rfl) ?_
        refine GoL.q (op_move rfl) ?_
        refine GoL.nil .next ?_
        refine GoC.block ?_
        refine GoC.shareOwn (some ⟨b44, 0, none⟩) ?_
        refine GoC.loop (σ := Nat) (fun u => [(67, .int .i64 (u : Int))]) [(3, _), (5, _), (8, _), (65, _), (66, _)] (fun u => _) (fun u => _) (fun u => u ≤ y.Bikes.length ∧ bikesT x (y.Bikes.drop u) (t.Bikes.drop u) s.2 = bikesT x y.Bikes t.Bikes s.2) (fun u => y.Bikes.length - u) 0 ⟨by simp, rfl⟩ ⟨rfl, rfl, rfl, rfl, rfl, rfl, trivial⟩ (fun _ h => h) ?_
        intro u ⟨hu1, hu2⟩
        refine GoC.seq ?_
        refine GoC.region ?_
        refine GoL.q (op_lss rfl rfl) ?_
        refine GoL.nil .next ?_
        refine GoC.seq ?_
        refine GoC.cond rfl (fun hc6 => ?_) (fun hc6 => ?_)
        · have hlt2 : u < y.Bikes.length := by simpa using hc6
          refine GoC.skipTo .next ?_
          refine GoC.seq ?_
          refine GoC.block ?_
          refine GoC.seq ?_
          have hltm : u < t.Bikes.length := by omega
          refine GoC.openR (n := 2) r.b.1 u hlt2 (fun q1 hq => ?_)
          refine GoC.openR (n := 3) q.b.1 u hltm (fun q2 hq2 => ?_)
          refine GoC.region ?_
          refine GoL.q (op_move rfl) ?_
          refine GoL.q (op_indexR rfl rfl rfl (by first | assumption | omega)) ?_
          refine GoL.q (op_loadEA rfl rfl) ?_
          refine GoL.x (op_alloc) ?_
          rintro _ _ _ ⟨b12, rfl, rfl, rfl⟩
          refine GoL.q (op_assign rfl) ?_
          refine GoL.y0 (op_store rfl rfl rfl rfl (by simp [Value.oneCell']) (Nat.le_of_ble_eq_true rfl) rfl) ?_
          rintro _ _ _ ⟨rfl, rfl, rfl⟩
          refine GoL.nil .next ?_
          refine GoC.seq ?_
          refine GoC.draw 8 [] [0, 1, 2, 3, 4, 5, 6, 7] (by kernel_rfl) Pr_mixed ?_
          refine Can.q rfl (op_loadA rfl rfl rfl) ?_
          refine Can.q rfl (op_loadA rfl rfl rfl) ?_
          refine Can.q rfl (op_fieldAddr rfl) ?_
          refine Can.q rfl (op_load rfl rfl) ?_
          refine Can.q rfl (op_move rfl) ?_
          refine Can.q rfl (op_indexR rfl rfl rfl (by first | assumption | omega)) ?_
          refine Can.q rfl (op_loadEA rfl rfl) ?_
          refine Can.q rfl (op_move rfl) ?_
          refine Can.nil rfl ?_
          refine GoL.p (op_callV (vs := [.agg (cI x p).toArray, .agg #[.int .i64 y.Bikes[u].Sat, .slice q1.2.1 y.Bikes[u].Stops.length q1.2.2], .agg #[.int .i64 t.Bikes[u].Out, .slice q2.2.1.1 t.Bikes[u].Starts.length q2.2.1.2, .int .i64 t.Bikes[u].Back], .slice (some ⟨b44, 0, none⟩) x.Sats.length x.Sats.length]) rfl (fun sh w h => bike_spec x p hI hx y.Bikes[u] q1.2 t.Bikes[u] q2.2.1 s.2 (some ⟨b44, 0, none⟩) x.Sats.length hq.2 (hpo.b _ (List.getElem_mem hlt2)).1 (hpo.b _ (List.getElem_mem hlt2)).2 (hfit.lb u hlt2 hltm) hs2.1 sh w h)) ?_
          refine GoL.q (op_not rfl) ?_
          refine GoL.nil .next ?_
          refine GoC.cond rfl (fun hc7 => ?_) (fun hc7 => ?_)
          · refine GoC.seq ?_
            refine GoC.region ?_
            refine GoL.q (op_assign rfl) ?_
            refine GoL.nil .next ?_
            refine GoC.ret (.blockRet (.thenRet (.thenRet (.blockRet (.thenRet (.here)))))) ?_
            refine done1 rfl rfl ?_
            intro w' hw
            have hr : trucksT x y.Trucks t.Trucks (List.replicate x.Sats.length 0) = (true, s.2) := by rw [← hs2.2, List.drop_of_length_le hge, trucksT]
            have hb : bikesT x y.Bikes t.Bikes s.2 = false := by rw [← hu2, List.drop_eq_getElem_cons hlt2, List.drop_eq_getElem_cons hltm, bikesT, if_pos hc7]
            have e : clockCheckF x y t = 12 := (if_neg (Bool.eq_false_iff.1 hc0)).trans ((if_neg (Bool.eq_false_iff.1 hc3)).trans ((if_neg (by rw [hr]; simp)).trans (if_pos (by rw [hr]; simp [hb]))))
            exact ⟨by rw [e], hw.keep⟩
          · refine GoC.skipTo (.blockNormal (.next)) ?_
            refine GoC.region ?_
            refine GoL.q (op_inc rfl (by omega)) ?_
            refine GoL.q (op_move rfl) ?_
            exact GoL.again (u + 1) ⟨by omega, by rw [List.drop_eq_getElem_cons hlt2, List.drop_eq_getElem_cons hltm, bikesT] at hu2; exact (if_neg (Bool.eq_false_iff.1 hc7)).symm.trans hu2⟩ (by omega) ⟨rfl, rfl, rfl, rfl, rfl, rfl, trivial⟩
        · have hge2 : y.Bikes.length ≤ u := by simpa using hc6
          refine GoC.exit (.thenExit (.thenExit (.blockSame (.next)))) ?_
          refine GoC.seq ?_
          refine GoC.region ?_
          refine GoL.q (op_assign rfl) ?_
          refine GoL.nil .next ?_
          refine GoC.ret .here ?_
          refine done1 rfl rfl ?_
          intro w' hw
          have hr : trucksT x y.Trucks t.Trucks (List.replicate x.Sats.length 0) = (true, s.2) := by rw [← hs2.2, List.drop_of_length_le hge, trucksT]
          have hb : bikesT x y.Bikes t.Bikes s.2 = true := by rw [← hu2, List.drop_of_length_le hge2, bikesT]
          have e : clockCheckF x y t = 0 := (if_neg (Bool.eq_false_iff.1 hc0)).trans ((if_neg (Bool.eq_false_iff.1 hc3)).trans ((if_neg (by rw [hr]; simp)).trans (if_neg (by rw [hr]; simp [hb]))))
          exact ⟨by rw [e], hw.keep⟩
end Go.Proofs.Ytdeacehacndopaa
