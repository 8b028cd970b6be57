/- The statement's own judge of plans: Code. The statement's own maker of instances: its parts. The statement's own maker of instances. A plan of one's own; one of many put back as it was. What Draft computes, in plain words. No conditions beyond those that each theorem names. -/
import Derived.Test.YtdeacehacndopaaL7
import Derived.Test.YtdeacehacndopaaL3
import Derived.Test.YtdeacehacndopaaL5
namespace Go.Proofs.Ytdeacehacndopaa
open Go.RowKit

set_option maxRecDepth 20000 in
theorem there_spec (x : Instance) (p : HI) (b : Nat) (s : Int) (sh : Nat → Prop) (w : World) (h : Holds ⟨0, w, [], sh⟩ [] [cells (some ⟨b, 0, none⟩) 0 (cI x p)] w) :
    Calls Pr fn_law17_Code_c1 #[.int .i64 s, .pointer (some ⟨b, 0, none⟩)] w fun e w' => e = .returned (.bool (thereF x s)) ∧ Ext w w' := by
  refine Calls.of_go (args := [_, _]) fn_law17_Code_c1_f rfl rfl rfl h ?_
  refine GoC.seq ?_
  refine GoC.region ?_
  refine GoL.q (op_assign rfl) ?_
  refine GoL.nil .next ?_
  refine GoC.seq ?_
  refine GoC.region ?_
  refine GoL.q (op_move rfl) ?_
  refine GoL.q (op_geq rfl rfl) ?_
  refine GoL.q (op_move rfl) ?_
  apply GoL.and (m := 5) (x := 11) rfl rfl rfl rfl rfl rfl rfl rfl (Wn.none rfl)
  · intro hg0
    refine GoL.q (op_move rfl) ?_ (hg := Wn.some rfl rfl rfl hg0)
    refine GoL.q (op_fieldAddr rfl) ?_ (hg := Wn.some rfl rfl rfl hg0)
    refine GoL.q (op_loadB rfl rfl) ?_ (hg := Wn.some rfl rfl rfl hg0)
    refine GoL.q (op_len rfl) ?_ (hg := Wn.some rfl rfl rfl hg0)
    refine GoL.q (op_lss rfl rfl) ?_ (hg := Wn.some rfl rfl rfl hg0)
    exact GoL.part (k := 5) rfl rfl rfl
  refine GoL.q (op_assign rfl) ?_
  refine GoL.nil .next ?_
  refine GoC.ret .here ?_
  refine done1 rfl rfl ?_
  intro w' hw
  exact ⟨rfl, hw.keep⟩
set_option maxRecDepth 20000 in
theorem code_spec (x : Instance) (p : HI) (y : Plan) (r : HP) (hI : OkI x) (hx : Sq x) (hy : y.Trucks.length ≤ 9223372036854775807 ∧ y.Bikes.length ≤ 9223372036854775807) (sh : Nat → Prop) (w : World) (h : Holds ⟨0, w, [], sh⟩ [] (rP y r (rI x p [])) w) :
    Calls Pr fn_law17_Code #[.agg (cI x p).toArray, .agg (cP y r).toArray] w fun e w' => e = .returned (.int .i64 (codeF x y)) ∧ Ext w w' := by
  obtain ⟨hy1, hy2⟩ := hy
  have hx1 := hx.s
  have hx2 := hx.u
  refine Calls.of_go (args := [_, _]) fn_law17_Code_f rfl rfl rfl h ?_
  refine GoC.seq ?_
  refine GoC.region ?_
  refine GoL.x (op_box rfl rfl) ?_
  rintro _ _ _ ⟨b2, rfl, rfl, rfl⟩
  refine GoL.x (op_box rfl rfl) ?_
  rintro _ _ _ ⟨b3, rfl, rfl, rfl⟩
  refine GoL.q (op_assign rfl) ?_
  refine GoL.nil .next ?_
  refine GoC.seq ?_
  refine GoC.seq ?_
  refine GoC.region ?_
  refine GoL.q (op_fieldAddr rfl) ?_
  refine GoL.q (op_load rfl rfl) ?_
  refine GoL.q (op_len rfl) ?_
  refine GoL.q (op_fieldAddr rfl) ?_
  refine GoL.q (op_fieldAddr rfl) ?_
  refine GoL.q (op_load rfl rfl) ?_
  refine GoL.q (op_gtr rfl rfl) ?_
  refine GoL.q (op_move rfl) ?_
  apply GoL.or (m := 7) (x := 42) rfl rfl rfl rfl rfl rfl rfl rfl (Wn.none rfl)
  · intro hg0
    refine GoL.q (op_fieldAddr rfl) ?_ (hg := Wn.some rfl rfl rfl hg0)
    refine GoL.q (op_load rfl rfl) ?_ (hg := Wn.some rfl rfl rfl hg0)
    refine GoL.q (op_len rfl) ?_ (hg := Wn.some rfl rfl rfl hg0)
    refine GoL.q (op_fieldAddr rfl) ?_ (hg := Wn.some rfl rfl rfl hg0)
    refine GoL.q (op_fieldAddr rfl) ?_ (hg := Wn.some rfl rfl rfl hg0)
    refine GoL.q (op_load rfl rfl) ?_ (hg := Wn.some rfl rfl rfl hg0)
    refine GoL.q (op_gtr rfl rfl) ?_ (hg := Wn.some rfl rfl rfl hg0)
    exact GoL.part (k := 7) rfl rfl rfl
  refine GoL.nil .next ?_
  refine GoC.cond rfl (fun hc1 => ?_) (fun hc1 => ?_)
  · have hmany := hc1
    refine GoC.seq ?_
    refine GoC.region ?_
    refine GoL.q (op_assign rfl) ?_
    refine GoL.nil .next ?_
    refine GoC.ret (.thenRet (.here)) ?_
    refine done1 rfl rfl ?_
    intro w' hw
    have e : codeF x y = 11 := (if_pos hmany)
    exact ⟨by rw [e], hw.keep⟩
  · have hmany := hc1
    refine GoC.skipTo .next ?_
    refine GoC.seq ?_
    refine GoC.draw 8 [6] [0, 1, 2, 3, 4, 5, 7, 6] (by kernel_rfl) Pr_mixed ?_
    refine Can.q rfl (op_fieldAddr rfl) ?_
    refine Can.q rfl (op_load rfl rfl) ?_
    refine Can.q rfl (op_len rfl) ?_
    refine Can.q rfl (op_fieldAddr rfl) ?_
    refine Can.q rfl (op_load rfl rfl) ?_
    refine Can.q rfl (op_len rfl) ?_
    refine Can.q rfl (op_assign rfl) ?_
    refine Can.x rfl (op_make (ty := t64) (0 : Int) (fun _ _ => ⟨rfl, rfl⟩) rfl (by omega) (by simp only [maxLen]; omega)) ?_
    rintro _ _ _ ⟨b50, rfl, rfl, rfl⟩
    refine Can.nil rfl ?_
    refine GoL.q (op_assign rfl) ?_
    refine GoL.nil .next ?_
    refine GoC.seq ?_
    refine GoC.region ?_
    refine GoL.q (op_makeFunc rfl rfl) ?_
    refine GoL.q (op_assign rfl) ?_
    refine GoL.nil .next ?_
    refine GoC.seq ?_
    refine GoC.region ?_
    refine GoL.q (op_assign rfl) ?_
    refine GoL.q (op_assign rfl) ?_
    refine GoL.nil .next ?_
    refine GoC.seq ?_
    refine GoC.joinS (γ := Nat × Nat) (fun g => [(10, .slice (some ⟨g.1, 0, none⟩) x.Sats.length x.Sats.length), (11, .slice (some ⟨g.2, 0, none⟩) x.Sats.length x.Sats.length)]) [(2, _), (3, _), (4, _), (5, _), (6, _), (7, _), (8, _), (9, _)] (fun g => [own ty_i64 t64 (some ⟨g.1, 0, none⟩) x.Sats.length (List.replicate x.Sats.length 0), own ty_i64 t64 (some ⟨g.2, 0, none⟩) x.Sats.length (List.replicate x.Sats.length 0), own 3 t64 (some ⟨b50, 0, none⟩) x.Customers.length (List.replicate x.Customers.length 0), cel b3 45 (cP y r), cel b2 40 (cI x p)]) (fun g => True) ⟨rfl, rfl, rfl, rfl, rfl, rfl, rfl, rfl, trivial⟩ ?_ ?_
    · refine GoC.tree 9 (.op 0 (.op 1 (.op 2 (.op 4 (.op 5 (.op 6 (.or2 (.w 3 (.op 8 (.w 7 .nil))) (.w 7 (.w 3 (.op 8 .nil)))))))))) (by kernel_rfl) Pr_mixed ?_
      refine CanT.q rfl (op_fieldAddr rfl) ?_
      refine CanT.q rfl (op_load rfl rfl) ?_
      refine CanT.q rfl (op_len rfl) ?_
      refine CanT.q rfl (op_fieldAddr rfl) ?_
      refine CanT.q rfl (op_load rfl rfl) ?_
      refine CanT.q rfl (op_len rfl) ?_
      refine CanT.both ?_ ?_
      · refine CanT.x rfl (op_make (ty := t64) (0 : Int) (fun _ _ => ⟨rfl, rfl⟩) rfl (by omega) (by simp only [maxLen]; omega)) ?_
        rintro _ _ _ ⟨b55, rfl, rfl, rfl⟩
        refine CanT.q rfl (op_assign rfl) ?_
        refine CanT.x rfl (op_make (ty := t64) (0 : Int) (fun _ _ => ⟨rfl, rfl⟩) rfl (by omega) (by simp only [maxLen]; omega)) ?_
        rintro _ _ _ ⟨b59, rfl, rfl, rfl⟩
        refine CanT.nil rfl ?_
        refine GoL.q (op_assign rfl) ?_
        exact GoL.meet (b55, b59) .next trivial ⟨rfl, rfl, rfl, rfl, rfl, rfl, rfl, rfl, rfl, rfl, trivial⟩
      · refine CanT.x rfl (op_make (ty := t64) (0 : Int) (fun _ _ => ⟨rfl, rfl⟩) rfl (by omega) (by simp only [maxLen]; omega)) ?_
        rintro _ _ _ ⟨b59, rfl, rfl, rfl⟩
        refine CanT.x rfl (op_make (ty := t64) (0 : Int) (fun _ _ => ⟨rfl, rfl⟩) rfl (by omega) (by simp only [maxLen]; omega)) ?_
        rintro _ _ _ ⟨b55, rfl, rfl, rfl⟩
        refine CanT.q rfl (op_assign rfl) ?_
        refine CanT.nil rfl ?_
        refine GoL.q (op_assign rfl) ?_
        exact GoL.meet (b55, b59) .next trivial ⟨rfl, rfl, rfl, rfl, rfl, rfl, rfl, rfl, rfl, rfl, trivial⟩
    intro g _
    refine GoC.seq ?_
    refine GoC.seq ?_
    refine GoC.region ?_
    refine GoL.q (op_fieldAddr rfl) ?_
    refine GoL.q (op_load rfl rfl) ?_
    refine GoL.q (op_len rfl) ?_
    refine GoL.q (op_move rfl) ?_
    refine GoL.nil .next ?_
    refine GoC.block ?_
    refine GoC.loop (σ := Nat × Bool × Bool × List Int) (fun s => [(63, .int .i64 (s.1 : Int)), (8, .bool s.2.1), (9, .bool s.2.2.1)]) [(10, _), (11, _), (2, _), (3, _), (5, _), (6, _), (7, _), (61, _), (62, _)] (fun s => [own ty_i64 t64 (some ⟨g.1, 0, none⟩) x.Sats.length s.2.2.2, own ty_i64 t64 (some ⟨g.2, 0, none⟩) x.Sats.length (List.replicate x.Sats.length 0), own 3 t64 (some ⟨b50, 0, none⟩) x.Customers.length (List.replicate x.Customers.length 0), cel b3 45 (cP y r), cel b2 40 (cI x p)]) (fun s => _) (fun s => s.1 ≤ y.Trucks.length ∧ (s.2.2.2.length = x.Sats.length ∧ codeT x (y.Trucks.drop s.1) s.2 = code1 x y)) (fun s => y.Trucks.length - s.1) (0, true, true, (List.replicate x.Sats.length 0)) ⟨by simp, by simp, rfl⟩ ⟨rfl, rfl, rfl, rfl, rfl, rfl, rfl, rfl, rfl, rfl, rfl, rfl, trivial⟩ (fun _ h => h) ?_
    intro s ⟨hs1, hs2⟩
    refine GoC.seq ?_
    refine GoC.region ?_
    refine GoL.q (op_lss rfl rfl) ?_
    refine GoL.nil .next ?_
    refine GoC.seq ?_
    refine GoC.cond rfl (fun hc2 => ?_) (fun hc2 => ?_)
    · have hlt : s.1 < y.Trucks.length := by simpa using hc2
      refine GoC.skipTo .next ?_
      refine GoC.seq ?_
      refine GoC.block ?_
      refine GoC.seq ?_
      refine GoC.openR (n := 1) r.t.1 s.1 hlt (fun q1 hq => ?_)
      refine GoC.region ?_
      refine GoL.q (op_indexR rfl rfl rfl (by first | assumption | omega)) ?_
      refine GoL.q (op_loadEA rfl rfl) ?_
      refine GoL.x (op_alloc) ?_
      rintro _ _ _ ⟨b13, rfl, rfl, rfl⟩
      refine GoL.y0 (op_store rfl rfl rfl rfl (by simp [Value.oneCell']) (Nat.le_of_ble_eq_true rfl) rfl) ?_
      rintro _ _ _ ⟨rfl, rfl, rfl⟩
      refine GoL.nil .next ?_
      refine GoC.seq ?_
      refine GoC.region ?_
      refine GoL.q (op_assign rfl) ?_
      refine GoL.nil .next ?_
      refine GoC.seq ?_
      refine GoC.region ?_
      refine GoL.q (op_move rfl) ?_
      refine GoL.q (op_move rfl) ?_
      apply GoL.and (m := 4) (x := 72) rfl rfl rfl rfl rfl rfl rfl rfl (Wn.none rfl)
      · intro hg3
        refine GoL.q (op_fieldAddr rfl) ?_ (hg := Wn.some rfl rfl rfl hg3)
        refine GoL.q (op_load rfl rfl) ?_ (hg := Wn.some rfl rfl rfl hg3)
        refine GoL.q (op_len rfl) ?_ (hg := Wn.some rfl rfl rfl hg3)
        refine GoL.q (op_gtr rfl rfl) ?_ (hg := Wn.some rfl rfl rfl hg3)
        exact GoL.part (k := 4) rfl rfl rfl
      refine GoL.q (op_assign rfl) ?_
      refine GoL.nil .next ?_
      refine GoC.seq ?_
      refine GoC.seq ?_
      refine GoC.region ?_
      refine GoL.q (op_fieldAddr rfl) ?_
      refine GoL.q (op_load rfl rfl) ?_
      refine GoL.q (op_len rfl) ?_
      refine GoL.q (op_move rfl) ?_
      refine GoL.nil .next ?_
      refine GoC.block ?_
      refine GoC.loop (σ := Nat × Bool × Int × List Int) (fun u => [(77, .int .i64 (u.1 : Int)), (8, .bool u.2.1), (14, .int .i64 u.2.2.1)]) [(63, _), (9, _), (10, _), (11, _), (2, _), (3, _), (5, _), (6, _), (7, _), (61, _), (62, _), (13, _), (75, _), (76, _)] (fun u => [cel b13 82 [.slice q1.1 y.Trucks[s.1].Stops.length q1.2], own ty_i64 t64 (some ⟨g.1, 0, none⟩) x.Sats.length u.2.2.2, own ty_i64 t64 (some ⟨g.2, 0, none⟩) x.Sats.length (List.replicate x.Sats.length 0), own 3 t64 (some ⟨b50, 0, none⟩) x.Customers.length (List.replicate x.Customers.length 0), cel b3 45 (cP y r), cel b2 40 (cI x p)]) (fun u => _) (fun u => u.1 ≤ y.Trucks[s.1].Stops.length ∧ (u.2.2.2.length = x.Sats.length ∧ codeS x y.Trucks[s.1].Stops (y.Trucks[s.1].Stops.drop u.1) u.1 u.2 = codeS x y.Trucks[s.1].Stops y.Trucks[s.1].Stops 0 (s.2.1 && decide (0 < (y.Trucks[s.1].Stops.length : Int)), 0, s.2.2.2))) (fun u => y.Trucks[s.1].Stops.length - u.1) (0, _, 0, s.2.2.2) ⟨by simp, hs2.1, rfl⟩ ⟨rfl, rfl, rfl, rfl, rfl, rfl, rfl, rfl, rfl, rfl, rfl, rfl, rfl, rfl, rfl, rfl, rfl, trivial⟩ (fun _ h => h) ?_
      intro u ⟨hu1, hu2⟩
      refine GoC.seq ?_
      refine GoC.region ?_
      refine GoL.q (op_lss rfl rfl) ?_
      refine GoL.nil .next ?_
      refine GoC.seq ?_
      refine GoC.cond rfl (fun hc4 => ?_) (fun hc4 => ?_)
      · have hlt2 : u.1 < y.Trucks[s.1].Stops.length := by simpa using hc4
        refine GoC.skipTo .next ?_
        refine GoC.seq ?_
        refine GoC.block ?_
        refine GoC.seq ?_
        refine GoC.openR (n := 2) q1.1 u.1 hlt2 (fun _ hq2 => ?_)
        refine GoC.region ?_
        refine GoL.q (op_move rfl) ?_
        refine GoL.q (op_indexR rfl rfl rfl (by first | assumption | omega)) ?_
        refine GoL.q (op_loadEA rfl rfl) ?_
        refine GoL.x (op_alloc) ?_
        rintro _ _ _ ⟨b16, rfl, rfl, rfl⟩
        refine GoL.q (op_assign rfl) ?_
        refine GoL.y0 (op_store rfl rfl rfl rfl (by simp [Value.oneCell']) (Nat.le_of_ble_eq_true rfl) rfl) ?_
        rintro _ _ _ ⟨rfl, rfl, rfl⟩
        refine GoL.nil .next ?_
        refine GoC.seq ?_
        refine GoC.region ?_
        refine GoL.q (op_move rfl) ?_
        refine GoL.q (op_move rfl) ?_
        apply GoL.and (m := 4) (x := 87) rfl rfl rfl rfl rfl rfl rfl rfl (Wn.none rfl)
        · intro hg5
          refine GoL.q (op_move rfl) ?_ (hg := Wn.some rfl rfl rfl hg5)
          refine GoL.q (op_fieldAddr rfl) ?_ (hg := Wn.some rfl rfl rfl hg5)
          refine GoL.q (op_load rfl rfl) ?_ (hg := Wn.some rfl rfl rfl hg5)
          refine GoL.p (op_cValL [cells (some ⟨b2, 0, none⟩) 0 (cI x p)] (f := fn_law17_Code_c1) (us := [.pointer (some ⟨b2, 0, none⟩)]) (vs := [.int .i64 (y.Trucks[s.1].Stops[u.1].Sat)]) (v := .bool (thereF x (y.Trucks[s.1].Stops[u.1].Sat))) rfl rfl (fun sh w h => there_spec x p b2 (y.Trucks[s.1].Stops[u.1].Sat) sh w h)) ?_ (hg := Wn.some rfl rfl rfl hg5)
          exact GoL.part (k := 4) rfl rfl rfl
        refine GoL.q (op_move rfl) ?_
        apply GoL.and (m := 3) (x := 92) rfl rfl rfl rfl rfl rfl rfl rfl (Wn.none rfl)
        · intro hg6
          refine GoL.q (op_fieldAddr rfl) ?_ (hg := Wn.some rfl rfl rfl hg6)
          refine GoL.q (op_load rfl rfl) ?_ (hg := Wn.some rfl rfl rfl hg6)
          refine GoL.q (op_geq rfl rfl) ?_ (hg := Wn.some rfl rfl rfl hg6)
          exact GoL.part (k := 3) rfl rfl rfl
        refine GoL.q (op_move rfl) ?_
        apply GoL.and (m := 3) (x := 97) rfl rfl rfl rfl rfl rfl rfl rfl (Wn.none rfl)
        · intro hg7
          refine GoL.q (op_fieldAddr rfl) ?_ (hg := Wn.some rfl rfl rfl hg7)
          refine GoL.q (op_load rfl rfl) ?_ (hg := Wn.some rfl rfl rfl hg7)
          refine GoL.q (op_leq rfl rfl) ?_ (hg := Wn.some rfl rfl rfl hg7)
          exact GoL.part (k := 3) rfl rfl rfl
        refine GoL.q (op_assign rfl) ?_
        refine GoL.nil .next ?_
        refine GoC.sub (E' := [(77, _), (8, _), (14, _), (63, _), (9, _), (10, _), (11, _), (2, _), (3, _), (5, _), (6, _), (7, _), (61, _), (62, _), (13, _), (75, _), (76, _), (16, _), (15, _)]) ⟨rfl, rfl, rfl, rfl, rfl, rfl, rfl, rfl, rfl, rfl, rfl, rfl, rfl, rfl, rfl, rfl, rfl, rfl, rfl, trivial⟩ ?_
        refine GoC.seq ?_
        refine GoC.seq ?_
        refine GoC.region ?_
        refine GoL.q (op_fieldAddr rfl) ?_
        refine GoL.q (op_load rfl rfl) ?_
        refine GoL.q (op_move rfl) ?_
        refine GoL.x (op_sliceR (ty := tStop) 0 u.1 rfl rfl ⟨_, rfl⟩ (by omega) (by omega)) ?_
        rintro _ _ _ ⟨a102, rfl, rfl, rfl⟩
        refine GoL.q (op_len rfl) ?_
        refine GoL.q (op_move rfl) ?_
        refine GoL.nil .next ?_
        refine GoC.block ?_
        refine GoC.loop (σ := Nat × Bool) (fun j => [(104, .int .i64 (j.1 : Int)), (8, .bool j.2)]) [(77, _), (14, _), (63, _), (9, _), (10, _), (11, _), (2, _), (3, _), (5, _), (6, _), (7, _), (61, _), (62, _), (13, _), (75, _), (76, _), (16, _), (102, _), (103, _)] (fun j => _) (fun j => _) (fun j => j.1 ≤ ((y.Trucks[s.1].Stops.drop 0).take (u.1 - 0)).length ∧ distF y.Trucks[s.1].Stops[u.1] (((y.Trucks[s.1].Stops.drop 0).take (u.1 - 0)).drop j.1) j.2 = distF y.Trucks[s.1].Stops[u.1] (y.Trucks[s.1].Stops.take u.1) (stop1 x u.2.1 y.Trucks[s.1].Stops[u.1])) (fun j => ((y.Trucks[s.1].Stops.drop 0).take (u.1 - 0)).length - j.1) (0, _) ⟨by simp, rfl⟩ ⟨rfl, rfl, rfl, rfl, rfl, rfl, rfl, rfl, rfl, rfl, rfl, rfl, rfl, rfl, rfl, rfl, rfl, rfl, rfl, rfl, rfl, trivial⟩ (fun _ h => h) ?_
        intro j ⟨hj1, hj2⟩
        refine GoC.seq ?_
        refine GoC.region ?_
        refine GoL.q (op_lss rfl rfl) ?_
        refine GoL.nil .next ?_
        refine GoC.seq ?_
        refine GoC.cond rfl (fun hc8 => ?_) (fun hc8 => ?_)
        · have hlt3 : j.1 < ((y.Trucks[s.1].Stops.drop 0).take (u.1 - 0)).length := by simpa using hc8
          refine GoC.skipTo .next ?_
          refine GoC.seq ?_
          refine GoC.block ?_
          refine GoC.seq ?_
          have hlL : ((y.Trucks[s.1].Stops.drop 0).take (u.1 - 0)).length ≤ 9223372036854775807 := by simp; omega
          refine GoC.openR (n := 2) a102 j.1 hlt3 (fun _ hq3 => ?_)
          refine GoC.region ?_
          refine GoL.q (op_indexR rfl rfl rfl (by first | assumption | omega)) ?_
          refine GoL.q (op_loadEA rfl rfl) ?_
          refine GoL.x (op_alloc) ?_
          rintro _ _ _ ⟨b18, rfl, rfl, rfl⟩
          refine GoL.y0 (op_store rfl rfl rfl rfl (by simp [Value.oneCell']) (Nat.le_of_ble_eq_true rfl) rfl) ?_
          rintro _ _ _ ⟨rfl, rfl, rfl⟩
          refine GoL.nil .next ?_
          refine GoC.region ?_
          refine GoL.q (op_move rfl) ?_
          refine GoL.q (op_move rfl) ?_
          apply GoL.and (m := 5) (x := 114) rfl rfl rfl rfl rfl rfl rfl rfl (Wn.none rfl)
          · intro hg9
            refine GoL.q (op_fieldAddr rfl) ?_ (hg := Wn.some rfl rfl rfl hg9)
            refine GoL.q (op_load rfl rfl) ?_ (hg := Wn.some rfl rfl rfl hg9)
            refine GoL.q (op_fieldAddr rfl) ?_ (hg := Wn.some rfl rfl rfl hg9)
            refine GoL.q (op_load rfl rfl) ?_ (hg := Wn.some rfl rfl rfl hg9)
            refine GoL.q (op_neq rfl rfl) ?_ (hg := Wn.some rfl rfl rfl hg9)
            exact GoL.part (k := 5) rfl rfl rfl
          refine GoL.q (op_assign rfl) ?_
          refine GoL.nil (.blockNormal (.next)) ?_
          refine GoC.region ?_
          refine GoL.q (op_inc rfl (by omega)) ?_
          refine GoL.q (op_move rfl) ?_
          exact GoL.again (j.1 + 1, _) ⟨by omega, by rw [List.drop_eq_getElem_cons hlt3, distF, List.foldl_cons] at hj2; exact hj2⟩ (by simp only; omega) ⟨rfl, rfl, rfl, rfl, rfl, rfl, rfl, rfl, rfl, rfl, rfl, rfl, rfl, rfl, rfl, rfl, rfl, rfl, rfl, rfl, rfl, trivial⟩
        · have hge3 : ((y.Trucks[s.1].Stops.drop 0).take (u.1 - 0)).length ≤ j.1 := by simpa using hc8
          refine GoC.exit (.thenExit (.thenExit (.blockSame (.next)))) ?_
          refine GoC.seq ?_
          have hj3 : j.2 = distF y.Trucks[s.1].Stops[u.1] (y.Trucks[s.1].Stops.take u.1) (stop1 x u.2.1 y.Trucks[s.1].Stops[u.1]) := by rw [← hj2, List.drop_of_length_le hge3]; rfl
          refine GoC.region ?_
          refine GoL.q (op_move rfl) ?_
          refine GoL.nil .next ?_
          refine GoC.cond rfl (fun hc10 => ?_) (fun hc10 => ?_)
          · have hr2 : distF y.Trucks[s.1].Stops[u.1] (y.Trucks[s.1].Stops.take u.1) (stop1 x u.2.1 y.Trucks[s.1].Stops[u.1]) = true := by rw [← hj3]; exact hc10
            refine GoC.seq ?_
            have hcc := (stop1_there (distF_true hr2)).2
            have hl1 : y.Trucks[s.1].Stops[u.1].Sat.toNat < u.2.2.2.length := by omega
            refine GoC.region ?_
            refine GoL.q (op_move rfl) ?_
            refine GoL.q (op_fieldAddr rfl) ?_
            refine GoL.q (op_load rfl rfl) ?_
            refine GoL.q (op_add rfl rfl) ?_
            refine GoL.q (op_assign rfl) ?_
            refine GoL.nil .next ?_
            refine GoC.draw 7 [] [0, 1, 2, 3, 4, 5, 6] (by kernel_rfl) Pr_mixed ?_
            refine Can.q rfl (op_move rfl) ?_
            refine Can.q rfl (op_fieldAddr rfl) ?_
            refine Can.q rfl (op_load rfl rfl) ?_
            refine Can.q rfl (op_indexO rfl rfl (Int.toNat_of_nonneg hcc.1).symm hl1 (by first | rfl | omega | (simp only [List.length_set]; omega))) ?_
            refine Can.q rfl (op_loadO rfl (by intro _ _ _ _ h; exact h.1) (by first | assumption | omega) rfl) ?_
            refine Can.q rfl (op_fieldAddr rfl) ?_
            refine Can.q rfl (op_load rfl rfl) ?_
            refine Can.nil rfl ?_
            refine GoL.q (op_add rfl rfl) ?_
            refine GoL.q (op_indexO rfl rfl (Int.toNat_of_nonneg hcc.1).symm hl1 (by first | rfl | omega | (simp only [List.length_set]; omega))) ?_
            refine GoL.y0 (op_storeO (xv := w64 (u.2.2.2[y.Trucks[s.1].Stops[u.1].Sat.toNat] + y.Trucks[s.1].Stops[u.1].Load)) rfl rfl hl1 (by intro _ _; exact ⟨rfl, w64_w64 _⟩)) ?_
            rintro _ _ _ ⟨rfl, rfl, rfl⟩
            refine GoL.nil (.blockNormal (.next)) ?_
            refine GoC.sub (E' := [(104, _), (8, _), (77, _), (14, _), (63, _), (9, _), (10, _), (11, _), (2, _), (3, _), (5, _), (6, _), (7, _), (61, _), (62, _), (13, _), (75, _), (76, _), (16, _), (102, _), (103, _)]) ⟨rfl, rfl, rfl, rfl, rfl, rfl, rfl, rfl, rfl, rfl, rfl, rfl, rfl, rfl, rfl, rfl, rfl, rfl, rfl, rfl, rfl, trivial⟩ ?_
            refine GoC.region ?_
            refine GoL.q (op_inc rfl (by omega)) ?_
            refine GoL.q (op_move rfl) ?_
            exact GoL.again (u.1 + 1, j.2, w64 (u.2.2.1 + y.Trucks[s.1].Stops[u.1].Load), u.2.2.2.set y.Trucks[s.1].Stops[u.1].Sat.toNat (w64 (u.2.2.2[y.Trucks[s.1].Stops[u.1].Sat.toNat] + y.Trucks[s.1].Stops[u.1].Load))) ⟨by omega, by simpa using hu2.1, by rw [hj3.trans hr2]; have h5 := hu2.2; rw [List.drop_eq_getElem_cons hlt2, codeS, if_pos hr2, addAt, getD_lt _ hl1] at h5; exact h5⟩ (by simp only; omega) ⟨rfl, rfl, rfl, rfl, rfl, rfl, rfl, rfl, rfl, rfl, rfl, rfl, rfl, rfl, rfl, rfl, rfl, trivial⟩
          · have hr2 : distF y.Trucks[s.1].Stops[u.1] (y.Trucks[s.1].Stops.take u.1) (stop1 x u.2.1 y.Trucks[s.1].Stops[u.1]) = false := by rw [← hj3]; exact hc10
            refine GoC.skipTo (.blockNormal (.next)) ?_
            refine GoC.region ?_
            refine GoL.q (op_inc rfl (by omega)) ?_
            refine GoL.q (op_move rfl) ?_
            exact GoL.again (u.1 + 1, j.2, u.2.2.1, u.2.2.2) ⟨by omega, hu2.1, by rw [hj3.trans hr2]; have h5 := hu2.2; rw [List.drop_eq_getElem_cons hlt2, codeS, if_neg (Bool.eq_false_iff.1 hr2)] at h5; exact h5⟩ (by simp only; omega) ⟨rfl, rfl, rfl, rfl, rfl, rfl, rfl, rfl, rfl, rfl, rfl, rfl, rfl, rfl, rfl, rfl, rfl, trivial⟩
      · have hge2 : y.Trucks[s.1].Stops.length ≤ u.1 := by simpa using hc4
        refine GoC.exit (.thenExit (.thenExit (.blockSame (.next)))) ?_
        refine GoC.region ?_
        refine GoL.q (op_move rfl) ?_
        refine GoL.q (op_move rfl) ?_
        apply GoL.and (m := 5) (x := 138) rfl rfl rfl rfl rfl rfl rfl rfl (Wn.none rfl)
        · intro hg11
          refine GoL.q (op_move rfl) ?_ (hg := Wn.some rfl rfl rfl hg11)
          refine GoL.q (op_fieldAddr rfl) ?_ (hg := Wn.some rfl rfl rfl hg11)
          refine GoL.q (op_fieldAddr rfl) ?_ (hg := Wn.some rfl rfl rfl hg11)
          refine GoL.q (op_load rfl rfl) ?_ (hg := Wn.some rfl rfl rfl hg11)
          refine GoL.q (op_leq rfl rfl) ?_ (hg := Wn.some rfl rfl rfl hg11)
          exact GoL.part (k := 5) rfl rfl rfl
        refine GoL.q (op_assign rfl) ?_
        refine GoL.nil (.blockNormal (.next)) ?_
        refine GoC.region ?_
        refine GoL.q (op_inc rfl (by omega)) ?_
        refine GoL.q (op_move rfl) ?_
        exact GoL.again (s.1 + 1, (u.2.1, _, u.2.2.2)) ⟨by omega, hu2.1, by have h5 := hs2.2; have h6 := hu2.2; rw [List.drop_of_length_le hge2, codeS] at h6; rw [List.drop_eq_getElem_cons hlt, codeT, ← h6] at h5; exact h5⟩ (by simp only; omega) ⟨rfl, rfl, rfl, rfl, rfl, rfl, rfl, rfl, rfl, rfl, rfl, rfl, trivial⟩
    · have hge : y.Trucks.length ≤ s.1 := by simpa using hc2
      refine GoC.exit (.thenExit (.thenExit (.blockSame (.next)))) ?_
      refine GoC.seq ?_
      refine GoC.seq ?_
      refine GoC.region ?_
      refine GoL.q (op_fieldAddr rfl) ?_
      refine GoL.q (op_load rfl rfl) ?_
      refine GoL.q (op_len rfl) ?_
      refine GoL.q (op_move rfl) ?_
      refine GoL.nil .next ?_
      refine GoC.block ?_
      have he1 : code1 x y = s.2 := by rw [← hs2.2, List.drop_of_length_le hge]; rfl
      refine GoC.loop (σ := Nat × Bool × Bool × List Int × List Int) (fun v => [(144, .int .i64 (v.1 : Int)), (8, .bool v.2.1), (9, .bool v.2.2.1)]) [(10, _), (11, _), (2, _), (5, _), (6, _), (7, _), (142, _), (143, _)] (fun v => [own ty_i64 t64 (some ⟨g.1, 0, none⟩) x.Sats.length s.2.2.2, own ty_i64 t64 (some ⟨g.2, 0, none⟩) x.Sats.length v.2.2.2.2, own 3 t64 (some ⟨b50, 0, none⟩) x.Customers.length v.2.2.2.1, cel b3 45 (cP y r), cel b2 40 (cI x p)]) (fun v => _) (fun v => v.1 ≤ y.Bikes.length ∧ (v.2.2.2.1.length = x.Customers.length ∧ v.2.2.2.2.length = x.Sats.length ∧ codeB x (y.Bikes.drop v.1) v.2 = code2 x y)) (fun v => y.Bikes.length - v.1) (0, s.2.1, s.2.2.1, (List.replicate x.Customers.length 0), (List.replicate x.Sats.length 0)) ⟨by simp, by simp, by simp, by rw [code2, he1]; rfl⟩ ⟨rfl, rfl, rfl, rfl, rfl, rfl, rfl, rfl, rfl, rfl, rfl, trivial⟩ (fun _ h => h) ?_
      intro v ⟨hv1, hv2⟩
      refine GoC.seq ?_
      refine GoC.region ?_
      refine GoL.q (op_lss rfl rfl) ?_
      refine GoL.nil .next ?_
      refine GoC.seq ?_
      refine GoC.cond rfl (fun hc12 => ?_) (fun hc12 => ?_)
      · have hlt4 : v.1 < y.Bikes.length := by simpa using hc12
        refine GoC.skipTo .next ?_
        refine GoC.seq ?_
        refine GoC.block ?_
        refine GoC.seq ?_
        refine GoC.openR (n := 2) r.b.1 v.1 hlt4 (fun q1 hq => ?_)
        refine GoC.region ?_
        refine GoL.q (op_indexR rfl rfl rfl (by first | assumption | omega)) ?_
        refine GoL.q (op_loadEA rfl rfl) ?_
        refine GoL.x (op_alloc) ?_
        rintro _ _ _ ⟨b20, rfl, rfl, rfl⟩
        refine GoL.y0 (op_store rfl rfl rfl rfl (by simp [Value.oneCell']) (Nat.le_of_ble_eq_true rfl) rfl) ?_
        rintro _ _ _ ⟨rfl, rfl, rfl⟩
        refine GoL.nil .next ?_
        refine GoC.seq ?_
        refine GoC.region ?_
        refine GoL.q (op_assign rfl) ?_
        refine GoL.nil .next ?_
        refine GoC.seq ?_
        refine GoC.region ?_
        refine GoL.q (op_move rfl) ?_
        refine GoL.q (op_move rfl) ?_
        apply GoL.and (m := 4) (x := 153) rfl rfl rfl rfl rfl rfl rfl rfl (Wn.none rfl)
        · intro hg13
          refine GoL.q (op_fieldAddr rfl) ?_ (hg := Wn.some rfl rfl rfl hg13)
          refine GoL.q (op_load rfl rfl) ?_ (hg := Wn.some rfl rfl rfl hg13)
          refine GoL.q (op_len rfl) ?_ (hg := Wn.some rfl rfl rfl hg13)
          refine GoL.q (op_gtr rfl rfl) ?_ (hg := Wn.some rfl rfl rfl hg13)
          exact GoL.part (k := 4) rfl rfl rfl
        refine GoL.q (op_move rfl) ?_
        apply GoL.and (m := 4) (x := 159) rfl rfl rfl rfl rfl rfl rfl rfl (Wn.none rfl)
        · intro hg14
          refine GoL.q (op_move rfl) ?_ (hg := Wn.some rfl rfl rfl hg14)
          refine GoL.q (op_fieldAddr rfl) ?_ (hg := Wn.some rfl rfl rfl hg14)
          refine GoL.q (op_load rfl rfl) ?_ (hg := Wn.some rfl rfl rfl hg14)
          refine GoL.p (op_cValL [cells (some ⟨b2, 0, none⟩) 0 (cI x p)] (f := fn_law17_Code_c1) (us := [.pointer (some ⟨b2, 0, none⟩)]) (vs := [.int .i64 (y.Bikes[v.1].Sat)]) (v := .bool (thereF x (y.Bikes[v.1].Sat))) rfl rfl (fun sh w h => there_spec x p b2 (y.Bikes[v.1].Sat) sh w h)) ?_ (hg := Wn.some rfl rfl rfl hg14)
          exact GoL.part (k := 4) rfl rfl rfl
        refine GoL.q (op_assign rfl) ?_
        refine GoL.nil .next ?_
        refine GoC.seq ?_
        refine GoC.seq ?_
        refine GoC.region ?_
        refine GoL.q (op_fieldAddr rfl) ?_
        refine GoL.q (op_load rfl rfl) ?_
        refine GoL.q (op_len rfl) ?_
        refine GoL.q (op_move rfl) ?_
        refine GoL.nil .next ?_
        refine GoC.block ?_
        refine GoC.loop (σ := Nat × Bool × Int × List Int × List Int) (fun z => [(164, .int .i64 (z.1 : Int)), (8, .bool z.2.1), (21, .int .i64 z.2.2.1)]) [(144, _), (9, _), (10, _), (11, _), (2, _), (5, _), (6, _), (7, _), (142, _), (143, _), (20, _), (162, _), (163, _)] (fun z => [cel b20 68 [.int .i64 y.Bikes[v.1].Sat, .slice q1.2.1 y.Bikes[v.1].Stops.length q1.2.2], own ty_i64 t64 (some ⟨g.1, 0, none⟩) x.Sats.length s.2.2.2, own ty_i64 t64 (some ⟨g.2, 0, none⟩) x.Sats.length z.2.2.2.2, own 3 t64 (some ⟨b50, 0, none⟩) x.Customers.length z.2.2.2.1, cel b3 45 (cP y r), cel b2 40 (cI x p)]) (fun z => _) (fun z => z.1 ≤ y.Bikes[v.1].Stops.length ∧ (z.2.2.2.1.length = x.Customers.length ∧ z.2.2.2.2.length = x.Sats.length ∧ (z.2.1 = true → 0 ≤ y.Bikes[v.1].Sat ∧ y.Bikes[v.1].Sat < x.Sats.length) ∧ codeC x y.Bikes[v.1].Sat (y.Bikes[v.1].Stops.drop z.1) z.2 = codeC x y.Bikes[v.1].Sat y.Bikes[v.1].Stops ((v.2.1 && decide (0 < (y.Bikes[v.1].Stops.length : Int))) && thereF x y.Bikes[v.1].Sat, 0, v.2.2.2.1, v.2.2.2.2))) (fun z => y.Bikes[v.1].Stops.length - z.1) (0, (v.2.1 && decide (0 < (y.Bikes[v.1].Stops.length : Int))) && thereF x y.Bikes[v.1].Sat, 0, v.2.2.2.1, v.2.2.2.2) ⟨by simp, hv2.1, hv2.2.1, by intro h5; simp only [thereF, Bool.and_eq_true, decide_eq_true_eq] at h5; exact h5.2, rfl⟩ ⟨rfl, rfl, rfl, rfl, rfl, rfl, rfl, rfl, rfl, rfl, rfl, rfl, rfl, rfl, rfl, rfl, trivial⟩ (fun _ h => h) ?_
        intro z ⟨hz1, hz2⟩
        refine GoC.seq ?_
        refine GoC.region ?_
        refine GoL.q (op_lss rfl rfl) ?_
        refine GoL.nil .next ?_
        refine GoC.seq ?_
        refine GoC.cond rfl (fun hc15 => ?_) (fun hc15 => ?_)
        · have hlt5 : z.1 < y.Bikes[v.1].Stops.length := by simpa using hc15
          refine GoC.skipTo .next ?_
          refine GoC.seq ?_
          refine GoC.block ?_
          refine GoC.seq ?_
          refine GoC.openR (n := 1) q1.2.1 z.1 hlt5 (fun _ hq2 => ?_)
          refine GoC.region ?_
          refine GoL.q (op_indexR rfl rfl rfl (by first | assumption | omega)) ?_
          refine GoL.q (op_loadE rfl rfl) ?_
          refine GoL.q (op_assign rfl) ?_
          refine GoL.nil .next ?_
          refine GoC.seq ?_
          refine GoC.region ?_
          refine GoL.q (op_move rfl) ?_
          refine GoL.q (op_move rfl) ?_
          apply GoL.and (m := 2) (x := 171) rfl rfl rfl rfl rfl rfl rfl rfl (Wn.none rfl)
          · intro hg16
            refine GoL.q (op_move rfl) ?_ (hg := Wn.some rfl rfl rfl hg16)
            refine GoL.q (op_geq rfl rfl) ?_ (hg := Wn.some rfl rfl rfl hg16)
            exact GoL.part (k := 2) rfl rfl rfl
          refine GoL.q (op_move rfl) ?_
          apply GoL.and (m := 3) (x := 176) rfl rfl rfl rfl rfl rfl rfl rfl (Wn.none rfl)
          · intro hg17
            refine GoL.q (op_move rfl) ?_ (hg := Wn.some rfl rfl rfl hg17)
            refine GoL.q (op_move rfl) ?_ (hg := Wn.some rfl rfl rfl hg17)
            refine GoL.q (op_lss rfl rfl) ?_ (hg := Wn.some rfl rfl rfl hg17)
            exact GoL.part (k := 3) rfl rfl rfl
          refine GoL.q (op_assign rfl) ?_
          refine GoL.nil .next ?_
          refine GoC.seq ?_
          refine GoC.region ?_
          refine GoL.q (op_move rfl) ?_
          refine GoL.nil .next ?_
          refine GoC.cond rfl (fun hc18 => ?_) (fun hc18 => ?_)
          · have hr1 := hc18
            refine GoC.seq ?_
            have hcc : 0 ≤ y.Bikes[v.1].Stops[z.1] ∧ y.Bikes[v.1].Stops[z.1] < x.Customers.length := by simp at hr1; omega
            have hbs : 0 ≤ y.Bikes[v.1].Sat ∧ y.Bikes[v.1].Sat < x.Sats.length := hz2.2.2.1 (by simp at hr1; exact hr1.1.1)
            have hl1 : y.Bikes[v.1].Stops[z.1].toNat < z.2.2.2.1.length := by omega
            have hl2 : y.Bikes[v.1].Stops[z.1].toNat < x.Customers.length := by omega
            have hl3 : y.Bikes[v.1].Sat.toNat < z.2.2.2.2.length := by omega
            refine GoC.openR (n := 4) p.u.1 y.Bikes[v.1].Stops[z.1].toNat hl2 (fun _ hq3 => ?_)
            refine GoC.region ?_
            refine GoL.q (op_move rfl) ?_
            refine GoL.q (op_move rfl) ?_
            refine GoL.q (op_indexO rfl rfl (Int.toNat_of_nonneg hcc.1).symm hl1 (by first | rfl | omega | (simp only [List.length_set]; omega))) ?_
            refine GoL.q (op_loadO rfl (by intro _ _ _ _ h; exact h.1) (by first | assumption | omega) rfl) ?_
            refine GoL.q (op_add rfl rfl) ?_
            refine GoL.q (op_indexO rfl rfl (Int.toNat_of_nonneg hcc.1).symm hl1 (by first | rfl | omega | (simp only [List.length_set]; omega))) ?_
            refine GoL.y0 (op_storeO (xv := w64 (z.2.2.2.1[y.Bikes[v.1].Stops[z.1].toNat] + 1)) rfl rfl hl1 (by intro _ _; exact ⟨rfl, w64_w64 _⟩)) ?_
            rintro _ _ _ ⟨rfl, rfl, rfl⟩
            refine GoL.nil .next ?_
            refine GoC.sub (E' := [(164, _), (8, _), (21, _), (144, _), (9, _), (10, _), (11, _), (2, _), (5, _), (6, _), (7, _), (142, _), (143, _), (20, _), (162, _), (163, _), (23, _)]) ⟨rfl, rfl, rfl, rfl, rfl, rfl, rfl, rfl, rfl, rfl, rfl, rfl, rfl, rfl, rfl, rfl, rfl, trivial⟩ ?_
            refine GoC.seq ?_
            have hl1s : y.Bikes[v.1].Stops[z.1].toNat < (z.2.2.2.1.set y.Bikes[v.1].Stops[z.1].toNat (w64 (z.2.2.2.1[y.Bikes[v.1].Stops[z.1].toNat] + 1))).length := by simpa using hl1
            refine GoC.region ?_
            refine GoL.q (op_move rfl) ?_
            refine GoL.q (op_move rfl) ?_
            refine GoL.q (op_indexO rfl rfl (Int.toNat_of_nonneg hcc.1).symm hl1s (by first | rfl | omega | (simp only [List.length_set]; omega))) ?_
            refine GoL.q (op_loadO rfl (by intro _ _ _ _ h; exact h.1) (by first | assumption | omega) rfl) ?_
            refine GoL.q (op_eql rfl rfl) ?_
            refine GoL.q (op_assign rfl) ?_
            refine GoL.nil .next ?_
            refine GoC.seq ?_
            refine GoC.region ?_
            refine GoL.q (op_move rfl) ?_
            refine GoL.q (op_fieldAddr rfl) ?_
            refine GoL.q (op_load rfl rfl) ?_
            refine GoL.q (op_move rfl) ?_
            refine GoL.q (op_indexR rfl rfl (Int.toNat_of_nonneg hcc.1).symm hl2) ?_
            refine GoL.q (op_fieldAddrE rfl) ?_
            refine GoL.q (op_loadF rfl rfl) ?_
            refine GoL.q (op_add rfl rfl) ?_
            refine GoL.q (op_assign rfl) ?_
            refine GoL.nil .next ?_
            refine GoC.sub (E' := [(164, _), (8, _), (21, _), (144, _), (9, _), (10, _), (11, _), (2, _), (5, _), (6, _), (7, _), (142, _), (143, _), (20, _), (162, _), (163, _), (23, _)]) ⟨rfl, rfl, rfl, rfl, rfl, rfl, rfl, rfl, rfl, rfl, rfl, rfl, rfl, rfl, rfl, rfl, rfl, trivial⟩ ?_
            refine GoC.draw 11 [] [0, 1, 2, 3, 4, 5, 6, 7, 8, 9, 10] (by kernel_rfl) Pr_mixed ?_
            refine Can.q rfl (op_move rfl) ?_
            refine Can.q rfl (op_fieldAddr rfl) ?_
            refine Can.q rfl (op_load rfl rfl) ?_
            refine Can.q rfl (op_indexO rfl rfl (Int.toNat_of_nonneg hbs.1).symm hl3 (by first | rfl | omega | (simp only [List.length_set]; omega))) ?_
            refine Can.q rfl (op_loadO rfl (by intro _ _ _ _ h; exact h.1) (by first | assumption | omega) rfl) ?_
            refine Can.q rfl (op_fieldAddr rfl) ?_
            refine Can.q rfl (op_load rfl rfl) ?_
            refine Can.q rfl (op_move rfl) ?_
            refine Can.q rfl (op_indexR rfl rfl (Int.toNat_of_nonneg hcc.1).symm hl2) ?_
            refine Can.q rfl (op_fieldAddrE rfl) ?_
            refine Can.q rfl (op_loadF rfl rfl) ?_
            refine Can.nil rfl ?_
            refine GoL.q (op_add rfl rfl) ?_
            refine GoL.q (op_indexO rfl rfl (Int.toNat_of_nonneg hbs.1).symm hl3 (by first | rfl | omega | (simp only [List.length_set]; omega))) ?_
            refine GoL.y0 (op_storeO (xv := w64 (z.2.2.2.2[y.Bikes[v.1].Sat.toNat] + x.Customers[y.Bikes[v.1].Stops[z.1].toNat].Load)) rfl rfl hl3 (by intro _ _; exact ⟨rfl, w64_w64 _⟩)) ?_
            rintro _ _ _ ⟨rfl, rfl, rfl⟩
            refine GoL.nil (.blockNormal (.next)) ?_
            refine GoC.sub (E' := [(164, _), (8, _), (21, _), (144, _), (9, _), (10, _), (11, _), (2, _), (5, _), (6, _), (7, _), (142, _), (143, _), (20, _), (162, _), (163, _)]) ⟨rfl, rfl, rfl, rfl, rfl, rfl, rfl, rfl, rfl, rfl, rfl, rfl, rfl, rfl, rfl, rfl, trivial⟩ ?_
            refine GoC.region ?_
            refine GoL.q (op_inc rfl (by omega)) ?_
            refine GoL.q (op_move rfl) ?_
            exact GoL.again (z.1 + 1, _, w64 (z.2.2.1 + x.Customers[y.Bikes[v.1].Stops[z.1].toNat].Load), z.2.2.2.1.set y.Bikes[v.1].Stops[z.1].toNat (w64 (z.2.2.2.1[y.Bikes[v.1].Stops[z.1].toNat] + 1)), z.2.2.2.2.set y.Bikes[v.1].Sat.toNat (w64 (z.2.2.2.2[y.Bikes[v.1].Sat.toNat] + x.Customers[y.Bikes[v.1].Stops[z.1].toNat].Load))) ⟨by omega, by simpa using hz2.1, by simpa using hz2.2.1, fun _ => hbs, by have h5 := hz2.2.2.2; rw [List.drop_eq_getElem_cons hlt5, codeC, if_pos hr1, addAt, addAt, getD_lt _ hl1, getD_lt _ hl3, loadOf, getD_lt _ hl2, getD_lt _ (by simpa using hl1)] at h5; exact h5⟩ (by simp only; omega) ⟨rfl, rfl, rfl, rfl, rfl, rfl, rfl, rfl, rfl, rfl, rfl, rfl, rfl, rfl, rfl, rfl, trivial⟩
          · have hr1 := hc18
            refine GoC.skipTo (.blockNormal (.next)) ?_
            refine GoC.region ?_
            refine GoL.q (op_inc rfl (by omega)) ?_
            refine GoL.q (op_move rfl) ?_
            exact GoL.again (z.1 + 1, (z.2.1 && decide (0 ≤ y.Bikes[v.1].Stops[z.1])) && decide (y.Bikes[v.1].Stops[z.1] < (x.Customers.length : Int)), z.2.2.1, z.2.2.2.1, z.2.2.2.2) ⟨by omega, hz2.1, hz2.2.1, (fun h5 => by rw [hr1] at h5; cases h5), by rw [hr1]; have h5 := hz2.2.2.2; rw [List.drop_eq_getElem_cons hlt5, codeC, if_neg (Bool.eq_false_iff.1 hr1)] at h5; exact h5⟩ (by simp only; omega) ⟨rfl, rfl, rfl, rfl, rfl, rfl, rfl, rfl, rfl, rfl, rfl, rfl, rfl, rfl, rfl, rfl, trivial⟩
        · have hge5 : y.Bikes[v.1].Stops.length ≤ z.1 := by simpa using hc15
          refine GoC.exit (.thenExit (.thenExit (.blockSame (.next)))) ?_
          refine GoC.region ?_
          refine GoL.q (op_move rfl) ?_
          refine GoL.q (op_move rfl) ?_
          apply GoL.and (m := 5) (x := 218) rfl rfl rfl rfl rfl rfl rfl rfl (Wn.none rfl)
          · intro hg19
            refine GoL.q (op_move rfl) ?_ (hg := Wn.some rfl rfl rfl hg19)
            refine GoL.q (op_fieldAddr rfl) ?_ (hg := Wn.some rfl rfl rfl hg19)
            refine GoL.q (op_fieldAddr rfl) ?_ (hg := Wn.some rfl rfl rfl hg19)
            refine GoL.q (op_load rfl rfl) ?_ (hg := Wn.some rfl rfl rfl hg19)
            refine GoL.q (op_leq rfl rfl) ?_ (hg := Wn.some rfl rfl rfl hg19)
            exact GoL.part (k := 5) rfl rfl rfl
          refine GoL.q (op_assign rfl) ?_
          refine GoL.nil (.blockNormal (.next)) ?_
          refine GoC.region ?_
          refine GoL.q (op_inc rfl (by omega)) ?_
          refine GoL.q (op_move rfl) ?_
          exact GoL.again (v.1 + 1, (z.2.1, _, z.2.2.2.1, z.2.2.2.2)) ⟨by omega, hz2.1, hz2.2.1, by have h5 := hv2.2.2; have h6 := hz2.2.2.2; rw [List.drop_of_length_le hge5, codeC] at h6; rw [List.drop_eq_getElem_cons hlt4, codeB, ← h6] at h5; exact h5⟩ (by simp only; omega) ⟨rfl, rfl, rfl, rfl, rfl, rfl, rfl, rfl, rfl, rfl, rfl, trivial⟩
      · have hge4 : y.Bikes.length ≤ v.1 := by simpa using hc12
        refine GoC.exit (.thenExit (.thenExit (.blockSame (.next)))) ?_
        refine GoC.seq ?_
        refine GoC.seq ?_
        refine GoC.region ?_
        refine GoL.q (op_move rfl) ?_
        refine GoL.q (op_not rfl) ?_
        refine GoL.nil .next ?_
        refine GoC.cond rfl (fun hc20 => ?_) (fun hc20 => ?_)
        · have hnr := hc20
          refine GoC.seq ?_
          refine GoC.region ?_
          refine GoL.q (op_assign rfl) ?_
          refine GoL.nil .next ?_
          refine GoC.ret (.thenRet (.here)) ?_
          refine done1 rfl rfl ?_
          intro w' hw
          have he2 : code2 x y = v.2 := by rw [← hv2.2.2, List.drop_of_length_le hge4]; rfl
          have hc1 : (!(code2 x y).1) = true := by rw [he2]; exact hnr
          have e : codeF x y = 15 := ((if_neg (Bool.eq_false_iff.1 hmany)).trans (if_pos hc1))
          exact ⟨by rw [e], hw.keep⟩
        · have hnr := hc20
          refine GoC.skipTo .next ?_
          refine GoC.seq ?_
          refine GoC.seq ?_
          refine GoC.region ?_
          refine GoL.q (op_move rfl) ?_
          refine GoL.q (op_len rfl) ?_
          refine GoL.q (op_move rfl) ?_
          refine GoL.nil .next ?_
          refine GoC.block ?_
          have he2 : code2 x y = v.2 := by rw [← hv2.2.2, List.drop_of_length_le hge4]; rfl
          have hlv1 := hv2.1
          have hlv2 := hv2.2.1
          refine GoC.loop (σ := Nat) (fun i => [(225, .int .i64 (i : Int))]) [(9, _), (10, _), (11, _), (2, _), (223, _), (224, _)] (fun i => _) (fun i => _) (fun i => i ≤ v.2.2.2.1.length ∧ noneF (v.2.2.2.1.drop i) = noneF v.2.2.2.1) (fun i => v.2.2.2.1.length - i) 0 ⟨by simp, rfl⟩ ⟨rfl, rfl, rfl, rfl, rfl, rfl, rfl, trivial⟩ (fun _ h => h) ?_
          intro i ⟨hi1, hi2⟩
          refine GoC.seq ?_
          refine GoC.region ?_
          refine GoL.q (op_lss rfl rfl) ?_
          refine GoL.nil .next ?_
          refine GoC.seq ?_
          refine GoC.cond rfl (fun hc21 => ?_) (fun hc21 => ?_)
          · have hlt6 : i < v.2.2.2.1.length := by have := of_decide_eq_true hc21; omega
            refine GoC.skipTo .next ?_
            refine GoC.seq ?_
            refine GoC.block ?_
            refine GoC.seq ?_
            refine GoC.region ?_
            refine GoL.q (op_indexO rfl rfl rfl hlt6 (by first | rfl | omega | (simp only [List.length_set]; omega))) ?_
            refine GoL.q (op_loadO rfl (by intro _ _ _ _ h; exact h.1) (by first | assumption | omega) rfl) ?_
            refine GoL.q (op_assign rfl) ?_
            refine GoL.nil .next ?_
            refine GoC.seq ?_
            refine GoC.region ?_
            refine GoL.q (op_move rfl) ?_
            refine GoL.q (op_eql rfl rfl) ?_
            refine GoL.nil .next ?_
            refine GoC.cond rfl (fun hc22 => ?_) (fun hc22 => ?_)
            · have hno := hc22
              refine GoC.seq ?_
              refine GoC.region ?_
              refine GoL.q (op_assign rfl) ?_
              refine GoL.nil .next ?_
              refine GoC.ret (.blockRet (.thenRet (.thenRet (.blockRet (.thenRet (.here)))))) ?_
              refine done1 rfl rfl ?_
              intro w' hw
              have hc1 : (!(code2 x y).1) = false := by rw [he2]; exact hnr
              have hc2 : noneF (code2 x y).2.2.1 = true := by rw [he2, ← hi2, List.drop_eq_getElem_cons hlt6, noneF, if_pos hno]
              have e : codeF x y = 8 := ((if_neg (Bool.eq_false_iff.1 hmany)).trans ((if_neg (Bool.eq_false_iff.1 hc1)).trans (if_pos hc2)))
              exact ⟨by rw [e], hw.keep⟩
            · have hno := hc22
              refine GoC.skipTo (.blockNormal (.next)) ?_
              refine GoC.region ?_
              refine GoL.q (op_inc rfl (by omega)) ?_
              refine GoL.q (op_move rfl) ?_
              exact GoL.again (i + 1) ⟨by omega, by rw [List.drop_eq_getElem_cons hlt6, noneF, if_neg (Bool.eq_false_iff.1 hno)] at hi2; exact hi2⟩ (by omega) ⟨rfl, rfl, rfl, rfl, rfl, rfl, rfl, trivial⟩
          · have hge6 : v.2.2.2.1.length ≤ i := by have := of_decide_eq_false hc21; omega
            refine GoC.exit (.thenExit (.thenExit (.blockSame (.next)))) ?_
            refine GoC.seq ?_
            refine GoC.seq ?_
            refine GoC.region ?_
            refine GoL.q (op_move rfl) ?_
            refine GoL.q (op_len rfl) ?_
            refine GoL.q (op_move rfl) ?_
            refine GoL.nil .next ?_
            refine GoC.block ?_
            refine GoC.loop (σ := Nat × Bool) (fun k => [(234, .int .i64 (k.1 : Int)), (9, .bool k.2)]) [(10, _), (11, _), (2, _), (232, _), (233, _)] (fun k => _) (fun k => _) (fun k => k.1 ≤ v.2.2.2.2.length ∧ roomL (v.2.2.2.2.drop k.1) (x.Sats.drop k.1) k.2 = roomL v.2.2.2.2 x.Sats v.2.2.1) (fun k => v.2.2.2.2.length - k.1) (0, v.2.2.1) ⟨by simp, rfl⟩ ⟨rfl, rfl, rfl, rfl, rfl, rfl, rfl, trivial⟩ (fun _ h => h) ?_
            intro k ⟨hk1, hk2⟩
            refine GoC.seq ?_
            refine GoC.region ?_
            refine GoL.q (op_lss rfl rfl) ?_
            refine GoL.nil .next ?_
            refine GoC.seq ?_
            refine GoC.cond rfl (fun hc23 => ?_) (fun hc23 => ?_)
            · have hlt7 : k.1 < v.2.2.2.2.length := by have := of_decide_eq_true hc23; omega
              refine GoC.skipTo .next ?_
              refine GoC.seq ?_
              refine GoC.block ?_
              refine GoC.seq ?_
              have hltm : k.1 < x.Sats.length := by omega
              refine GoC.openR (n := 2) p.s.1 k.1 hltm (fun _ hq3 => ?_)
              refine GoC.region ?_
              refine GoL.q (op_move rfl) ?_
              refine GoL.q (op_indexO rfl rfl rfl hlt7 (by first | rfl | omega | (simp only [List.length_set]; omega))) ?_
              refine GoL.q (op_loadO rfl (by intro _ _ _ _ h; exact h.1) (by first | assumption | omega) rfl) ?_
              refine GoL.q (op_assign rfl) ?_
              refine GoL.q (op_assign rfl) ?_
              refine GoL.nil .next ?_
              refine GoC.region ?_
              refine GoL.q (op_move rfl) ?_
              refine GoL.q (op_move rfl) ?_
              apply GoL.and (m := 8) (x := 248) rfl rfl rfl rfl rfl rfl rfl rfl (Wn.none rfl)
              · intro hg24
                refine GoL.q (op_move rfl) ?_ (hg := Wn.some rfl rfl rfl hg24)
                refine GoL.q (op_fieldAddr rfl) ?_ (hg := Wn.some rfl rfl rfl hg24)
                refine GoL.q (op_load rfl rfl) ?_ (hg := Wn.some rfl rfl rfl hg24)
                refine GoL.q (op_move rfl) ?_ (hg := Wn.some rfl rfl rfl hg24)
                refine GoL.q (op_indexR rfl rfl rfl hltm) ?_ (hg := Wn.some rfl rfl rfl hg24)
                refine GoL.q (op_fieldAddrE rfl) ?_ (hg := Wn.some rfl rfl rfl hg24)
                refine GoL.q (op_loadF rfl rfl) ?_ (hg := Wn.some rfl rfl rfl hg24)
                refine GoL.q (op_leq rfl rfl) ?_ (hg := Wn.some rfl rfl rfl hg24)
                exact GoL.part (k := 8) rfl rfl rfl
              refine GoL.q (op_assign rfl) ?_
              refine GoL.nil (.blockNormal (.next)) ?_
              refine GoC.region ?_
              refine GoL.q (op_inc rfl (by omega)) ?_
              refine GoL.q (op_move rfl) ?_
              exact GoL.again (k.1 + 1, _) ⟨by omega, by rw [List.drop_eq_getElem_cons hlt7, List.drop_eq_getElem_cons hltm, roomL] at hk2; exact hk2⟩ (by simp only; omega) ⟨rfl, rfl, rfl, rfl, rfl, rfl, rfl, trivial⟩
            · have hge7 : v.2.2.2.2.length ≤ k.1 := by have := of_decide_eq_false hc23; omega
              refine GoC.exit (.thenExit (.thenExit (.blockSame (.next)))) ?_
              refine GoC.seq ?_
              refine GoC.block ?_
              refine GoC.seq ?_
              refine GoC.region ?_
              refine GoL.q (op_move rfl) ?_
              refine GoL.q (op_not rfl) ?_
              refine GoL.q (op_assign rfl) ?_
              refine GoL.nil .next ?_
              refine GoC.cond rfl (fun hc25 => ?_) (fun hc25 => ?_)
              · have hnl := hc25
                refine GoC.seq ?_
                refine GoC.region ?_
                refine GoL.q (op_assign rfl) ?_
                refine GoL.nil .next ?_
                refine GoC.ret (.blockRet (.thenRet (.here))) ?_
                refine done1 rfl rfl ?_
                intro w' hw
                have hc1 : (!(code2 x y).1) = false := by rw [he2]; exact hnr
                have hc2 : noneF (code2 x y).2.2.1 = false := by rw [he2, ← hi2, List.drop_of_length_le hge6]; rfl
                have hk3 : roomL v.2.2.2.2 x.Sats v.2.2.1 = k.2 := by rw [← hk2, List.drop_of_length_le hge7]; rfl
                have hc3 : (!roomL (code2 x y).2.2.2 x.Sats (code2 x y).2.1) = true := by rw [he2, hk3]; exact hnl
                have e : codeF x y = 10 := ((if_neg (Bool.eq_false_iff.1 hmany)).trans ((if_neg (Bool.eq_false_iff.1 hc1)).trans ((if_neg (Bool.eq_false_iff.1 hc2)).trans (if_pos hc3))))
                exact ⟨by rw [e], hw.keep⟩
              · have hnl := hc25
                refine GoC.seq ?_
                refine GoC.region ?_
                refine GoL.q (op_move rfl) ?_
                refine GoL.q (op_move rfl) ?_
                refine GoL.p (op_callL [ro t64 (some ⟨g.2, 0, none⟩) x.Sats.length v.2.2.2.2, ro t64 (some ⟨g.1, 0, none⟩) x.Sats.length s.2.2.2] (vs := [.slice (some ⟨g.2, 0, none⟩) x.Sats.length x.Sats.length, .slice (some ⟨g.1, 0, none⟩) x.Sats.length x.Sats.length]) (v := .bool (decide (v.2.2.2.2 = s.2.2.2))) rfl (fun sh w h => by have h5 := equal64_spec v.2.2.2.2 s.2.2.2 (some ⟨g.2, 0, none⟩) (some ⟨g.1, 0, none⟩) x.Sats.length x.Sats.length (by omega) sh w h; rw [hlv2, hs2.1] at h5; exact h5)) ?_
                refine GoL.q (op_not rfl) ?_
                refine GoL.q (op_assign rfl) ?_
                refine GoL.nil .next ?_
                refine GoC.cond rfl (fun hc26 => ?_) (fun hc26 => ?_)
                · have hne := hc26
                  refine GoC.seq ?_
                  refine GoC.region ?_
                  refine GoL.q (op_assign rfl) ?_
                  refine GoL.nil .next ?_
                  refine GoC.ret (.blockRet (.thenRet (.here))) ?_
                  refine done1 rfl rfl ?_
                  intro w' hw
                  have hc1 : (!(code2 x y).1) = false := by rw [he2]; exact hnr
                  have hc2 : noneF (code2 x y).2.2.1 = false := by rw [he2, ← hi2, List.drop_of_length_le hge6]; rfl
                  have hk3 : roomL v.2.2.2.2 x.Sats v.2.2.1 = k.2 := by rw [← hk2, List.drop_of_length_le hge7]; rfl
                  have hc3 : (!roomL (code2 x y).2.2.2 x.Sats (code2 x y).2.1) = false := by rw [he2, hk3]; exact hnl
                  have hc4 : (!decide ((code2 x y).2.2.2 = (code1 x y).2.2)) = true := by rw [he2, he1]; exact hne
                  have e : codeF x y = 13 := ((if_neg (Bool.eq_false_iff.1 hmany)).trans ((if_neg (Bool.eq_false_iff.1 hc1)).trans ((if_neg (Bool.eq_false_iff.1 hc2)).trans ((if_neg (Bool.eq_false_iff.1 hc3)).trans (if_pos hc4)))))
                  exact ⟨by rw [e], hw.keep⟩
                · have hne := hc26
                  refine GoC.skipTo (.blockNormal (.next)) ?_
                  refine GoC.seq ?_
                  refine GoC.region ?_
                  refine GoL.q (op_assign rfl) ?_
                  refine GoL.nil .next ?_
                  refine GoC.ret .here ?_
                  refine done1 rfl rfl ?_
                  intro w' hw
                  have hc1 : (!(code2 x y).1) = false := by rw [he2]; exact hnr
                  have hc2 : noneF (code2 x y).2.2.1 = false := by rw [he2, ← hi2, List.drop_of_length_le hge6]; rfl
                  have hk3 : roomL v.2.2.2.2 x.Sats v.2.2.1 = k.2 := by rw [← hk2, List.drop_of_length_le hge7]; rfl
                  have hc3 : (!roomL (code2 x y).2.2.2 x.Sats (code2 x y).2.1) = false := by rw [he2, hk3]; exact hnl
                  have hc4 : (!decide ((code2 x y).2.2.2 = (code1 x y).2.2)) = false := by rw [he2, he1]; exact hne
                  have e : codeF x y = 0 := ((if_neg (Bool.eq_false_iff.1 hmany)).trans ((if_neg (Bool.eq_false_iff.1 hc1)).trans ((if_neg (Bool.eq_false_iff.1 hc2)).trans ((if_neg (Bool.eq_false_iff.1 hc3)).trans (if_neg (Bool.eq_false_iff.1 hc4))))))
                  exact ⟨by rw [e], hw.keep⟩
end Go.Proofs.Ytdeacehacndopaa

namespace Go.Proofs.Ytdeacehacndopaa
open Go.RowKit

set_option maxRecDepth 20000 in
theorem at_spec (l : List Int) (a : Option Addr) (c : Nat) (i : Int) (hi : 0 ≤ i) (hl : l.length ≤ 9223372036854775807) (sh : Nat → Prop) (w : World) (h : Holds ⟨0, w, [], sh⟩ [] [ro t8 a c l] w) :
    Calls Pr fn_law17_at #[.slice a l.length c, .int .i64 i] w fun e w' => e = .returned (.int .i64 (atF l i)) ∧ Ext w w' := by
  refine Calls.of_go (args := [_, _]) fn_law17_at_f rfl rfl rfl h ?_
  refine GoC.seq ?_
  refine GoC.region ?_
  refine GoL.q (op_assign rfl) ?_
  refine GoL.nil .next ?_
  refine GoC.seq ?_
  refine GoC.seq ?_
  refine GoC.region ?_
  refine GoL.q (op_move rfl) ?_
  refine GoL.q (op_len rfl) ?_
  refine GoL.q (op_eql rfl rfl) ?_
  refine GoL.nil .next ?_
  refine GoC.cond rfl (fun hc0 => ?_) (fun hc0 => ?_)
  · have h0 : (l.length : Int) = 0 := of_decide_eq_true hc0
    refine GoC.seq ?_
    refine GoC.region ?_
    refine GoL.q (op_assign rfl) ?_
    refine GoL.nil .next ?_
    refine GoC.ret (.thenRet (.here)) ?_
    refine done1 rfl rfl ?_
    intro w' hw
    exact ⟨by rw [atF, if_pos h0], hw.keep⟩
  · have h0 : ¬ (l.length : Int) = 0 := of_decide_eq_false hc0
    refine GoC.skipTo .next ?_
    refine GoC.seq ?_
    have hlp : (0 : Int) < l.length := by omega
    have hk0 := Int.emod_lt_of_pos i hlp
    have hk1 := Int.emod_nonneg i h0
    have hk : (i % (l.length : Int)).toNat < l.length := by omega
    refine GoC.openR (n := 1) a (i % (l.length : Int)).toNat hk (fun _ hq => ?_)
    refine GoC.region ?_
    refine GoL.q (op_move rfl) ?_
    refine GoL.q (op_move rfl) ?_
    refine GoL.q (op_move rfl) ?_
    refine GoL.q (op_len rfl) ?_
    refine GoL.q (op_rem rfl rfl hi h0) ?_
    refine GoL.q (op_indexR rfl rfl (Int.toNat_of_nonneg (Int.emod_nonneg _ h0)).symm hk) ?_
    refine GoL.q (op_loadE rfl rfl) ?_
    refine GoL.q (op_conv rfl) ?_
    refine GoL.q (op_assign rfl) ?_
    refine GoL.nil .next ?_
    refine GoC.ret .here ?_
    refine done1 rfl rfl ?_
    intro w' hw
    exact ⟨by rw [atF, if_neg h0, getD_lt _ hk], hw.keep⟩
set_option maxRecDepth 20000 in
theorem square11_spec (l : List Int) (a : Option Addr) (c n : Nat) (hn : n ≤ 10) (hl : l.length ≤ 9223372036854775807) (sh : Nat → Prop) (w : World) (h : Holds ⟨0, w, [], sh⟩ [] [ro t8 a c l] w) :
    Calls Pr fn_law11_square #[.slice a l.length c, .int .i64 (n : Int)] w fun e w' => ∃ g : { g : Row (Row Int) // g.l.map (·.l) = squareN l n }, e = .returned (.slice g.1.a g.1.l.length g.1.c) ∧ Holds ⟨0, w, [], sh⟩ [own ty_s_i64 (tH Int) g.1.a g.1.c g.1.l, grp (g.1.l.map (inr ty_i64 t64))] [] w' := by
  refine Calls.of_go (args := [_, _]) fn_law11_square_f rfl rfl rfl h ?_
  refine GoC.seq ?_
  refine GoC.region ?_
  refine GoL.q (op_assign rfl) ?_
  refine GoL.nil .next ?_
  refine GoC.seq ?_
  refine GoC.region ?_
  refine GoL.q (op_assign rfl) ?_
  refine GoL.nil .next ?_
  refine GoC.seq ?_
  refine GoC.region ?_
  refine GoL.q (op_assign rfl) ?_
  refine GoL.nil .next ?_
  refine GoC.seq ?_
  refine GoC.seq ?_
  refine GoC.grpNil (inr ty_i64 t64) ?_
  refine GoC.ownNil ty_s_i64 (tH Int) ?_
  refine GoC.region ?_
  refine GoL.q (op_move rfl) ?_
  refine GoL.q (op_move rfl) ?_
  refine GoL.nil .next ?_
  refine GoC.block ?_
  refine GoC.loop (σ := Nat × Row (Row Int) × Int) (fun s => [(11, .int .i64 (s.1 : Int)), (5, .slice s.2.1.a s.2.1.l.length s.2.1.c), (6, .int .i64 s.2.2)]) [(0, _), (1, _), (10, _)] (fun s => [own ty_s_i64 (tH Int) s.2.1.a s.2.1.c s.2.1.l, grp (s.2.1.l.map (inr ty_i64 t64))]) (fun s => _) (fun s => s.1 ≤ n ∧ 0 ≤ s.2.2 ∧ s.2.2 ≤ 10 * s.1 ∧ ((s.2.1.l.length = s.1) ∧ ((List.range n).drop s.1).foldl (rowStep l n) (s.2.1.l.map (·.l), s.2.2) = (List.range n).foldl (rowStep l n) ([], 0))) (fun s => n - s.1) (0, ⟨none, 0, []⟩, 0) ⟨by simp, by simp, by simp, by simp, rfl⟩ ⟨rfl, rfl, rfl, rfl, rfl, rfl, trivial⟩ (fun _ h => h) ?_
  intro s ⟨hs1, hs2⟩
  refine GoC.seq ?_
  refine GoC.region ?_
  refine GoL.q (op_lss rfl rfl) ?_
  refine GoL.nil .next ?_
  refine GoC.seq ?_
  refine GoC.cond rfl (fun hc0 => ?_) (fun hc0 => ?_)
  · have hlt : s.1 < n := by have := of_decide_eq_true hc0; omega
    refine GoC.skipTo .next ?_
    refine GoC.seq ?_
    refine GoC.block ?_
    refine GoC.seq ?_
    refine GoC.region ?_
    refine GoL.q (op_move rfl) ?_
    refine GoL.q (op_assign rfl) ?_
    refine GoL.nil .next ?_
    refine GoC.seq ?_
    refine GoC.region ?_
    refine GoL.q (op_move rfl) ?_
    refine GoL.x (op_make (ty := t64) (0 : Int) (fun _ _ => ⟨rfl, rfl⟩) rfl (by omega) (by simp only [maxLen]; omega)) ?_
    rintro _ _ _ ⟨b15, rfl, rfl, rfl⟩
    refine GoL.q (op_assign rfl) ?_
    refine GoL.nil .next ?_
    refine GoC.seq ?_
    refine GoC.seq ?_
    refine GoC.region ?_
    refine GoL.q (op_move rfl) ?_
    refine GoL.q (op_len rfl) ?_
    refine GoL.q (op_move rfl) ?_
    refine GoL.nil .next ?_
    refine GoC.block ?_
    refine GoC.loop (σ := Nat × List Int × Int) (fun u => [(18, .int .i64 (u.1 : Int)), (6, .int .i64 u.2.2)]) [(11, _), (5, _), (0, _), (1, _), (10, _), (7, _), (8, _), (17, _)] (fun u => [own ty_i64 t64 (some ⟨b15, 0, none⟩) n u.2.1, own ty_s_i64 (tH Int) s.2.1.a s.2.1.c s.2.1.l, grp (s.2.1.l.map (inr ty_i64 t64))]) (fun u => _) (fun u => u.1 ≤ n ∧ (u.2.1.length = n ∧ 0 ≤ u.2.2 ∧ u.2.2 ≤ 10 * s.1 + u.1 ∧ ((List.range n).drop u.1).foldl (cellStep l s.1) u.2 = (List.range n).foldl (cellStep l s.1) (List.replicate n 0, s.2.2))) (fun u => n - u.1) (0, List.replicate n 0, s.2.2) ⟨by simp, by simp, hs2.1, by simp; exact hs2.2.1, rfl⟩ ⟨rfl, rfl, rfl, rfl, rfl, rfl, rfl, rfl, rfl, rfl, trivial⟩ (fun _ h => h) ?_
    intro u ⟨hu1, hu2⟩
    refine GoC.seq ?_
    refine GoC.region ?_
    refine GoL.q (op_lss rfl rfl) ?_
    refine GoL.nil .next ?_
    refine GoC.seq ?_
    refine GoC.cond rfl (fun hc1 => ?_) (fun hc1 => ?_)
    · have hlt2 : u.1 < n := by have := of_decide_eq_true hc1; omega
      refine GoC.skipTo .next ?_
      refine GoC.seq ?_
      refine GoC.block ?_
      refine GoC.seq ?_
      refine GoC.region ?_
      refine GoL.q (op_move rfl) ?_
      refine GoL.q (op_assign rfl) ?_
      refine GoL.nil .next ?_
      refine GoC.seq ?_
      refine GoC.region ?_
      refine GoL.q (op_move rfl) ?_
      refine GoL.q (op_move rfl) ?_
      refine GoL.q (op_neq rfl rfl) ?_
      refine GoL.q (op_move rfl) ?_
      apply GoL.and (m := 3) (x := 27) rfl rfl rfl rfl rfl rfl rfl rfl (Wn.none rfl)
      · intro hg2
        refine GoL.q (op_move rfl) ?_ (hg := Wn.some rfl rfl rfl hg2)
        refine GoL.q (op_len rfl) ?_ (hg := Wn.some rfl rfl rfl hg2)
        refine GoL.q (op_gtr rfl rfl) ?_ (hg := Wn.some rfl rfl rfl hg2)
        exact GoL.part (k := 3) rfl rfl rfl
      refine GoL.nil .next ?_
      refine GoC.cond rfl (fun hc3 => ?_) (fun hc3 => ?_)
      · have hin := hc3
        have hl1 : u.1 < u.2.1.length := by have := hu2.1; omega
        refine GoC.seq ?_
        have hij : ¬ (s.1 : Int) = (u.1 : Int) ∧ (0 : Int) < l.length := by simpa using hin
        have hk0 := Int.emod_lt_of_pos u.2.2 hij.2
        have hk1 := Int.emod_nonneg u.2.2 (Int.ne_of_gt hij.2)
        have hk : (u.2.2 % (l.length : Int)).toNat < l.length := by omega
        refine GoC.openR (n := 1) a (u.2.2 % (l.length : Int)).toNat hk (fun _ hq => ?_)
        refine GoC.region ?_
        refine GoL.q (op_move rfl) ?_
        refine GoL.q (op_move rfl) ?_
        refine GoL.q (op_move rfl) ?_
        refine GoL.q (op_move rfl) ?_
        refine GoL.q (op_move rfl) ?_
        refine GoL.q (op_len rfl) ?_
        refine GoL.q (op_rem rfl rfl hu2.2.1 (Int.ne_of_gt hij.2)) ?_
        refine GoL.q (op_indexR rfl rfl (Int.toNat_of_nonneg hk1).symm hk) ?_
        refine GoL.q (op_loadE rfl rfl) ?_
        refine GoL.q (op_rem rfl rfl (U8.rng hq).1 (by decide)) ?_
        refine GoL.q (op_conv rfl) ?_
        refine GoL.q (op_indexO rfl rfl rfl hl1 (by first | rfl | omega | (simp only [List.length_set]; omega))) ?_
        refine GoL.y0 (op_storeO (xv := w64 (l[(u.2.2 % (l.length : Int)).toNat] % 30)) rfl rfl hl1 (by intro _ _; exact ⟨rfl, w64_w64 _⟩)) ?_
        rintro _ _ _ ⟨rfl, rfl, rfl⟩
        refine GoL.nil .next ?_
        refine GoC.sub (E' := [(18, _), (6, _), (11, _), (5, _), (0, _), (1, _), (10, _), (7, _), (8, _), (17, _)]) ⟨rfl, rfl, rfl, rfl, rfl, rfl, rfl, rfl, rfl, rfl, trivial⟩ ?_
        refine GoC.region ?_
        refine GoL.q (op_move rfl) ?_
        refine GoL.q (op_add rfl rfl) ?_
        refine GoL.q (op_assign rfl) ?_
        refine GoL.nil (.blockNormal (.next)) ?_
        refine GoC.region ?_
        refine GoL.q (op_inc rfl (by omega)) ?_
        refine GoL.q (op_move rfl) ?_
        exact GoL.again (u.1 + 1, u.2.1.set u.1 (w64 (l[(u.2.2 % (l.length : Int)).toNat] % 30)), w64 (u.2.2 + 1)) ⟨by omega, by simpa using hu2.1, by simp only; rw [w64_id (by have := hu2.2.2.1; have := hu2.2.1; omega)]; have := hu2.2.1; omega, by simp only; rw [w64_id (by have := hu2.2.2.1; have := hu2.2.1; omega)]; have := hu2.2.2.1; omega, by have h5 := hu2.2.2.2; rw [List.drop_eq_getElem_cons (by simpa using hlt2), List.foldl_cons, List.getElem_range, cellStep, if_pos hin, getD_lt _ hk] at h5; exact h5⟩ (by simp only; omega) ⟨rfl, rfl, rfl, rfl, rfl, rfl, rfl, rfl, rfl, rfl, trivial⟩
      · have hin := hc3
        refine GoC.skipTo (.blockNormal (.next)) ?_
        refine GoC.region ?_
        refine GoL.q (op_inc rfl (by omega)) ?_
        refine GoL.q (op_move rfl) ?_
        exact GoL.again (u.1 + 1, u.2.1, u.2.2) ⟨by omega, hu2.1, hu2.2.1, by simp only; have := hu2.2.2.1; omega, by have h5 := hu2.2.2.2; rw [List.drop_eq_getElem_cons (by simpa using hlt2), List.foldl_cons, List.getElem_range, cellStep, if_neg (Bool.eq_false_iff.1 hin)] at h5; exact h5⟩ (by simp only; omega) ⟨rfl, rfl, rfl, rfl, rfl, rfl, rfl, rfl, rfl, rfl, trivial⟩
    · have hge2 : n ≤ u.1 := by have := of_decide_eq_false hc1; omega
      refine GoC.exit (.thenExit (.thenExit (.blockSame (.next)))) ?_
      have he : u.2 = (List.range n).foldl (cellStep l s.1) (List.replicate n 0, s.2.2) := by rw [← hu2.2.2.2, List.drop_of_length_le (by simpa using hge2)]; rfl
      refine GoC.region ?_
      refine GoL.q (op_move rfl) ?_
      refine GoL.q (op_move rfl) ?_
      refine GoL.x (op_buildSlice1 rfl rfl rfl) ?_
      rintro _ _ _ ⟨b46, rfl, rfl, rfl⟩
      refine GoL.y (op_append1 ((⟨some ⟨b15, 0, none⟩, n, u.2.1⟩ : Row Int)) rfl rfl (by rfl) (by intro _ _ _; show [_] = [_]; rw [hu2.1]) (by have := hs2.2.2.1; omega)) ?_
      rintro _ _ _ ⟨a47, c47, rfl, rfl, rfl⟩
      refine GoL.pushEnd (f := inr ty_i64 t64) s.2.1.l (⟨some ⟨b15, 0, none⟩, n, u.2.1⟩ : Row Int) ?_
      refine GoL.q (op_assign rfl) ?_
      refine GoL.nil (.blockNormal (.next)) ?_
      refine GoC.region ?_
      refine GoL.q (op_inc rfl (by omega)) ?_
      refine GoL.q (op_move rfl) ?_
      exact GoL.again (s.1 + 1, ⟨a47, c47, s.2.1.l ++ [⟨some ⟨b15, 0, none⟩, n, u.2.1⟩]⟩, u.2.2) ⟨by omega, hu2.2.1, by simp only; have := hu2.2.2.1; omega, by simp [hs2.2.2.1], by have h5 := hs2.2.2.2; rw [List.drop_eq_getElem_cons (by simpa using hlt), List.foldl_cons, List.getElem_range, rowStep, ← he] at h5; simpa using h5⟩ (by simp only; omega) ⟨rfl, rfl, rfl, rfl, rfl, rfl, trivial⟩
  · have hge : n ≤ s.1 := by have := of_decide_eq_false hc0; omega
    refine GoC.exit (.thenExit (.thenExit (.blockSame (.next)))) ?_
    refine GoC.seq ?_
    refine GoC.region ?_
    refine GoL.q (op_move rfl) ?_
    refine GoL.q (op_assign rfl) ?_
    refine GoL.nil .next ?_
    refine GoC.ret .here ?_
    refine done1 rfl rfl ?_
    intro w' hw
    have he : s.2.1.l.map (·.l) = squareN l n := by have h5 := hs2.2.2.2; rw [List.drop_of_length_le (by simpa using hge)] at h5; rw [squareN, ← h5]; rfl
    exact ⟨⟨s.2.1, he⟩, rfl, hw.n.drop (List.Sublist.refl _) (by simp)⟩
end Go.Proofs.Ytdeacehacndopaa

namespace Go.Proofs.Ytdeacehacndopaa
open Go.RowKit
theorem rep_sat {r h : Int} (hr : w64 r = r) (hh : w64 h = h) (sh : Nat → Prop) (w : World) : tSat.rep sh w [.int .i64 r, .int .i64 h] ⟨r, h⟩ := ⟨[_], [_], rfl, ⟨rfl, hr⟩, ⟨rfl, hh⟩⟩
theorem rep_cust {a b c d : Int} (ha : w64 a = a) (hb : w64 b = b) (hc : w64 c = c) (hd : w64 d = d) (sh : Nat → Prop) (w : World) : tCustomer.rep sh w [.int .i64 a, .int .i64 b, .int .i64 c, .int .i64 d] ⟨a, b, c, d⟩ :=
  ⟨[_], [_, _, _], rfl, ⟨rfl, ha⟩, [_], [_, _], rfl, ⟨rfl, hb⟩, [_], [_], rfl, ⟨rfl, hc⟩, ⟨rfl, hd⟩⟩
theorem satStep_len {wd : Int} : ∀ {l : List Sat8} {o : List Sat}, o.length ≤ 3 → (l.foldl (satStep wd) o).length ≤ 3
  | [], _, h => h
  | s :: l, o, h => by
    rw [List.foldl_cons]
    refine satStep_len ?_
    unfold satStep
    split
    · rename_i h3; simp; omega
    · exact h
theorem custStep_len {wd : Int} {t : Bool} : ∀ {l : List Who} {o : List Customer}, o.length ≤ 6 → (l.foldl (custStep wd t) o).length ≤ 6
  | [], _, h => h
  | s :: l, o, h => by
    rw [List.foldl_cons]
    refine custStep_len ?_
    unfold custStep
    split
    · rename_i h3; simp; omega
    · exact h
theorem satsM_len (x : Small) : (satsM x).length ≤ 3 ∧ 1 ≤ (satsM x).length := by
  have := satStep_len (wd := wideF x) (l := x.Sats) (o := []) (by simp)
  unfold satsM
  split
  · simp
  · omega
theorem custsM_len (x : Small) : (custsM x).length ≤ 6 ∧ 1 ≤ (custsM x).length := by
  have := custStep_len (wd := wideF x) (t := x.Tight) (l := x.Customers) (o := []) (by simp)
  unfold custsM
  split
  · simp
  · omega

set_option maxRecDepth 20000 in
theorem make_spec (x : Small) (p : HS) (hS : OkS x) (sh : Nat → Prop) (w : World) (h : Holds ⟨0, w, [], sh⟩ [] (rS x p []) w) :
    Calls Pr fn_law11_Make #[.agg (cS x p).toArray] w fun e w' => ∃ g : { g : Inst0 // g.x = makeF x }, e = .returned (.agg (c0 g.1).toArray) ∧ Holds ⟨0, w, [], sh⟩ (w0 g.1 []) [] w' := by
  have e1 := U8.rng hS.e
  have e2 := U8.rng hS.t
  have e3 := U8.rng hS.tr
  have e4 := U8.rng hS.b
  have e5 := U8.rng hS.br
  have ls := hS.ls
  have lu := hS.lu
  refine Calls.of_go (args := [_]) fn_law11_Make_f rfl rfl rfl h ?_
  refine GoC.seq ?_
  refine GoC.region ?_
  refine GoL.x (op_box rfl rfl) ?_
  rintro _ _ _ ⟨b1, rfl, rfl, rfl⟩
  refine GoL.x (op_alloc) ?_
  rintro _ _ _ ⟨b2, rfl, rfl, rfl⟩
  refine GoL.nil .next ?_
  refine GoC.seq ?_
  refine GoC.region ?_
  refine GoL.q (op_assign rfl) ?_
  refine GoL.nil .next ?_
  refine GoC.seq ?_
  refine GoC.joinE (γ := Int) (fun wd => [(3, .int .i64 wd)]) [(1, _), (2, _)] (fun wd => wd = wideF x) ⟨rfl, rfl, trivial⟩ ?_ ?_
  · refine GoC.seq ?_
    refine GoC.region ?_
    refine GoL.q (op_fieldAddr rfl) ?_
    refine GoL.q (op_load rfl rfl) ?_
    refine GoL.nil .next ?_
    refine GoC.cond rfl (fun hc0 => ?_) (fun hc0 => ?_)
    · have hlo : x.Loose = true := hc0
      refine GoC.region ?_
      refine GoL.q (op_assign rfl) ?_
      exact GoL.meet 9 .next (by rw [wideF, if_pos hlo]) ⟨rfl, rfl, rfl, trivial⟩
    · have hlo : x.Loose = false := hc0
      exact GoC.meet 1 .next (by rw [wideF, if_neg (Bool.eq_false_iff.1 hlo)]) ⟨rfl, rfl, rfl, trivial⟩
  intro wd hwd
  subst hwd
  refine GoC.seq ?_
  refine GoC.region ?_
  refine GoL.q (op_fieldAddr rfl) ?_
  refine GoL.q (op_load rfl rfl) ?_
  refine GoL.q (op_conv rfl) ?_
  refine GoL.q (op_move rfl) ?_
  refine GoL.q (op_mul rfl rfl) ?_
  refine GoL.q (op_add rfl rfl) ?_
  refine GoL.q (op_fieldAddr rfl) ?_
  refine GoL.q (op_load rfl rfl) ?_
  refine GoL.q (op_rem rfl rfl e2.1 (by decide)) ?_
  refine GoL.q (op_conv rfl) ?_
  refine GoL.q (op_add rfl rfl) ?_
  refine GoL.q (op_move rfl) ?_
  refine GoL.q (op_fieldAddr rfl) ?_
  refine GoL.q (op_load rfl rfl) ?_
  refine GoL.q (op_rem rfl rfl e3.1 (by decide)) ?_
  refine GoL.q (op_conv rfl) ?_
  refine GoL.q (op_mul rfl rfl) ?_
  refine GoL.q (op_add rfl rfl) ?_
  refine GoL.q (op_build1 ([.int .i64 (makeF x).Trucks.Many, .int .i64 (makeF x).Trucks.Room]) rfl rfl) ?_
  refine GoL.q (op_fieldAddr rfl) ?_
  refine GoL.q (op_load rfl rfl) ?_
  refine GoL.q (op_rem rfl rfl e4.1 (by decide)) ?_
  refine GoL.q (op_conv rfl) ?_
  refine GoL.q (op_add rfl rfl) ?_
  refine GoL.q (op_move rfl) ?_
  refine GoL.q (op_fieldAddr rfl) ?_
  refine GoL.q (op_load rfl rfl) ?_
  refine GoL.q (op_rem rfl rfl e5.1 (by decide)) ?_
  refine GoL.q (op_conv rfl) ?_
  refine GoL.q (op_mul rfl rfl) ?_
  refine GoL.q (op_add rfl rfl) ?_
  refine GoL.q (op_build1 ([.int .i64 (makeF x).Bikes.Many, .int .i64 (makeF x).Bikes.Room]) rfl rfl) ?_
  refine GoL.q (op_build1 ([.int .i64 (makeF x).End, .int .i64 (makeF x).Trucks.Many, .int .i64 (makeF x).Trucks.Room, .int .i64 (makeF x).Bikes.Many, .int .i64 (makeF x).Bikes.Room, .slice none 0 0, .slice none 0 0, .slice none 0 0, .slice none 0 0]) rfl rfl) ?_
  refine GoL.x (op_alloc) ?_
  rintro _ _ _ ⟨b4, rfl, rfl, rfl⟩
  refine GoL.y0 (op_store (cs' := [.int .i64 (makeF x).End, .int .i64 (makeF x).Trucks.Many, .int .i64 (makeF x).Trucks.Room, .int .i64 (makeF x).Bikes.Many, .int .i64 (makeF x).Bikes.Room, .slice none 0 0, .slice none 0 0, .slice none 0 0, .slice none 0 0]) rfl rfl rfl rfl (by simp [Value.oneCell']) (Nat.le_of_ble_eq_true rfl) rfl) ?_
  rintro _ _ _ ⟨rfl, rfl, rfl⟩
  refine GoL.nil .next ?_
  refine GoC.sub (E' := [(3, _), (1, _), (2, _), (4, _)]) ⟨rfl, rfl, rfl, rfl, trivial⟩ ?_
  refine GoC.seq ?_
  refine GoC.seq ?_
  refine GoC.region ?_
  refine GoL.q (op_fieldAddr rfl) ?_
  refine GoL.q (op_load rfl rfl) ?_
  refine GoL.q (op_len rfl) ?_
  refine GoL.q (op_move rfl) ?_
  refine GoL.nil .next ?_
  refine GoC.block ?_
  refine GoC.ownNil ty_inst_Sat tSat ?_
  refine GoC.loop (σ := Nat × Row Sat) (fun s => [(49, .int .i64 (s.1 : Int))]) [(3, _), (1, _), (2, _), (4, _), (47, _), (48, _)] (fun s => [cel b4 40 [.int .i64 (makeF x).End, .int .i64 (makeF x).Trucks.Many, .int .i64 (makeF x).Trucks.Room, .int .i64 (makeF x).Bikes.Many, .int .i64 (makeF x).Bikes.Room, .slice s.2.a s.2.l.length s.2.c, .slice none 0 0, .slice none 0 0, .slice none 0 0], own ty_inst_Sat tSat s.2.a s.2.c s.2.l, cel b2 40 [.int .i64 0, .int .i64 0, .int .i64 0, .int .i64 0, .int .i64 0, .slice none 0 0, .slice none 0 0, .slice none 0 0, .slice none 0 0], cel b1 26 (cS x p)]) (fun s => _) (fun s => s.1 ≤ x.Sats.length ∧ (s.2.l.length ≤ 3 ∧ (x.Sats.drop s.1).foldl (satStep (wideF x)) s.2.l = x.Sats.foldl (satStep (wideF x)) [])) (fun s => x.Sats.length - s.1) (0, ⟨none, 0, []⟩) ⟨by simp, by simp, rfl⟩ ⟨rfl, rfl, rfl, rfl, rfl, rfl, rfl, trivial⟩ (fun _ h => h.perm (List.Perm.swap _ _ _)) ?_
  intro s ⟨hs1, hs2⟩
  refine GoC.seq ?_
  refine GoC.region ?_
  refine GoL.q (op_lss rfl rfl) ?_
  refine GoL.nil .next ?_
  refine GoC.seq ?_
  refine GoC.cond rfl (fun hc1 => ?_) (fun hc1 => ?_)
  · have hlt : s.1 < x.Sats.length := by simpa using hc1
    refine GoC.skipTo .next ?_
    refine GoC.seq ?_
    refine GoC.block ?_
    refine GoC.seq ?_
    refine GoC.openR (n := 2) p.s.1 s.1 hlt (fun _ hq => ?_)
    have f1 := U8.rng hq.1
    have f2 := U8.rng hq.2
    refine GoC.region ?_
    refine GoL.q (op_indexR rfl rfl rfl (by first | assumption | omega)) ?_
    refine GoL.q (op_loadEA rfl rfl) ?_
    refine GoL.x (op_alloc) ?_
    rintro _ _ _ ⟨b6, rfl, rfl, rfl⟩
    refine GoL.y0 (op_store rfl rfl rfl rfl (by simp [Value.oneCell']) (Nat.le_of_ble_eq_true rfl) rfl) ?_
    rintro _ _ _ ⟨rfl, rfl, rfl⟩
    refine GoL.nil .next ?_
    refine GoC.seq ?_
    refine GoC.region ?_
    refine GoL.q (op_fieldAddr rfl) ?_
    refine GoL.q (op_load rfl rfl) ?_
    refine GoL.q (op_len rfl) ?_
    refine GoL.q (op_lss rfl rfl) ?_
    refine GoL.nil .next ?_
    refine GoC.cond rfl (fun hc2 => ?_) (fun hc2 => ?_)
    · have hl3 := of_decide_eq_true hc2
      refine GoC.region ?_
      refine GoL.q (op_fieldAddr rfl) ?_
      refine GoL.q (op_load rfl rfl) ?_
      refine GoL.q (op_move rfl) ?_
      refine GoL.q (op_fieldAddr rfl) ?_
      refine GoL.q (op_load rfl rfl) ?_
      refine GoL.q (op_rem rfl rfl f1.1 (by decide)) ?_
      refine GoL.q (op_conv rfl) ?_
      refine GoL.q (op_mul rfl rfl) ?_
      refine GoL.q (op_add rfl rfl) ?_
      refine GoL.q (op_fieldAddr rfl) ?_
      refine GoL.q (op_load rfl rfl) ?_
      refine GoL.q (op_rem rfl rfl f2.1 (by decide)) ?_
      refine GoL.q (op_conv rfl) ?_
      refine GoL.q (op_build1 ([.int .i64 (⟨w64 (4 + w64 (wideF x * w64 (x.Sats[s.1].Room % 40))), w64 (x.Sats[s.1].Hold % 12)⟩ : Sat).Room, .int .i64 (⟨w64 (4 + w64 (wideF x * w64 (x.Sats[s.1].Room % 40))), w64 (x.Sats[s.1].Hold % 12)⟩ : Sat).Hold]) rfl rfl) ?_
      refine GoL.x (op_buildSlice1 rfl rfl rfl) ?_
      rintro _ _ _ ⟨b71, rfl, rfl, rfl⟩
      refine GoL.y (op_append1 ((⟨w64 (4 + w64 (wideF x * w64 (x.Sats[s.1].Room % 40))), w64 (x.Sats[s.1].Hold % 12)⟩ : Sat)) rfl rfl (by rfl) (by intro _ _ _; exact rep_sat (w64_w64 _) (w64_w64 _) _ _) (by omega)) ?_
      rintro _ _ _ ⟨a72, c72, rfl, rfl, rfl⟩
      refine GoL.q (op_fieldAddr rfl) ?_
      refine GoL.y0 (op_store (cs' := [.int .i64 (makeF x).End, .int .i64 (makeF x).Trucks.Many, .int .i64 (makeF x).Trucks.Room, .int .i64 (makeF x).Bikes.Many, .int .i64 (makeF x).Bikes.Room, .slice (⟨a72, c72, s.2.l ++ [(⟨w64 (4 + w64 (wideF x * w64 (x.Sats[s.1].Room % 40))), w64 (x.Sats[s.1].Hold % 12)⟩ : Sat)]⟩ : Row Sat).a (⟨a72, c72, s.2.l ++ [(⟨w64 (4 + w64 (wideF x * w64 (x.Sats[s.1].Room % 40))), w64 (x.Sats[s.1].Hold % 12)⟩ : Sat)]⟩ : Row Sat).l.length (⟨a72, c72, s.2.l ++ [(⟨w64 (4 + w64 (wideF x * w64 (x.Sats[s.1].Room % 40))), w64 (x.Sats[s.1].Hold % 12)⟩ : Sat)]⟩ : Row Sat).c, .slice none 0 0, .slice none 0 0, .slice none 0 0]) rfl rfl rfl rfl (by simp [Value.oneCell']) (Nat.le_of_ble_eq_true rfl) rfl) ?_
      rintro _ _ _ ⟨rfl, rfl, rfl⟩
      refine GoL.nil (.blockNormal (.next)) ?_
      refine GoC.sub (E' := [(49, _), (3, _), (1, _), (2, _), (4, _), (47, _), (48, _)]) ⟨rfl, rfl, rfl, rfl, rfl, rfl, rfl, trivial⟩ ?_
      refine GoC.region ?_
      refine GoL.q (op_inc rfl (by omega)) ?_
      refine GoL.q (op_move rfl) ?_
      exact GoL.again (s.1 + 1, (⟨a72, c72, s.2.l ++ [(⟨w64 (4 + w64 (wideF x * w64 (x.Sats[s.1].Room % 40))), w64 (x.Sats[s.1].Hold % 12)⟩ : Sat)]⟩ : Row Sat)) ⟨by omega, by simp only [List.length_append, List.length_singleton]; omega, by have h5 := hs2.2; rw [List.drop_eq_getElem_cons hlt, List.foldl_cons, satStep, if_pos hl3] at h5; exact h5⟩ (by simp only; omega) ⟨rfl, rfl, rfl, rfl, rfl, rfl, rfl, trivial⟩
    · have hl3 := of_decide_eq_false hc2
      refine GoC.skipTo (.blockNormal (.next)) ?_
      refine GoC.region ?_
      refine GoL.q (op_inc rfl (by omega)) ?_
      refine GoL.q (op_move rfl) ?_
      exact GoL.again (s.1 + 1, s.2) ⟨by omega, hs2.1, by have h5 := hs2.2; rw [List.drop_eq_getElem_cons hlt, List.foldl_cons, satStep, if_neg hl3] at h5; exact h5⟩ (by simp only; omega) ⟨rfl, rfl, rfl, rfl, rfl, rfl, rfl, trivial⟩
  · have hge : x.Sats.length ≤ s.1 := by simpa using hc1
    refine GoC.exit (.thenExit (.thenExit (.blockSame (.next)))) ?_
    refine GoC.seq ?_
    refine GoC.joinS (γ := Row Sat) (fun g => []) [(49, _), (3, _), (1, _), (2, _), (4, _), (47, _), (48, _)] (fun g => [cel b4 40 [.int .i64 (makeF x).End, .int .i64 (makeF x).Trucks.Many, .int .i64 (makeF x).Trucks.Room, .int .i64 (makeF x).Bikes.Many, .int .i64 (makeF x).Bikes.Room, .slice g.a g.l.length g.c, .slice none 0 0, .slice none 0 0, .slice none 0 0], own ty_inst_Sat tSat g.a g.c g.l, cel b2 40 [.int .i64 0, .int .i64 0, .int .i64 0, .int .i64 0, .int .i64 0, .slice none 0 0, .slice none 0 0, .slice none 0 0, .slice none 0 0], cel b1 26 (cS x p)]) (fun g => g.l = satsM x) ⟨rfl, rfl, rfl, rfl, rfl, rfl, rfl, trivial⟩ ?_ ?_
    · refine GoC.seq ?_
      have hsf : x.Sats.foldl (satStep (wideF x)) [] = s.2.l := by rw [← hs2.2, List.drop_of_length_le hge]; rfl
      refine GoC.region ?_
      refine GoL.q (op_fieldAddr rfl) ?_
      refine GoL.q (op_load rfl rfl) ?_
      refine GoL.q (op_len rfl) ?_
      refine GoL.q (op_eql rfl rfl) ?_
      refine GoL.nil .next ?_
      refine GoC.cond rfl (fun hc3 => ?_) (fun hc3 => ?_)
      · have hl0 := of_decide_eq_true hc3
        refine GoC.region ?_
        refine GoL.q (op_build1 ([.int .i64 60, .int .i64 2]) rfl rfl) ?_
        refine GoL.x (op_buildSlice1 rfl rfl rfl) ?_
        rintro _ _ _ ⟨b80, rfl, rfl, rfl⟩
        refine GoL.q (op_fieldAddr rfl) ?_
        refine GoL.y0 (op_store (cs' := [.int .i64 (makeF x).End, .int .i64 (makeF x).Trucks.Many, .int .i64 (makeF x).Trucks.Room, .int .i64 (makeF x).Bikes.Many, .int .i64 (makeF x).Bikes.Room, .slice (some ⟨b80, 0, none⟩) 1 1, .slice none 0 0, .slice none 0 0, .slice none 0 0]) rfl rfl rfl rfl (by simp [Value.oneCell']) (Nat.le_of_ble_eq_true rfl) rfl) ?_
        rintro _ _ _ ⟨rfl, rfl, rfl⟩
        refine GoL.celOwn (ty := tSat) b80 ⟨60, 2⟩ (rep_sat rfl rfl) ?_
        exact GoL.meet ⟨some ⟨b80, 0, none⟩, 1, [⟨60, 2⟩]⟩ .next (by rw [satsM, hsf, if_pos hl0]) ⟨rfl, rfl, rfl, rfl, rfl, rfl, rfl, trivial⟩
      · have hl0 := of_decide_eq_false hc3
        exact GoC.meet s.2 .next (by rw [satsM, hsf, if_neg hl0]) ⟨rfl, rfl, rfl, rfl, rfl, rfl, rfl, trivial⟩
    intro g hg
    refine GoC.seq ?_
    refine GoC.seq ?_
    refine GoC.region ?_
    refine GoL.q (op_fieldAddr rfl) ?_
    refine GoL.q (op_load rfl rfl) ?_
    refine GoL.q (op_len rfl) ?_
    refine GoL.q (op_move rfl) ?_
    refine GoL.nil .next ?_
    refine GoC.block ?_
    refine GoC.ownNil ty_inst_Customer tCustomer ?_
    refine GoC.loop (σ := Nat × Row Customer) (fun u => [(85, .int .i64 (u.1 : Int))]) [(3, _), (1, _), (2, _), (4, _), (83, _), (84, _)] (fun u => [cel b4 40 [.int .i64 (makeF x).End, .int .i64 (makeF x).Trucks.Many, .int .i64 (makeF x).Trucks.Room, .int .i64 (makeF x).Bikes.Many, .int .i64 (makeF x).Bikes.Room, .slice g.a g.l.length g.c, .slice u.2.a u.2.l.length u.2.c, .slice none 0 0, .slice none 0 0], own ty_inst_Sat tSat g.a g.c g.l, own ty_inst_Customer tCustomer u.2.a u.2.c u.2.l, cel b2 40 [.int .i64 0, .int .i64 0, .int .i64 0, .int .i64 0, .int .i64 0, .slice none 0 0, .slice none 0 0, .slice none 0 0, .slice none 0 0], cel b1 26 (cS x p)]) (fun u => _) (fun u => u.1 ≤ x.Customers.length ∧ (u.2.l.length ≤ 6 ∧ (x.Customers.drop u.1).foldl (custStep (wideF x) x.Tight) u.2.l = x.Customers.foldl (custStep (wideF x) x.Tight) [])) (fun u => x.Customers.length - u.1) (0, ⟨none, 0, []⟩) ⟨by simp, by simp, rfl⟩ ⟨rfl, rfl, rfl, rfl, rfl, rfl, rfl, trivial⟩ (fun _ h => (h.perm (List.Perm.swap _ _ _)).perm ((List.Perm.swap _ _ _).cons _)) ?_
    intro u ⟨hu1, hu2⟩
    refine GoC.seq ?_
    refine GoC.region ?_
    refine GoL.q (op_lss rfl rfl) ?_
    refine GoL.nil .next ?_
    refine GoC.seq ?_
    refine GoC.cond rfl (fun hc4 => ?_) (fun hc4 => ?_)
    · have hlt2 : u.1 < x.Customers.length := by simpa using hc4
      refine GoC.skipTo .next ?_
      refine GoC.seq ?_
      refine GoC.block ?_
      refine GoC.seq ?_
      refine GoC.openR (n := 4) p.u.1 u.1 hlt2 (fun _ hq => ?_)
      have f1 := U8.rng hq.1
      have f2 := U8.rng hq.2.1
      have f4 := U8.rng hq.2.2.2
      refine GoC.region ?_
      refine GoL.q (op_indexR rfl rfl rfl (by first | assumption | omega)) ?_
      refine GoL.q (op_loadEA rfl rfl) ?_
      refine GoL.x (op_alloc) ?_
      rintro _ _ _ ⟨b8, rfl, rfl, rfl⟩
      refine GoL.y0 (op_store rfl rfl rfl rfl (by simp [Value.oneCell']) (Nat.le_of_ble_eq_true rfl) rfl) ?_
      rintro _ _ _ ⟨rfl, rfl, rfl⟩
      refine GoL.nil .next ?_
      refine GoC.seq ?_
      refine GoC.region ?_
      refine GoL.q (op_fieldAddr rfl) ?_
      refine GoL.q (op_load rfl rfl) ?_
      refine GoL.q (op_len rfl) ?_
      refine GoL.q (op_lss rfl rfl) ?_
      refine GoL.nil .next ?_
      refine GoC.cond rfl (fun hc5 => ?_) (fun hc5 => ?_)
      · have hl6 := of_decide_eq_true hc5
        refine GoC.seq ?_
        refine GoC.region ?_
        refine GoL.q (op_fieldAddr rfl) ?_
        refine GoL.q (op_load rfl rfl) ?_
        refine GoL.q (op_rem rfl rfl f1.1 (by decide)) ?_
        refine GoL.q (op_conv rfl) ?_
        refine GoL.q (op_add rfl rfl) ?_
        refine GoL.q (op_assign rfl) ?_
        refine GoL.nil .next ?_
        refine GoC.seq ?_
        refine GoC.joinE (γ := Int) (fun ld => [(9, .int .i64 ld)]) [(85, _), (3, _), (1, _), (2, _), (4, _), (83, _), (84, _), (8, _)] (fun ld => ld = (custM (wideF x) x.Tight x.Customers[u.1]).Load) ⟨rfl, rfl, rfl, rfl, rfl, rfl, rfl, rfl, trivial⟩ ?_ ?_
        · refine GoC.seq ?_
          refine GoC.region ?_
          refine GoL.q (op_fieldAddr rfl) ?_
          refine GoL.q (op_load rfl rfl) ?_
          refine GoL.nil .next ?_
          refine GoC.cond rfl (fun hc6 => ?_) (fun hc6 => ?_)
          · have hti : x.Tight = true := hc6
            refine GoC.region ?_
            refine GoL.q (op_move rfl) ?_
            refine GoL.q (op_fieldAddr rfl) ?_
            refine GoL.q (op_load rfl rfl) ?_
            refine GoL.q (op_quo8 rfl rfl (by omega) (by decide)) ?_
            refine GoL.q (op_conv rfl) ?_
            refine GoL.q (op_add rfl rfl) ?_
            refine GoL.q (op_assign rfl) ?_
            exact GoL.meet _ .next (by simp only [custM, hti, if_true]) ⟨rfl, rfl, rfl, rfl, rfl, rfl, rfl, rfl, rfl, trivial⟩
          · have hti : x.Tight = false := hc6
            exact GoC.meet _ .next (by simp only [custM, hti]; rfl) ⟨rfl, rfl, rfl, rfl, rfl, rfl, rfl, rfl, rfl, trivial⟩
        intro ld hld
        subst hld
        refine GoC.seq ?_
        have hcl : w64 (custM (wideF x) x.Tight x.Customers[u.1]).Load = (custM (wideF x) x.Tight x.Customers[u.1]).Load := by unfold custM; simp only; split <;> exact w64_w64 _
        refine GoC.region ?_
        refine GoL.q (op_fieldAddr rfl) ?_
        refine GoL.q (op_load rfl rfl) ?_
        refine GoL.q (op_rem rfl rfl f2.1 (by decide)) ?_
        refine GoL.q (op_conv rfl) ?_
        refine GoL.q (op_assign rfl) ?_
        refine GoL.nil .next ?_
        refine GoC.region ?_
        refine GoL.q (op_fieldAddr rfl) ?_
        refine GoL.q (op_load rfl rfl) ?_
        refine GoL.q (op_move rfl) ?_
        refine GoL.q (op_move rfl) ?_
        refine GoL.q (op_move rfl) ?_
        refine GoL.q (op_move rfl) ?_
        refine GoL.q (op_fieldAddr rfl) ?_
        refine GoL.q (op_load rfl rfl) ?_
        refine GoL.q (op_conv rfl) ?_
        refine GoL.q (op_mul rfl rfl) ?_
        refine GoL.q (op_add rfl rfl) ?_
        refine GoL.q (op_fieldAddr rfl) ?_
        refine GoL.q (op_load rfl rfl) ?_
        refine GoL.q (op_rem rfl rfl f4.1 (by decide)) ?_
        refine GoL.q (op_conv rfl) ?_
        refine GoL.q (op_build1 ([.int .i64 (custM (wideF x) x.Tight x.Customers[u.1]).Load, .int .i64 (custM (wideF x) x.Tight x.Customers[u.1]).Open, .int .i64 (custM (wideF x) x.Tight x.Customers[u.1]).Close, .int .i64 (custM (wideF x) x.Tight x.Customers[u.1]).Stay]) rfl rfl) ?_
        refine GoL.x (op_buildSlice1 rfl rfl rfl) ?_
        rintro _ _ _ ⟨b126, rfl, rfl, rfl⟩
        refine GoL.y (op_append1 ((custM (wideF x) x.Tight x.Customers[u.1])) rfl rfl (by rfl) (by intro _ _ _; exact rep_cust hcl (w64_w64 _) (w64_w64 _) (w64_w64 _) _ _) (by omega)) ?_
        rintro _ _ _ ⟨a127, c127, rfl, rfl, rfl⟩
        refine GoL.q (op_fieldAddr rfl) ?_
        refine GoL.y0 (op_store (cs' := [.int .i64 (makeF x).End, .int .i64 (makeF x).Trucks.Many, .int .i64 (makeF x).Trucks.Room, .int .i64 (makeF x).Bikes.Many, .int .i64 (makeF x).Bikes.Room, .slice g.a g.l.length g.c, .slice (⟨a127, c127, u.2.l ++ [(custM (wideF x) x.Tight x.Customers[u.1])]⟩ : Row Customer).a (⟨a127, c127, u.2.l ++ [(custM (wideF x) x.Tight x.Customers[u.1])]⟩ : Row Customer).l.length (⟨a127, c127, u.2.l ++ [(custM (wideF x) x.Tight x.Customers[u.1])]⟩ : Row Customer).c, .slice none 0 0, .slice none 0 0]) rfl rfl rfl rfl (by simp [Value.oneCell']) (Nat.le_of_ble_eq_true rfl) rfl) ?_
        rintro _ _ _ ⟨rfl, rfl, rfl⟩
        refine GoL.nil (.blockNormal (.next)) ?_
        refine GoC.sub (E' := [(85, _), (3, _), (1, _), (2, _), (4, _), (83, _), (84, _)]) ⟨rfl, rfl, rfl, rfl, rfl, rfl, rfl, trivial⟩ ?_
        refine GoC.region ?_
        refine GoL.q (op_inc rfl (by omega)) ?_
        refine GoL.q (op_move rfl) ?_
        exact GoL.again (u.1 + 1, (⟨a127, c127, u.2.l ++ [(custM (wideF x) x.Tight x.Customers[u.1])]⟩ : Row Customer)) ⟨by omega, by simp only [List.length_append, List.length_singleton]; omega, by have h5 := hu2.2; rw [List.drop_eq_getElem_cons hlt2, List.foldl_cons, custStep, if_pos hl6] at h5; exact h5⟩ (by simp only; omega) ⟨rfl, rfl, rfl, rfl, rfl, rfl, rfl, trivial⟩
      · have hl6 := of_decide_eq_false hc5
        refine GoC.skipTo (.blockNormal (.next)) ?_
        refine GoC.region ?_
        refine GoL.q (op_inc rfl (by omega)) ?_
        refine GoL.q (op_move rfl) ?_
        exact GoL.again (u.1 + 1, u.2) ⟨by omega, hu2.1, by have h5 := hu2.2; rw [List.drop_eq_getElem_cons hlt2, List.foldl_cons, custStep, if_neg hl6] at h5; exact h5⟩ (by simp only; omega) ⟨rfl, rfl, rfl, rfl, rfl, rfl, rfl, trivial⟩
    · have hge2 : x.Customers.length ≤ u.1 := by simpa using hc4
      refine GoC.exit (.thenExit (.thenExit (.blockSame (.next)))) ?_
      refine GoC.seq ?_
      refine GoC.joinS (γ := Row Customer) (fun k => []) [(85, _), (3, _), (1, _), (2, _), (4, _), (83, _), (84, _)] (fun k => [cel b4 40 [.int .i64 (makeF x).End, .int .i64 (makeF x).Trucks.Many, .int .i64 (makeF x).Trucks.Room, .int .i64 (makeF x).Bikes.Many, .int .i64 (makeF x).Bikes.Room, .slice g.a g.l.length g.c, .slice k.a k.l.length k.c, .slice none 0 0, .slice none 0 0], own ty_inst_Sat tSat g.a g.c g.l, own ty_inst_Customer tCustomer k.a k.c k.l, cel b2 40 [.int .i64 0, .int .i64 0, .int .i64 0, .int .i64 0, .int .i64 0, .slice none 0 0, .slice none 0 0, .slice none 0 0, .slice none 0 0], cel b1 26 (cS x p)]) (fun k => k.l = custsM x) ⟨rfl, rfl, rfl, rfl, rfl, rfl, rfl, trivial⟩ ?_ ?_
      · refine GoC.seq ?_
        have huf : x.Customers.foldl (custStep (wideF x) x.Tight) [] = u.2.l := by rw [← hu2.2, List.drop_of_length_le hge2]; rfl
        refine GoC.region ?_
        refine GoL.q (op_fieldAddr rfl) ?_
        refine GoL.q (op_load rfl rfl) ?_
        refine GoL.q (op_len rfl) ?_
        refine GoL.q (op_eql rfl rfl) ?_
        refine GoL.nil .next ?_
        refine GoC.cond rfl (fun hc7 => ?_) (fun hc7 => ?_)
        · have hl0 := of_decide_eq_true hc7
          refine GoC.region ?_
          refine GoL.q (op_build1 ([.int .i64 2, .int .i64 5, .int .i64 90, .int .i64 1]) rfl rfl) ?_
          refine GoL.x (op_buildSlice1 rfl rfl rfl) ?_
          rintro _ _ _ ⟨b135, rfl, rfl, rfl⟩
          refine GoL.q (op_fieldAddr rfl) ?_
          refine GoL.y0 (op_store (cs' := [.int .i64 (makeF x).End, .int .i64 (makeF x).Trucks.Many, .int .i64 (makeF x).Trucks.Room, .int .i64 (makeF x).Bikes.Many, .int .i64 (makeF x).Bikes.Room, .slice g.a g.l.length g.c, .slice (some ⟨b135, 0, none⟩) 1 1, .slice none 0 0, .slice none 0 0]) rfl rfl rfl rfl (by simp [Value.oneCell']) (Nat.le_of_ble_eq_true rfl) rfl) ?_
          rintro _ _ _ ⟨rfl, rfl, rfl⟩
          refine GoL.celOwn (ty := tCustomer) b135 ⟨2, 5, 90, 1⟩ (rep_cust rfl rfl rfl rfl) ?_
          exact GoL.meet ⟨some ⟨b135, 0, none⟩, 1, [⟨2, 5, 90, 1⟩]⟩ .next (by rw [custsM, huf, if_pos hl0]) ⟨rfl, rfl, rfl, rfl, rfl, rfl, rfl, trivial⟩
        · have hl0 := of_decide_eq_false hc7
          exact GoC.meet u.2 .next (by rw [custsM, huf, if_neg hl0]) ⟨rfl, rfl, rfl, rfl, rfl, rfl, rfl, trivial⟩
      intro k hk
      refine GoC.seq ?_
      have l1 := satsM_len x
      have l2 := custsM_len x
      have hn10 : nM x ≤ 10 := by unfold nM; omega
      have hnM : ((nM x : Nat) : Int) = w64 (w64 (1 + (g.l.length : Int)) + (k.l.length : Int)) := by
        rw [hg, hk, w64_id (n := 1 + ((satsM x).length : Int)) (by omega), w64_id (by omega)]; unfold nM; omega
      refine GoC.draw 11 [4, 9] [0, 1, 2, 3, 5, 6, 7, 4, 8, 10, 9] (by kernel_rfl) Pr_mixed ?_
      refine Can.q rfl (op_fieldAddr rfl) ?_
      refine Can.q rfl (op_load rfl rfl) ?_
      refine Can.q rfl (op_loadA rfl rfl rfl) ?_
      refine Can.p rfl (op_callP rfl fun w _ => nodes11_spec ⟨(makeF x).End, (makeF x).Trucks, (makeF x).Bikes, g.l, k.l, [], []⟩ ⟨(g.a, g.c), (k.a, k.c), (none, 0), (none, 0)⟩ w) ?_
      refine Can.q rfl (op_fieldAddr rfl) ?_
      refine Can.q rfl (op_load rfl rfl) ?_
      refine Can.q rfl (op_loadA rfl rfl rfl) ?_
      refine Can.x rfl (op_callF (vs := [.slice p.k.1 x.Cost.length p.k.2, .int .i64 (w64 (w64 (1 + (g.l.length : Int)) + (k.l.length : Int)))]) rfl (fun sh w h => by have h5 := square11_spec x.Cost p.k.1 p.k.2 (nM x) hn10 hS.lk sh w h; rw [hnM] at h5; exact h5)) ?_
      rintro _ _ _ ⟨m, rfl, rfl, rfl⟩
      refine Can.p rfl (op_callP rfl fun w _ => nodes11_spec ⟨(makeF x).End, (makeF x).Trucks, (makeF x).Bikes, g.l, k.l, [], []⟩ ⟨(g.a, g.c), (k.a, k.c), (none, 0), (none, 0)⟩ w) ?_
      refine Can.q rfl (op_fieldAddr rfl) ?_
      refine Can.x rfl (op_callF (vs := [.slice p.t.1 x.Time.length p.t.2, .int .i64 (w64 (w64 (1 + (g.l.length : Int)) + (k.l.length : Int)))]) rfl (fun sh w h => by have h5 := square11_spec x.Time p.t.1 p.t.2 (nM x) hn10 hS.lt sh w h; rw [hnM] at h5; exact h5)) ?_
      rintro _ _ _ ⟨n, rfl, rfl, rfl⟩
      refine Can.nil rfl ?_
      refine GoL.y0 (op_store (cs' := [.int .i64 (makeF x).End, .int .i64 (makeF x).Trucks.Many, .int .i64 (makeF x).Trucks.Room, .int .i64 (makeF x).Bikes.Many, .int .i64 (makeF x).Bikes.Room, .slice g.a g.l.length g.c, .slice k.a k.l.length k.c, .slice m.1.a m.1.l.length m.1.c, .slice none 0 0]) rfl rfl rfl rfl (by simp [Value.oneCell']) (Nat.le_of_ble_eq_true rfl) rfl) ?_
      rintro _ _ _ ⟨rfl, rfl, rfl⟩
      refine GoL.q (op_fieldAddr rfl) ?_
      refine GoL.y0 (op_store (cs' := [.int .i64 (makeF x).End, .int .i64 (makeF x).Trucks.Many, .int .i64 (makeF x).Trucks.Room, .int .i64 (makeF x).Bikes.Many, .int .i64 (makeF x).Bikes.Room, .slice g.a g.l.length g.c, .slice k.a k.l.length k.c, .slice m.1.a m.1.l.length m.1.c, .slice n.1.a n.1.l.length n.1.c]) rfl rfl rfl rfl (by simp [Value.oneCell']) (Nat.le_of_ble_eq_true rfl) rfl) ?_
      rintro _ _ _ ⟨rfl, rfl, rfl⟩
      refine GoL.nil .next ?_
      refine GoC.seq ?_
      refine GoC.region ?_
      refine GoL.q (op_loadA rfl rfl rfl) ?_
      refine GoL.y0 (op_store (cs' := [.int .i64 (makeF x).End, .int .i64 (makeF x).Trucks.Many, .int .i64 (makeF x).Trucks.Room, .int .i64 (makeF x).Bikes.Many, .int .i64 (makeF x).Bikes.Room, .slice g.a g.l.length g.c, .slice k.a k.l.length k.c, .slice m.1.a m.1.l.length m.1.c, .slice n.1.a n.1.l.length n.1.c]) rfl rfl rfl rfl (by simp [Value.oneCell']) (Nat.le_of_ble_eq_true rfl) rfl) ?_
      rintro _ _ _ ⟨rfl, rfl, rfl⟩
      refine GoL.nil .next ?_
      refine GoC.ret .here ?_
      refine doneC rfl rfl rfl ?_
      intro w' hw
      have hgx : (⟨(makeF x).End, (makeF x).Trucks.Many, (makeF x).Trucks.Room, (makeF x).Bikes.Many, (makeF x).Bikes.Room, g, k, m.1, n.1⟩ : Inst0).x = makeF x := by
        unfold Inst0.x
        simp only [hg, hk, m.2, n.2]
        rfl
      exact ⟨⟨⟨(makeF x).End, (makeF x).Trucks.Many, (makeF x).Trucks.Room, (makeF x).Bikes.Many, (makeF x).Bikes.Room, g, k, m.1, n.1⟩, hgx⟩, rfl, Holds.only (W' := w0 ⟨(makeF x).End, (makeF x).Trucks.Many, (makeF x).Trucks.Room, (makeF x).Bikes.Many, (makeF x).Bikes.Room, g, k, m.1, n.1⟩ []) hw.n⟩
end Go.Proofs.Ytdeacehacndopaa

namespace Go.Proofs.Ytdeacehacndopaa
open Go.RowKit

structure BikeR where
  Sat : Int
  r : Row Int
def BikeR.b (x : BikeR) : Bike := ⟨x.Sat, x.r.l⟩
def tBikeR : RTy BikeR := tMap (fun x : BikeR => (x.Sat, x.r)) (tPair t64 (tH Int))
instance : Cl tBikeR (fun x => [.int .i64 x.Sat, .slice x.r.a x.r.l.length x.r.c]) := Cl.map (f := fun x : BikeR => (x.Sat, x.r)) (t := tPair t64 (tH Int))
theorem rep_bikeR {s : Int} {a : Option Addr} {c n : Nat} {l : List Int} (h : w64 s = s) (hn : n = l.length) (sh : Nat → Prop) (w : World) : tBikeR.rep sh w [.int .i64 s, .slice a n c] ⟨s, ⟨a, c, l⟩⟩ := by
  subst hn; exact ⟨[_], [_], rfl, ⟨rfl, h⟩, rfl⟩
theorem bikeR_sat {b : BikeR} {sh : Nat → Prop} {w : World} {cs : List Value} (h : tBikeR.rep sh w cs b) : w64 b.Sat = b.Sat := by
  obtain ⟨_, _, _, h1, _⟩ := h; exact h1.2
abbrev inT : Row Stop → Ent := inr ty_plan_Stop tStop
abbrev inB : BikeR → Ent := fun b => own 3 t64 b.r.a b.r.c b.r.l
def trk (r : Row Stop) : Truck := ⟨r.l⟩
structure Plan0 where
  t : Row (Row Stop)
  b : Row BikeR
def Plan0.y (g : Plan0) : Plan := ⟨g.t.l.map trk, g.b.l.map BikeR.b⟩
def Plan0.p (g : Plan0) : HP := ⟨(g.t.a, g.t.c), (g.b.a, g.b.c)⟩
@[reducible] def cP0 (g : Plan0) : List Value := [.slice g.t.a g.t.l.length g.t.c, .slice g.b.a g.b.l.length g.b.c]
theorem cP0_eq (g : Plan0) : cP0 g = cP g.y g.p := by simp [Plan0.y, Plan0.p]
@[reducible] def wP0 (g : Plan0) (W : List Ent) : List Ent :=
  own ty_plan_Truck (tH Stop) g.t.a g.t.c g.t.l :: grp (g.t.l.map inT) :: own ty_plan_Bike tBikeR g.b.a g.b.c g.b.l :: grp (g.b.l.map inB) :: W
theorem rep_truck0 (sh : Nat → Prop) (w : World) (cs : List Value) (x : Row Stop) (h : (tH Stop).rep sh w cs x) (h2 : (inT x).P sh w) : tTruck.rep (fun b => sh b ∨ b ∈ (inT x).fp) w cs (trk x) :=
  ⟨x.a, x.c, h, own_slice h2⟩
theorem rep_bike0 (sh : Nat → Prop) (w : World) (cs : List Value) (x : BikeR) (h : tBikeR.rep sh w cs x) (h2 : (inB x).P sh w) : tBike.rep (fun b => sh b ∨ b ∈ (inB x).fp) w cs x.b := by
  obtain ⟨c1, c2, e, h3, h4⟩ := h
  exact ⟨c1, c2, e, h3, x.r.a, x.r.c, h4, own_slice h2⟩

section
variable {P : Program} {C : Cx} {E : Env} {W Wr : List Ent} {R : List RF} {Q : Exit → Act → World → Prop} {ops : Array Oper}
theorem GoC.unpull {β : Type} {f : β → Ent} {c : Code} (l : List β) (k : Nat) (hk : k < l.length) [hs : Split [f l[k], grp ((l.take k ++ l.drop (k + 1)).map f)] W Wr]
    (h : GoC P C E (grp (l.map f) :: Wr) R c Q) : GoC P C E W R c Q :=
  GoC.push l k l[k] hk (by rw [List.set_getElem_self]; exact h)
theorem GoL.unpull {β : Type} {f : β → Ent} {c : List Oper} (l : List β) (k : Nat) (hk : k < l.length) [hs : Split [f l[k], grp ((l.take k ++ l.drop (k + 1)).map f)] W Wr]
    (h : GoL P C ops E (grp (l.map f) :: Wr) R c Q) : GoL P C ops E W R c Q :=
  GoL.push l k l[k] hk (by rw [List.set_getElem_self]; exact h)
theorem GoL.recel {c : List Oper} (b : Nat) {T : TypeId} {cs : List Value} (cs' : List Value) [hc : HasCel b W T cs] [hs : Split [cel b T cs] W Wr] (he : cs = cs')
    (h : GoL P C ops E (cel b T cs' :: Wr) R c Q) : GoL P C ops E W R c Q :=
  GoL.mem (fun _ hw => by subst he; exact hw.perm hs.perm) h
theorem GoC.recel {c : Code} (b : Nat) {T : TypeId} {cs : List Value} (cs' : List Value) [hc : HasCel b W T cs] [hs : Split [cel b T cs] W Wr] (he : cs = cs')
    (h : GoC P C E (cel b T cs' :: Wr) R c Q) : GoC P C E W R c Q :=
  GoC.mem (fun _ hw => by subst he; exact hw.perm hs.perm) h
theorem GoL.ownNil {α : Type} (T : TypeId) (ty : RTy α) {c : List Oper} (h : GoL P C ops E (own T ty none 0 [] :: W) R c Q) : GoL P C ops E W R c Q :=
  GoL.mem (fun _ hw => hw.ownNil T ty) h
end
end Go.Proofs.Ytdeacehacndopaa

namespace Go.Proofs.Ytdeacehacndopaa

def ordStep (wo o : List Int) (c : Nat) : List Int := insL o (atF wo (c : Int) % ((o.length : Int) + 1)).toNat (c : Int)
def orderF (wo : List Int) (n : Nat) : List Int := (List.range n).foldl (ordStep wo) []
def lastF (s : Int) : List Bike → Int → Int → Int
  | [], _, u => u
  | b :: r, k, u => lastF s r (k + 1) (if decide (b.Sat = s) = true then k else u)
def sumF (x : Instance) (l : List Int) (u : Int) : Int := l.foldl (fun a d => w64 (a + loadOf x d)) u
def satF (x : Instance) (y : Wish) (c : Int) : Int := atF y.Sats c % (x.Sats.length : Int)
def bikeAt (l : List Bike) (k : Nat) : Bike := l.getD k ⟨0, []⟩
def bikeNew (x : Instance) (y : Wish) (c : Int) (u : List Bike × List Int) : List Bike × List Int := (u.1 ++ [⟨satF x y c, [c]⟩], addAt u.2 (satF x y c) (loadOf x c))
def bikeOld (x : Instance) (y : Wish) (c : Int) (k : Nat) (u : List Bike × List Int) : List Bike × List Int :=
  (u.1.set k ⟨(bikeAt u.1 k).Sat, (bikeAt u.1 k).Stops ++ [c]⟩, addAt u.2 (satF x y c) (loadOf x c))
def bikeStep (x : Instance) (y : Wish) (i : Nat) (c : Int) (u : List Bike × List Int) : List Bike × List Int :=
  if (decide (0 ≤ lastF (satF x y c) u.1 0 (-1)) && decide (0 < atF y.Cuts (i : Int) % 4)) = true then
    if decide (sumF x (bikeAt u.1 (lastF (satF x y c) u.1 0 (-1)).toNat).Stops (loadOf x c) ≤ x.Bikes.Room) = true then bikeOld x y c (lastF (satF x y c) u.1 0 (-1)).toNat u else bikeNew x y c u
  else bikeNew x y c u
def bikesD (x : Instance) (y : Wish) : List Int → Nat → List Bike × List Int → List Bike × List Int
  | [], _, u => u
  | c :: r, i, u => bikesD x y r (i + 1) (bikeStep x y i c u)
def lastAdd (l : List Truck) (s : Stop) : List Truck := l.set (l.length - 1) ⟨(l.getD (l.length - 1) ⟨[]⟩).Stops ++ [s]⟩
/-- a new truck, perhaps: what room is left, the trucks -/
def trkNew (x : Instance) (y : Wish) (s : Nat) (u : Int × List Truck) : Int × List Truck :=
  if (decide (u.1 = 0) || (decide (atF y.Cuts (s : Int) % 7 = 6) && decide ((u.2.length : Int) < x.Trucks.Many))) = true then (x.Trucks.Room, u.2 ++ [⟨[]⟩]) else u
def trkStep (x : Instance) (y : Wish) (s : Nat) (u : Int × Int × List Truck) : Int × Int × List Truck :=
  (w64 (u.1 - min u.1 (trkNew x y s u.2).1), w64 ((trkNew x y s u.2).1 - min u.1 (trkNew x y s u.2).1), lastAdd (trkNew x y s u.2).2 ⟨(s : Int), min u.1 (trkNew x y s u.2).1⟩)
def trkL (x : Instance) (y : Wish) (s : Nat) : Nat → Int × Int × List Truck → Int × Int × List Truck
  | 0, u => u
  | f + 1, u => if decide (0 < u.1) = true then trkL x y s f (trkStep x y s u) else u
def trksL (x : Instance) (y : Wish) : List Int → Nat → Int × List Truck → List Truck
  | [], _, u => u.2
  | n :: r, s, u => trksL x y r (s + 1) (trkL x y s n.toNat (n, u)).2
def bikesF7 (x : Instance) (y : Wish) : List Bike × List Int := bikesD x y (orderF y.Order x.Customers.length) 0 ([], List.replicate x.Sats.length 0)
def draftF (x : Instance) (y : Wish) : Plan := ⟨trksL x y (bikesF7 x y).2 0 (0, []), (bikesF7 x y).1⟩

theorem lastF_lt {s : Int} : ∀ {l : List Bike} {k u : Int}, 0 ≤ k → u < k → lastF s l k u < k + l.length
  | [], k, u, _, h => by simp [lastF]; exact h
  | b :: r, k, u, h0, h => by
    simp only [lastF]
    have := lastF_lt (s := s) (l := r) (k := k + 1) (u := if decide (b.Sat = s) = true then k else u) (by omega) (by split <;> omega)
    simp only [List.length_cons]
    omega
theorem lastF_idx {s : Int} {l : List Bike} (h : 0 ≤ lastF s l 0 (-1)) : (lastF s l 0 (-1)).toNat < l.length := by
  have := lastF_lt (s := s) (l := l) (k := 0) (u := -1) (Int.le_refl 0) (by omega)
  omega
def InN (n : Nat) (l : List Int) : Prop := ∀ v ∈ l, 0 ≤ v ∧ v < n
theorem InN.ins {n : Nat} {l : List Int} {i c : Nat} (h : InN n l) (hc : c < n) : InN n (insL l i c) := by
  intro v hv
  simp only [insL, List.mem_append, List.mem_cons] at hv
  rcases hv with hv | rfl | hv
  · exact h v (List.mem_of_mem_take hv)
  · omega
  · exact h v (List.mem_of_mem_drop hv)
theorem InN.fold {wo : List Int} {n : Nat} : ∀ {r : List Nat} {o : List Int}, (∀ c ∈ r, c < n) → InN n o → InN n (r.foldl (ordStep wo) o)
  | [], _, _, h => h
  | c :: r, o, hr, h => InN.fold (r := r) (fun d hd => hr d (List.mem_cons_of_mem _ hd)) (h.ins (hr c (List.mem_cons_self ..)))
theorem orderF_in (wo : List Int) (n : Nat) : InN n (orderF wo n) := InN.fold (fun c hc => List.mem_range.1 hc) (by intro v hv; simp at hv)
theorem order_len {wo : List Int} : ∀ {r : List Nat} {o : List Int}, (∀ v ∈ wo, 0 ≤ v) → (r.foldl (ordStep wo) o).length = o.length + r.length
  | [], _, _ => rfl
  | c :: r, o, h => by
    rw [List.foldl_cons, order_len h]
    have h0 : 0 ≤ atF wo (c : Int) % ((o.length : Int) + 1) := Int.emod_nonneg _ (by omega)
    have h1 : atF wo (c : Int) % ((o.length : Int) + 1) < (o.length : Int) + 1 := Int.emod_lt_of_pos _ (by omega)
    rw [ordStep, insL_len (by omega)]
    simp only [List.length_cons]; omega
/-- what bikes carry are customers that there are -/
def Carry (n : Nat) (l : List Bike) : Prop := ∀ b ∈ l, InN n b.Stops
theorem Carry.new {n : Nat} {x : Instance} {y : Wish} {c : Int} {u : List Bike × List Int} (h : Carry n u.1) (hc : 0 ≤ c ∧ c < n) : Carry n (bikeNew x y c u).1 := by
  intro b hb
  rcases List.mem_append.1 hb with hb | hb
  · exact h b hb
  · simp only [List.mem_singleton] at hb; subst hb; intro v hv; simp only [List.mem_singleton] at hv; subst hv; exact hc
theorem Carry.old {n : Nat} {x : Instance} {y : Wish} {c : Int} {k : Nat} {u : List Bike × List Int} (h : Carry n u.1) (hc : 0 ≤ c ∧ c < n) : Carry n (bikeOld x y c k u).1 := by
  intro b hb
  rcases List.mem_or_eq_of_mem_set hb with hb | rfl
  · exact h b hb
  · intro v hv
    rcases List.mem_append.1 hv with hv | hv
    · by_cases hk : k < u.1.length
      · rw [bikeAt, getD_lt _ hk] at hv; exact h _ (List.getElem_mem hk) v hv
      · simp [bikeAt, List.getD, List.getElem?_eq_none (Nat.le_of_not_lt hk)] at hv
    · simp only [List.mem_singleton] at hv; subst hv; exact hc

theorem atF_rng {l : List Int} {i : Int} (h : ∀ v ∈ l, IntKind.u8.wrap v = v) : 0 ≤ atF l i ∧ atF l i ≤ 255 := by
  unfold atF
  split
  · omega
  · rename_i h0
    have h1 := Int.emod_lt_of_pos i (show (0 : Int) < l.length by omega)
    have h2 := Int.emod_nonneg i h0
    have h3 : (i % (l.length : Int)).toNat < l.length := by omega
    rw [getD_lt _ h3]
    have := U8.rng (h _ (List.getElem_mem h3))
    rw [w64_id (by omega)]
    exact this
theorem lastF_yes {s : Int} {l : List Bike} {k : Nat} {u : Int} (h : k < l.length) (e : l[k].Sat = s) : lastF s (l.drop k) (k : Int) u = lastF s (l.drop (k + 1)) ((k + 1 : Nat) : Int) (k : Int) := by
  rw [List.drop_eq_getElem_cons h, lastF, if_pos (by simpa using e)]; rfl
theorem lastF_no {s : Int} {l : List Bike} {k : Nat} {u : Int} (h : k < l.length) (e : ¬ l[k].Sat = s) : lastF s (l.drop k) (k : Int) u = lastF s (l.drop (k + 1)) ((k + 1 : Nat) : Int) u := by
  rw [List.drop_eq_getElem_cons h, lastF, if_neg (by simpa using e)]; rfl
theorem addAt_rng {l : List Int} {i n B : Int} (h : ∀ v ∈ l, 0 ≤ v ∧ v ≤ B) (hi : i.toNat < l.length) (hn : 0 ≤ n ∧ n ≤ 100) (hB : 0 ≤ B ∧ B ≤ 1000000000) : ∀ v ∈ addAt l i n, 0 ≤ v ∧ v ≤ B + 100 := by
  intro v hv
  rcases List.mem_or_eq_of_mem_set hv with hv | rfl
  · have := h v hv; omega
  · rw [getD_lt _ hi]
    have := h _ (List.getElem_mem hi)
    rw [w64_id (by omega)]; omega
theorem getD_map_bike {l : List BikeR} {k : Nat} (h : k < l.length) : bikeAt (l.map BikeR.b) k = l[k].b := by
  rw [bikeAt, getD_lt _ (by simpa using h), List.getElem_map]
theorem trkL_done {x : Instance} {y : Wish} {s f : Nat} {u : Int × Int × List Truck} (h : ¬ 0 < u.1) : trkL x y s f u = u := by
  cases f with
  | zero => rfl
  | succ f => rw [trkL, if_neg (by simpa using h)]
theorem trkStep_eq {x : Instance} {y : Wish} {s : Nat} {n left g1 : Int} {ts g2 : List Truck} (h : trkNew x y s (left, ts) = (g1, g2)) :
    trkStep x y s (n, left, ts) = (w64 (n - min n g1), w64 (g1 - min n g1), lastAdd g2 ⟨(s : Int), min n g1⟩) := by simp [trkStep, h]
theorem lastAdd_map {l : List (Row Stop)} {a : Option Addr} {c : Nat} {st : Stop} (h : l.length - 1 < l.length) :
    lastAdd (l.map trk) st = (l.set (l.length - 1) ⟨a, c, l[l.length - 1].l ++ [st]⟩).map trk := by
  rw [List.map_set, lastAdd, List.length_map, getD_lt _ (by simpa using h), List.getElem_map]; rfl
/-- a plan of few things -/
structure PlanSm (y : Plan) : Prop where
  t : y.Trucks.length ≤ 2000
  b : y.Bikes.length ≤ 2000
  ts : ∀ k ∈ y.Trucks, k.Stops.length ≤ 2000
  bs : ∀ k ∈ y.Bikes, k.Stops.length ≤ 2000
/-- what is known of trucks, as they are filled -/
structure TI (x : Instance) (B : Nat) (left : Int) (l : List (Row Stop)) : Prop where
  l0 : 0 ≤ left
  lr : left ≤ x.Trucks.Room
  ne : left = 0 ∨ 0 < l.length
  len : l.length ≤ B
  ins : ∀ r ∈ l, r.l.length ≤ B
structure TJ (x : Instance) (B : Nat) (left : Int) (l : List (Row Stop)) : Prop where
  l0 : 0 < left
  lr : left ≤ x.Trucks.Room
  ne : 0 < l.length
  len : l.length ≤ B + 1
  ins : ∀ r ∈ l, r.l.length ≤ B
theorem TI.mono {x : Instance} {B B' : Nat} {left : Int} {l : List (Row Stop)} (h : TI x B left l) (hb : B ≤ B') : TI x B' left l :=
  ⟨h.l0, h.lr, h.ne, Nat.le_trans h.len hb, fun r hr => Nat.le_trans (h.ins r hr) hb⟩
theorem TI.new {x : Instance} {B : Nat} {left : Int} {l : List (Row Stop)} (h : TI x B left l) (hr : 0 < x.Trucks.Room) : TJ x B x.Trucks.Room (l ++ [⟨none, 0, []⟩]) :=
  ⟨hr, Int.le_refl _, by simp, by simp; exact h.len, fun r hr => by
    rcases List.mem_append.1 hr with hr | hr
    · exact h.ins r hr
    · simp only [List.mem_singleton] at hr; subst hr; simp⟩
theorem TI.old {x : Instance} {B : Nat} {left : Int} {l : List (Row Stop)} (h : TI x B left l) (h0 : ¬ left = 0) : TJ x B left l :=
  ⟨by have := h.l0; omega, h.lr, h.ne.resolve_left h0, Nat.le_succ_of_le h.len, h.ins⟩
theorem TJ.step {x : Instance} {B : Nat} {left n : Int} {l : List (Row Stop)} {r : Row Stop} (h : TJ x B left l) (hn : 0 < n) (hb : x.Trucks.Room ≤ 1000000000) (hk : l.length - 1 < l.length) {st : Stop} (hr : r.l = l[l.length - 1].l ++ [st]) : TI x (B + 1) (w64 (left - min n left)) (l.set (l.length - 1) r) := by
  have h0 := h.l0
  have h1 := h.lr
  have h2 : w64 (left - min n left) = left - min n left := w64_id (by omega)
  refine ⟨by rw [h2]; omega, by rw [h2]; omega, .inr (by simpa using h.ne), by simpa using h.len, fun q hq => ?_⟩
  rcases List.mem_or_eq_of_mem_set hq with hq | rfl
  · exact Nat.le_succ_of_le (h.ins q hq)
  · rw [hr]; simp; exact h.ins _ (List.getElem_mem hk)
end Go.Proofs.Ytdeacehacndopaa
