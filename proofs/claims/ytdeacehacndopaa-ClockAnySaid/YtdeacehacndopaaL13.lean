/- The clock's draft: what must be ahead of what. What a plan costs. The clock's Early; clones. No conditions beyond those that each theorem names. -/
import Derived.Test.YtdeacehacndopaaL12
import Derived.Test.YtdeacehacndopaaL9
import Derived.Test.YtdeacehacndopaaL10
namespace Go.Proofs.Ytdeacehacndopaa
open Go.RowKit
structure DrR where
  arcs : Row Arc
  fr : Row Int
  at_ : List (Row Int)
def DrR.d (r : DrR) : Dr := (r.arcs.l, r.fr.l, r.at_.map Row.l)
theorem needT_cons (t : Truck) (l : List Truck) : needT (t :: l) = t.Stops.length + needT l := by simp [needT]
theorem needB_cons (t : Bike) (l : List Bike) : needB (t :: l) = t.Stops.length + 2 + needB l := by simp [needB]
theorem needB_ge : ∀ (l : List Bike), l.length ≤ needB l
  | [] => Nat.zero_le _
  | b :: l => by rw [needB_cons, List.length_cons]; have := needB_ge l; omega
theorem needT_drop {l : List Truck} {k : Nat} (h : k < l.length) : needT (l.drop k) = l[k].Stops.length + needT (l.drop (k + 1)) := by rw [List.drop_eq_getElem_cons h, needT_cons]
theorem needB_drop {l : List Bike} {k : Nat} (h : k < l.length) : needB (l.drop k) = l[k].Stops.length + 2 + needB (l.drop (k + 1)) := by rw [List.drop_eq_getElem_cons h, needB_cons]
theorem atSet_map {l : List (Row Int)} {s n : Int} {a : Option Addr} {c : Nat} (h : s.toNat < l.length) : (l.set s.toNat ⟨a, c, l[s.toNat].l ++ [n]⟩).map Row.l = atSet (l.map Row.l) s n := by
  rw [atSet, List.map_set, getD_lt _ (by simpa using h), List.getElem_map]
theorem evS_first {x : Instance} {last node : Int} {d : Dr} {s : Stop} (h : decide (last < 0) = true) : evS x (last, node, d) s = (frLen d, ns s.Sat, (d.1, d.2.1 ++ [tm x 0 (ns s.Sat)], atSet d.2.2 s.Sat (frLen d))) := by
  simp only [evS, h, if_true]
theorem evS_more {x : Instance} {last node : Int} {d : Dr} {s : Stop} (h : decide (last < 0) = false) : evS x (last, node, d) s = (frLen d, ns s.Sat, (d.1 ++ [⟨last, frLen d, tm x node (ns s.Sat)⟩], d.2.1 ++ [0], atSet d.2.2 s.Sat (frLen d))) := by
  simp only [evS, h, Bool.false_eq_true, if_false]
theorem holdA_cons (x : Instance) (sat last n : Int) (l : List Int) : holdA x sat last (n :: l) = ⟨n, last, holdOf x sat⟩ :: holdA x sat last l := rfl

set_option maxRecDepth 20000 in
theorem draft18_spec (x : Instance) (p : HI) (y : Plan) (r : HP) (hI : OkI x) (hx : Sq x) (hst : Sited x y.Trucks) (hsv : Served x y.Bikes) (ht : y.Trucks.length ≤ 1000000) (hb : needT y.Trucks + needB y.Bikes ≤ 100000) (sh : Nat → Prop) (w : World) (h : Holds ⟨0, w, [], sh⟩ [] (rP y r (rI x p [])) w) :
    Calls Pr fn_clock_draft #[.agg (cI x p).toArray, .agg (cP y r).toArray] w fun e w' => ∃ g : { g : Row Arc × Row Int // g.1.l = (draftG x y).1 ∧ g.2.l = (draftG x y).2.1 ∧ g.1.l.length ≤ 1000000000000 }, e = .returned (.tuple #[.agg #[.int .i64 ((g.1.2.l.length : Nat) : Int), .slice g.1.1.a g.1.1.l.length g.1.1.c], .slice g.1.2.a g.1.2.l.length g.1.2.c]) ∧ Holds ⟨0, w, [], sh⟩ [own ty_graph_Arc tArc g.1.1.a g.1.1.c g.1.1.l, own ty_i64 t64 g.1.2.a g.1.2.c g.1.2.l] [] w' := by
  have hx1 := hx.s
  have hx2 := hx.u
  have hxn := hx.n
  have hbg := needB_ge y.Bikes
  refine Calls.of_go (args := [_, _]) fn_clock_draft_f rfl rfl rfl h ?_
  refine GoC.seq ?_
  refine GoC.region ?_
  refine GoL.x (op_box rfl rfl) ?_
  rintro _ _ _ ⟨b2, rfl, rfl, rfl⟩
  refine GoL.x (op_box rfl rfl) ?_
  rintro _ _ _ ⟨b3, rfl, rfl, rfl⟩
  refine GoL.x (op_alloc) ?_
  rintro _ _ _ ⟨b4, rfl, rfl, rfl⟩
  refine GoL.q (op_assign rfl) ?_
  refine GoL.nil .next ?_
  refine GoC.seq ?_
  refine GoC.region ?_
  refine GoL.q (op_build1 ([.int .i64 0, .slice none 0 0, .slice none 0 0]) rfl rfl) ?_
  refine GoL.x (op_box rfl rfl) ?_
  rintro _ _ _ ⟨b26, rfl, rfl, rfl⟩
  refine GoL.q (op_assign rfl) ?_
  refine GoL.nil .next ?_
  refine GoC.seq ?_
  refine GoC.region ?_
  refine GoL.q (op_fieldAddr rfl) ?_
  refine GoL.q (op_load rfl rfl) ?_
  refine GoL.q (op_len rfl) ?_
  refine GoL.x (op_make (ty := tH Int) (⟨none, 0, []⟩ : Row Int) (fun _ _ => rfl) rfl (by omega) hI.s) ?_
  rintro _ _ _ ⟨b30, rfl, rfl, rfl⟩
  refine GoL.q (op_assign rfl) ?_
  refine GoL.nil .next ?_
  refine GoC.seq ?_
  refine GoC.seq ?_
  refine GoC.region ?_
  refine GoL.q (op_fieldAddr rfl) ?_
  refine GoL.q (op_load rfl rfl) ?_
  refine GoL.q (op_len rfl) ?_
  refine GoL.q (op_move rfl) ?_
  refine GoL.nil .next ?_
  refine GoC.block ?_
  refine GoC.grpNils 3 t64 x.Sats.length ?_
  refine GoC.ownNil ty_i64 t64 ?_
  refine GoC.ownNil ty_graph_Arc tArc ?_
  refine GoC.recel b26 [.int .i64 ((([] : List Int).length : Nat) : Int), .slice none ([] : List Arc).length 0, .slice none ([] : List Int).length 0] rfl ?_
  refine GoC.arrange [cel b26 ty_clock_drafter [.int .i64 ((([] : List Int).length : Nat) : Int), .slice none ([] : List Arc).length 0, .slice none ([] : List Int).length 0], own ty_i64 t64 none 0 [], own ty_graph_Arc tArc none 0 [], own ty_s_i64_1 (tH Int) (some ⟨b30, 0, none⟩) x.Sats.length (List.replicate x.Sats.length ⟨none, 0, []⟩), grp ((List.replicate x.Sats.length (⟨none, 0, []⟩ : Row Int)).map (inr 3 t64)), cel b4 ty_graph_Graph [.int .i64 0, .slice none 0 0], cel b3 ty_plan_Plan (cP y r), cel b2 ty_inst_Instance (cI x p)] ?_
  refine GoC.loop (σ := Nat × DrR) (fun s => [(34, .int .i64 (s.1 : Int))]) [(2, _), (3, _), (4, _), (6, _), (7, _), (32, _), (33, _)] (fun s => [cel b26 ty_clock_drafter [.int .i64 ((s.2.fr.l.length : Nat) : Int), .slice s.2.arcs.a s.2.arcs.l.length s.2.arcs.c, .slice s.2.fr.a s.2.fr.l.length s.2.fr.c], own ty_i64 t64 s.2.fr.a s.2.fr.c s.2.fr.l, own ty_graph_Arc tArc s.2.arcs.a s.2.arcs.c s.2.arcs.l, own ty_s_i64_1 (tH Int) (some ⟨b30, 0, none⟩) x.Sats.length s.2.at_, grp (s.2.at_.map (inr 3 t64)), cel b4 ty_graph_Graph [.int .i64 0, .slice none 0 0], cel b3 ty_plan_Plan (cP y r), cel b2 ty_inst_Instance (cI x p)]) (fun s => _) (fun s => s.1 ≤ y.Trucks.length ∧ (s.2.fr.l.length + needT (y.Trucks.drop s.1) ≤ needT y.Trucks ∧ s.2.arcs.l.length ≤ s.2.fr.l.length ∧ s.2.at_.length = x.Sats.length ∧ (∀ q ∈ s.2.at_, q.l.length ≤ s.2.fr.l.length) ∧ trucksG x (y.Trucks.drop s.1) s.2.d = trucksG x y.Trucks ([], [], List.replicate x.Sats.length []))) (fun s => y.Trucks.length - s.1) (0, ⟨⟨none, 0, []⟩, ⟨none, 0, []⟩, List.replicate x.Sats.length ⟨none, 0, []⟩⟩) ⟨by simp, by simp, by simp, by simp, by simp, by simp [DrR.d]⟩ ⟨rfl, rfl, rfl, rfl, rfl, rfl, rfl, rfl, trivial⟩ (fun _ h => h) ?_
  intro s ⟨hs1, hs2⟩
  refine GoC.seq ?_
  refine GoC.region ?_
  refine GoL.q (op_lss rfl rfl) ?_
  refine GoL.nil .next ?_
  refine GoC.seq ?_
  refine GoC.cond rfl (fun hc0 => ?_) (fun hc0 => ?_)
  · have hlt : s.1 < y.Trucks.length := by simpa using hc0
    refine GoC.skipTo .next ?_
    refine GoC.seq ?_
    refine GoC.block ?_
    refine GoC.seq ?_
    refine GoC.openR (n := 1) r.t.1 s.1 hlt (fun q1 hq1 => ?_)
    have hnd := needT_drop hlt
    refine GoC.region ?_
    refine GoL.q (op_indexR rfl rfl rfl (by first | assumption | omega)) ?_
    refine GoL.q (op_loadEA rfl rfl) ?_
    refine GoL.x (op_alloc) ?_
    rintro _ _ _ ⟨b9, rfl, rfl, rfl⟩
    refine GoL.y0 (op_store (cs' := [.slice q1.1 y.Trucks[s.1].Stops.length q1.2]) rfl rfl rfl rfl (by simp [Value.oneCell']) (Nat.le_of_ble_eq_true rfl) rfl) ?_
    rintro _ _ _ ⟨rfl, rfl, rfl⟩
    refine GoL.nil .next ?_
    refine GoC.seq ?_
    refine GoC.region ?_
    refine GoL.q (op_assign rfl) ?_
    refine GoL.q (op_assign rfl) ?_
    refine GoL.nil .next ?_
    refine GoC.seq ?_
    refine GoC.region ?_
    refine GoL.q (op_fieldAddr rfl) ?_
    refine GoL.q (op_load rfl rfl) ?_
    refine GoL.q (op_len rfl) ?_
    refine GoL.q (op_move rfl) ?_
    refine GoL.nil .next ?_
    refine GoC.block ?_
    refine GoC.arrange [cel b26 ty_clock_drafter [.int .i64 ((s.2.fr.l.length : Nat) : Int), .slice s.2.arcs.a s.2.arcs.l.length s.2.arcs.c, .slice s.2.fr.a s.2.fr.l.length s.2.fr.c], own ty_i64 t64 s.2.fr.a s.2.fr.c s.2.fr.l, own ty_graph_Arc tArc s.2.arcs.a s.2.arcs.c s.2.arcs.l, own ty_s_i64_1 (tH Int) (some ⟨b30, 0, none⟩) x.Sats.length s.2.at_, grp (s.2.at_.map (inr 3 t64)), cel b9 ty_plan_Truck [.slice q1.1 y.Trucks[s.1].Stops.length q1.2], cel b4 ty_graph_Graph [.int .i64 0, .slice none 0 0], cel b3 ty_plan_Plan (cP y r), cel b2 ty_inst_Instance (cI x p)] ?_
    refine GoC.loop (σ := Nat × Int × Int × DrR) (fun u => [(41, .int .i64 (u.1 : Int)), (10, .int .i64 u.2.1), (11, .int .i64 u.2.2.1)]) [(34, _), (2, _), (3, _), (4, _), (6, _), (7, _), (32, _), (33, _), (39, _), (40, _)] (fun u => [cel b26 ty_clock_drafter [.int .i64 ((u.2.2.2.fr.l.length : Nat) : Int), .slice u.2.2.2.arcs.a u.2.2.2.arcs.l.length u.2.2.2.arcs.c, .slice u.2.2.2.fr.a u.2.2.2.fr.l.length u.2.2.2.fr.c], own ty_i64 t64 u.2.2.2.fr.a u.2.2.2.fr.c u.2.2.2.fr.l, own ty_graph_Arc tArc u.2.2.2.arcs.a u.2.2.2.arcs.c u.2.2.2.arcs.l, own ty_s_i64_1 (tH Int) (some ⟨b30, 0, none⟩) x.Sats.length u.2.2.2.at_, grp (u.2.2.2.at_.map (inr 3 t64)), cel b9 ty_plan_Truck [.slice q1.1 y.Trucks[s.1].Stops.length q1.2], cel b4 ty_graph_Graph [.int .i64 0, .slice none 0 0], cel b3 ty_plan_Plan (cP y r), cel b2 ty_inst_Instance (cI x p)]) (fun u => _) (fun u => u.1 ≤ y.Trucks[s.1].Stops.length ∧ (0 ≤ u.2.2.1 ∧ u.2.2.1 < x.Time.length ∧ (-1 ≤ u.2.1 ∧ u.2.1 ≤ 1000000) ∧ u.2.2.2.fr.l.length + (y.Trucks[s.1].Stops.length - u.1) + needT (y.Trucks.drop (s.1 + 1)) ≤ needT y.Trucks ∧ u.2.2.2.arcs.l.length ≤ u.2.2.2.fr.l.length ∧ u.2.2.2.at_.length = x.Sats.length ∧ (∀ q ∈ u.2.2.2.at_, q.l.length ≤ u.2.2.2.fr.l.length) ∧ (y.Trucks[s.1].Stops.drop u.1).foldl (evS x) (u.2.1, u.2.2.1, u.2.2.2.d) = y.Trucks[s.1].Stops.foldl (evS x) (-1, 0, s.2.d))) (fun u => y.Trucks[s.1].Stops.length - u.1) (0, -1, 0, s.2) ⟨by simp, by simp, by simp only; omega, by simp, by have := hs2.1; simp only; omega, hs2.2.1, hs2.2.2.1, hs2.2.2.2.1, rfl⟩ ⟨rfl, rfl, rfl, rfl, rfl, rfl, rfl, rfl, rfl, rfl, rfl, rfl, rfl, trivial⟩ (fun _ h => h) ?_
    intro u ⟨hu1, hu2⟩
    refine GoC.seq ?_
    refine GoC.region ?_
    refine GoL.q (op_lss rfl rfl) ?_
    refine GoL.nil .next ?_
    refine GoC.seq ?_
    refine GoC.cond rfl (fun hc1 => ?_) (fun hc1 => ?_)
    · have hlt2 : u.1 < y.Trucks[s.1].Stops.length := by simpa using hc1
      refine GoC.skipTo .next ?_
      refine GoC.seq ?_
      refine GoC.block ?_
      refine GoC.seq ?_
      refine GoC.openR (n := 2) q1.1 u.1 hlt2 (fun q2 hq2 => ?_)
      have hss := hst _ (List.getElem_mem hlt) _ (List.getElem_mem hlt2)
      have hns0 : 0 ≤ ns y.Trucks[s.1].Stops[u.1].Sat := by rw [ns_eq hx hss]; omega
      have hns1 : ns y.Trucks[s.1].Stops[u.1].Sat < x.Time.length := by rw [ns_eq hx hss]; omega
      refine GoC.region ?_
      refine GoL.q (op_indexR rfl rfl rfl (by first | assumption | omega)) ?_
      refine GoL.q (op_loadEA rfl rfl) ?_
      refine GoL.x (op_alloc) ?_
      rintro _ _ _ ⟨b13, rfl, rfl, rfl⟩
      refine GoL.y0 (op_store (cs' := [.int .i64 y.Trucks[s.1].Stops[u.1].Sat, .int .i64 y.Trucks[s.1].Stops[u.1].Load]) rfl rfl rfl rfl (by simp [Value.oneCell']) (Nat.le_of_ble_eq_true rfl) rfl) ?_
      rintro _ _ _ ⟨rfl, rfl, rfl⟩
      refine GoL.nil .next ?_
      refine GoC.seq ?_
      refine GoC.region ?_
      refine GoL.q (op_move rfl) ?_
      refine GoL.y (op_callM (vs := [.pointer (some ⟨b26, 0, none⟩), .int .i64 0]) rfl (fun sh w h => event_spec u.2.2.2.fr.l u.2.2.2.fr.a u.2.2.2.fr.c u.2.2.2.arcs.l u.2.2.2.arcs.a u.2.2.2.arcs.c b26 0 rfl (by omega) sh w h)) ?_
      rintro _ _ _ ⟨g46, rfl, rfl, rfl⟩
      refine GoL.q (op_assign rfl) ?_
      refine GoL.nil .next ?_
      refine GoC.seq ?_
      refine GoC.joinS (γ := Row Arc × List Int) (fun g => []) [(41, _), (10, _), (11, _), (34, _), (2, _), (3, _), (4, _), (6, _), (7, _), (32, _), (33, _), (39, _), (40, _), (13, _), (14, _)] (fun g => [cel b26 ty_clock_drafter [.int .i64 ((g.2.length : Nat) : Int), .slice g.1.a g.1.l.length g.1.c, .slice g46.1 g.2.length g46.2], own ty_graph_Arc tArc g.1.a g.1.c g.1.l, own ty_i64 t64 g46.1 g46.2 g.2, own ty_s_i64_1 (tH Int) (some ⟨b30, 0, none⟩) x.Sats.length u.2.2.2.at_, grp (u.2.2.2.at_.map (inr 3 t64)), cel b13 ty_plan_Stop [.int .i64 y.Trucks[s.1].Stops[u.1].Sat, .int .i64 y.Trucks[s.1].Stops[u.1].Load], cel b9 ty_plan_Truck [.slice q1.1 y.Trucks[s.1].Stops.length q1.2], cel b4 ty_graph_Graph [.int .i64 0, .slice none 0 0], cel b3 ty_plan_Plan (cP y r), cel b2 ty_inst_Instance (cI x p)]) (fun g => evS x (u.2.1, u.2.2.1, u.2.2.2.d) y.Trucks[s.1].Stops[u.1] = (((u.2.2.2.fr.l.length : Nat) : Int), ns y.Trucks[s.1].Stops[u.1].Sat, (g.1.l, g.2, atSet (u.2.2.2.at_.map Row.l) y.Trucks[s.1].Stops[u.1].Sat ((u.2.2.2.fr.l.length : Nat) : Int))) ∧ g.2.length = u.2.2.2.fr.l.length + 1 ∧ g.1.l.length ≤ u.2.2.2.arcs.l.length + 1) ⟨rfl, rfl, rfl, rfl, rfl, rfl, rfl, rfl, rfl, rfl, rfl, rfl, rfl, rfl, rfl, trivial⟩ ?_ ?_
      · refine GoC.seq ?_
        refine GoC.region ?_
        refine GoL.q (op_move rfl) ?_
        refine GoL.q (op_lss rfl rfl) ?_
        refine GoL.nil .next ?_
        refine GoC.cond rfl (fun hc2 => ?_) (fun hc2 => ?_)
        · have hfst := hc2
          have hn0 : 0 < x.Time.length := by omega
          refine GoC.openR (n := 1) p.t.1 0 hn0 (fun q3 hq3 => ?_)
          have hn2 : 1 + y.Trucks[s.1].Stops[u.1].Sat.toNat < x.Time[0].length := by rw [hx.r]; omega
          refine GoC.openR (n := 1) q3.1 (1 + y.Trucks[s.1].Stops[u.1].Sat.toNat) hn2 (fun q4 hq4 => ?_)
          have htm := tm_eq (n := 0) hn0 hn2 rfl (ns_eq hx hss)
          refine GoC.draw 15 [] [0, 1, 2, 3, 4, 5, 6, 7, 8, 9, 10, 11, 12, 13, 14] (by kernel_rfl) Pr_mixed ?_
          refine Can.q rfl (op_move rfl) ?_
          refine Can.q rfl (op_nilCheck rfl) ?_
          refine Can.q rfl (op_fieldAddr rfl) ?_
          refine Can.q rfl (op_load rfl rfl) ?_
          refine Can.q rfl (op_move rfl) ?_
          refine Can.q rfl (op_fieldAddr rfl) ?_
          refine Can.q rfl (op_load rfl rfl) ?_
          refine Can.q rfl (op_indexR rfl rfl (k := 0) rfl hn0) ?_
          refine Can.q rfl (op_loadE rfl rfl) ?_
          refine Can.q rfl (op_loadA rfl rfl rfl) ?_
          refine Can.q rfl (op_fieldAddr rfl) ?_
          refine Can.q rfl (op_load rfl rfl) ?_
          refine Can.p rfl (op_callP rfl fun w _ => sat_spec (cI x p) _ w) ?_
          refine Can.q rfl (op_indexR rfl rfl (ns_eq hx hss) hn2) ?_
          refine Can.q rfl (op_loadE rfl rfl) ?_
          refine Can.nil rfl ?_
          refine GoL.q (op_indexO (k := u.2.2.2.fr.l.length) rfl rfl rfl (by simp) (by first | rfl | omega | (simp only [List.length_set] <;> omega))) ?_
          refine GoL.y0 (op_storeO (xv := x.Time[0][1 + y.Trucks[s.1].Stops[u.1].Sat.toNat]) rfl rfl (by simp) (by intro _ _; exact ⟨rfl, hq4⟩)) ?_
          rintro _ _ _ ⟨rfl, rfl, rfl⟩
          refine GoL.recel b26 [.int .i64 ((((u.2.2.2.fr.l ++ [0]).set u.2.2.2.fr.l.length x.Time[0][1 + y.Trucks[s.1].Stops[u.1].Sat.toNat]).length : Nat) : Int), .slice u.2.2.2.arcs.a u.2.2.2.arcs.l.length u.2.2.2.arcs.c, .slice g46.1 ((u.2.2.2.fr.l ++ [0]).set u.2.2.2.fr.l.length x.Time[0][1 + y.Trucks[s.1].Stops[u.1].Sat.toNat]).length g46.2] (by rw [List.length_set]) ?_
          refine GoL.meet (u.2.2.2.arcs, (u.2.2.2.fr.l ++ [0]).set u.2.2.2.fr.l.length x.Time[0][1 + y.Trucks[s.1].Stops[u.1].Sat.toNat]) .next ⟨by rw [evS_first hfst, htm]; simp [DrR.d, frLen], by simp, by simp only; omega⟩ ?_
          exact ⟨rfl, rfl, rfl, rfl, rfl, rfl, rfl, rfl, rfl, rfl, rfl, rfl, rfl, rfl, rfl, trivial⟩
        · have hfst := hc2
          have hn1 : u.2.2.1.toNat < x.Time.length := by omega
          refine GoC.openR (n := 1) p.t.1 u.2.2.1.toNat hn1 (fun q3 hq3 => ?_)
          have hn2 : 1 + y.Trucks[s.1].Stops[u.1].Sat.toNat < x.Time[u.2.2.1.toNat].length := by rw [hx.r]; omega
          refine GoC.openR (n := 1) q3.1 (1 + y.Trucks[s.1].Stops[u.1].Sat.toNat) hn2 (fun q4 hq4 => ?_)
          have htm := tm_eq hn1 hn2 (Int.toNat_of_nonneg hu2.1).symm (ns_eq hx hss)
          refine GoC.draw 14 [] [0, 1, 2, 3, 4, 5, 6, 7, 8, 9, 10, 11, 12, 13] (by kernel_rfl) Pr_mixed ?_
          refine Can.q rfl (op_move rfl) ?_
          refine Can.q rfl (op_move rfl) ?_
          refine Can.q rfl (op_move rfl) ?_
          refine Can.q rfl (op_fieldAddr rfl) ?_
          refine Can.q rfl (op_load rfl rfl) ?_
          refine Can.q rfl (op_move rfl) ?_
          refine Can.q rfl (op_indexR rfl rfl (Int.toNat_of_nonneg hu2.1).symm hn1) ?_
          refine Can.q rfl (op_loadE rfl rfl) ?_
          refine Can.q rfl (op_loadA rfl rfl rfl) ?_
          refine Can.q rfl (op_fieldAddr rfl) ?_
          refine Can.q rfl (op_load rfl rfl) ?_
          refine Can.p rfl (op_callP rfl fun w _ => sat_spec (cI x p) _ w) ?_
          refine Can.q rfl (op_indexR rfl rfl (ns_eq hx hss) hn2) ?_
          refine Can.q rfl (op_loadE rfl rfl) ?_
          refine Can.nil rfl ?_
          refine GoL.y (op_callM (vs := [.pointer (some ⟨b26, 0, none⟩), .int .i64 u.2.1, .int .i64 ((u.2.2.2.fr.l.length : Nat) : Int), .int .i64 x.Time[u.2.2.1.toNat][1 + y.Trucks[s.1].Stops[u.1].Sat.toNat]]) rfl (fun sh w h => behind_spec (u.2.2.2.fr.l ++ [0]) g46.1 g46.2 u.2.2.2.arcs.l u.2.2.2.arcs.a u.2.2.2.arcs.c b26 ⟨u.2.1, ((u.2.2.2.fr.l.length : Nat) : Int), x.Time[u.2.2.1.toNat][1 + y.Trucks[s.1].Stops[u.1].Sat.toNat]⟩ ⟨w64_id (n := u.2.1) (by omega), w64_id (n := ((u.2.2.2.fr.l.length : Nat) : Int)) (by omega), hq4⟩ (by omega) sh w h)) ?_
          rintro _ _ _ ⟨g79, rfl, rfl, rfl⟩
          refine GoL.meet (⟨g79.1, g79.2, u.2.2.2.arcs.l ++ [⟨u.2.1, ((u.2.2.2.fr.l.length : Nat) : Int), x.Time[u.2.2.1.toNat][1 + y.Trucks[s.1].Stops[u.1].Sat.toNat]⟩]⟩, u.2.2.2.fr.l ++ [0]) .next ⟨by rw [evS_more hfst, htm]; simp [DrR.d, frLen], by simp, by simp⟩ ?_
          exact ⟨rfl, rfl, rfl, rfl, rfl, rfl, rfl, rfl, rfl, rfl, rfl, rfl, rfl, rfl, rfl, trivial⟩
      intro g ⟨hg1, hg2, hg3⟩
      refine GoC.seq ?_
      refine GoC.region ?_
      refine GoL.q (op_move rfl) ?_
      refine GoL.q (op_loadA rfl rfl rfl) ?_
      refine GoL.q (op_fieldAddr rfl) ?_
      refine GoL.q (op_load rfl rfl) ?_
      refine GoL.p (op_callP rfl fun w _ => sat_spec (cI x p) _ w) ?_
      refine GoL.q (op_assign rfl) ?_
      refine GoL.q (op_assign rfl) ?_
      refine GoL.nil .next ?_
      have hal : y.Trucks[s.1].Stops[u.1].Sat.toNat < u.2.2.2.at_.length := by rw [hu2.2.2.2.2.2.1]; omega
      have hrl := hu2.2.2.2.2.2.2.1 _ (List.getElem_mem hal)
      refine GoC.pull (f := inr 3 t64) u.2.2.2.at_ y.Trucks[s.1].Stops[u.1].Sat.toNat hal ?_
      refine GoC.tree 11 (.op 0 (.op 1 (.op 2 (.op 3 (.op 4 (.op 5 (.op 6 (.op 7 (.op 8 (.w 9 (.y 10 [0, 1, 2] .nil))))))))))) (by kernel_rfl) Pr_mixed ?_
      refine CanT.q rfl (op_move rfl) ?_
      refine CanT.q rfl (op_fieldAddr rfl) ?_
      refine CanT.q rfl (op_load rfl rfl) ?_
      refine CanT.q rfl (op_move rfl) ?_
      refine CanT.q rfl (op_fieldAddr rfl) ?_
      refine CanT.q rfl (op_load rfl rfl) ?_
      refine CanT.q rfl (op_indexO rfl rfl (Int.toNat_of_nonneg hss.1).symm hal (by first | rfl | omega | (simp only [List.length_set] <;> omega))) ?_
      refine CanT.q rfl (op_loadO rfl (by intro _ _ _ _ h; first | exact h.1 | exact h) (by first | assumption | omega) rfl) ?_
      refine CanT.q rfl (op_move rfl) ?_
      refine CanT.x rfl (op_buildSlice1 rfl rfl rfl) ?_
      rintro _ _ _ ⟨b94, rfl, rfl, rfl⟩
      refine CanT.y rfl (op_append1 (((u.2.2.2.fr.l.length : Nat) : Int)) rfl rfl (by rfl) (by intro _ _ _; exact ⟨rfl, w64_id (by omega)⟩) (by omega)) ?_
      rintro _ _ _ ⟨a95, c95, rfl, rfl, rfl⟩
      refine ⟨⟨Again.q rfl (op_move rfl), Again.q rfl (op_fieldAddr rfl), Again.q rfl (op_load rfl rfl), trivial⟩, ?_⟩
      refine CanT.nil rfl ?_
      refine GoL.q (op_indexO rfl rfl (Int.toNat_of_nonneg hss.1).symm hal (by first | rfl | omega | (simp only [List.length_set] <;> omega))) ?_
      refine GoL.y0 (op_storeO (xv := (⟨a95, c95, u.2.2.2.at_[y.Trucks[s.1].Stops[u.1].Sat.toNat].l ++ [((u.2.2.2.fr.l.length : Nat) : Int)]⟩ : Row Int)) rfl rfl hal (by intro _ _; rfl)) ?_
      rintro _ _ _ ⟨rfl, rfl, rfl⟩
      refine GoL.push (f := inr 3 t64) u.2.2.2.at_ y.Trucks[s.1].Stops[u.1].Sat.toNat (⟨a95, c95, u.2.2.2.at_[y.Trucks[s.1].Stops[u.1].Sat.toNat].l ++ [((u.2.2.2.fr.l.length : Nat) : Int)]⟩ : Row Int) hal ?_
      refine GoL.nil (.blockNormal (.next)) ?_
      refine GoC.sub (E' := [(41, _), (10, _), (11, _), (34, _), (2, _), (3, _), (4, _), (6, _), (7, _), (32, _), (33, _), (39, _), (40, _)]) ⟨rfl, rfl, rfl, rfl, rfl, rfl, rfl, rfl, rfl, rfl, rfl, rfl, rfl, trivial⟩ ?_
      refine GoC.region ?_
      refine GoL.q (op_inc rfl (by omega)) ?_
      refine GoL.q (op_move rfl) ?_
      exact GoL.again (u.1 + 1, ((u.2.2.2.fr.l.length : Nat) : Int), ns y.Trucks[s.1].Stops[u.1].Sat, ⟨g.1, ⟨g46.1, g46.2, g.2⟩, u.2.2.2.at_.set y.Trucks[s.1].Stops[u.1].Sat.toNat (⟨a95, c95, u.2.2.2.at_[y.Trucks[s.1].Stops[u.1].Sat.toNat].l ++ [((u.2.2.2.fr.l.length : Nat) : Int)]⟩ : Row Int)⟩) ⟨by omega, hns0, hns1, by simp only; omega, by simp only; omega, by simp only; omega, by simp only [List.length_set]; exact hu2.2.2.2.2.2.1, (fun q hq => by simp only at hq ⊢; rcases List.mem_or_eq_of_mem_set hq with hq | rfl; exact Nat.le_trans (hu2.2.2.2.2.2.2.1 q hq) (by omega); simp only [List.length_append, List.length_singleton]; omega), by have h5 := hu2.2.2.2.2.2.2.2; rw [List.drop_eq_getElem_cons hlt2, List.foldl_cons, hg1, ← atSet_map (a := a95) (c := c95) hal] at h5; exact h5⟩ (by simp only; omega) ⟨rfl, rfl, rfl, rfl, rfl, rfl, rfl, rfl, rfl, rfl, rfl, rfl, rfl, trivial⟩
    · have hge2 : y.Trucks[s.1].Stops.length ≤ u.1 := by simpa using hc1
      refine GoC.exit (.thenExit (.thenExit (.blockSame (.blockNormal (.next))))) ?_
      refine GoC.region ?_
      refine GoL.q (op_inc rfl (by omega)) ?_
      refine GoL.q (op_move rfl) ?_
      exact GoL.again (s.1 + 1, u.2.2.2) ⟨by omega, by have h5 := hu2.2.2.2.1; simp only; omega, hu2.2.2.2.2.1, hu2.2.2.2.2.2.1, hu2.2.2.2.2.2.2.1, by have h5 := hs2.2.2.2.2; rw [List.drop_eq_getElem_cons hlt, trucksG, ← hu2.2.2.2.2.2.2.2, List.drop_of_length_le hge2] at h5; exact h5⟩ (by simp only; omega) ⟨rfl, rfl, rfl, rfl, rfl, rfl, rfl, rfl, trivial⟩
  · have hge : y.Trucks.length ≤ s.1 := by simpa using hc0
    refine GoC.exit (.thenExit (.thenExit (.blockSame (.next)))) ?_
    refine GoC.seq ?_
    refine GoC.seq ?_
    refine GoC.region ?_
    refine GoL.q (op_fieldAddr rfl) ?_
    refine GoL.q (op_load rfl rfl) ?_
    refine GoL.q (op_len rfl) ?_
    refine GoL.q (op_move rfl) ?_
    refine GoL.nil .next ?_
    refine GoC.block ?_
    refine GoC.loop (σ := Nat × DrR) (fun v => [(102, .int .i64 (v.1 : Int))]) [(2, _), (4, _), (6, _), (7, _), (100, _), (101, _)] (fun v => [cel b26 ty_clock_drafter [.int .i64 ((v.2.fr.l.length : Nat) : Int), .slice v.2.arcs.a v.2.arcs.l.length v.2.arcs.c, .slice v.2.fr.a v.2.fr.l.length v.2.fr.c], own ty_i64 t64 v.2.fr.a v.2.fr.c v.2.fr.l, own ty_graph_Arc tArc v.2.arcs.a v.2.arcs.c v.2.arcs.l, own ty_s_i64_1 (tH Int) (some ⟨b30, 0, none⟩) x.Sats.length v.2.at_, grp (v.2.at_.map (inr 3 t64)), cel b4 ty_graph_Graph [.int .i64 0, .slice none 0 0], cel b3 ty_plan_Plan (cP y r), cel b2 ty_inst_Instance (cI x p)]) (fun v => _) (fun v => v.1 ≤ y.Bikes.length ∧ (v.2.fr.l.length + needB (y.Bikes.drop v.1) ≤ needT y.Trucks + needB y.Bikes ∧ v.2.arcs.l.length ≤ v.2.fr.l.length + v.1 * 100000 ∧ v.2.at_.length = x.Sats.length ∧ (∀ q ∈ v.2.at_, q.l.length ≤ 100000) ∧ bikesG x (y.Bikes.drop v.1) v.2.d = bikesG x y.Bikes (trucksG x y.Trucks ([], [], List.replicate x.Sats.length [])))) (fun v => y.Bikes.length - v.1) (0, s.2) ⟨by simp, by have := hs2.1; simp only [List.drop_zero]; omega, by have := hs2.2.1; simp only; omega, hs2.2.2.1, (fun q hq => by have := hs2.2.2.2.1 q hq; have := hs2.1; omega), by have h5 := hs2.2.2.2.2; rw [List.drop_of_length_le hge] at h5; simp only [List.drop_zero]; rw [← h5]; rfl⟩ ⟨rfl, rfl, rfl, rfl, rfl, rfl, rfl, trivial⟩ (fun _ h => h) ?_
    intro v ⟨hv1, hv2⟩
    refine GoC.seq ?_
    refine GoC.region ?_
    refine GoL.q (op_lss rfl rfl) ?_
    refine GoL.nil .next ?_
    refine GoC.seq ?_
    refine GoC.cond rfl (fun hc3 => ?_) (fun hc3 => ?_)
    · have hlt3 : v.1 < y.Bikes.length := by simpa using hc3
      refine GoC.skipTo .next ?_
      refine GoC.seq ?_
      refine GoC.block ?_
      refine GoC.seq ?_
      refine GoC.openR (n := 2) r.b.1 v.1 hlt3 (fun q1 hq1 => ?_)
      have hbb := hsv _ (List.getElem_mem hlt3)
      have hnd := needB_drop hlt3
      refine GoC.region ?_
      refine GoL.q (op_indexR rfl rfl rfl (by first | assumption | omega)) ?_
      refine GoL.q (op_loadEA rfl rfl) ?_
      refine GoL.x (op_alloc) ?_
      rintro _ _ _ ⟨b16, rfl, rfl, rfl⟩
      refine GoL.y0 (op_store (cs' := [.int .i64 y.Bikes[v.1].Sat, .slice q1.2.1 y.Bikes[v.1].Stops.length q1.2.2]) rfl rfl rfl rfl (by simp [Value.oneCell']) (Nat.le_of_ble_eq_true rfl) rfl) ?_
      rintro _ _ _ ⟨rfl, rfl, rfl⟩
      refine GoL.nil .next ?_
      refine GoC.seq ?_
      refine GoC.tree 5 (.op 0 (.op 2 (.op 3 (.op 4 (.y 1 [2, 3, 4] .nil))))) (by kernel_rfl) Pr_mixed ?_
      refine CanT.q rfl (op_move rfl) ?_
      refine CanT.q rfl (op_loadA rfl rfl rfl) ?_
      refine CanT.q rfl (op_fieldAddr rfl) ?_
      refine CanT.q rfl (op_load rfl rfl) ?_
      refine CanT.y rfl (op_callM (vs := [.pointer (some ⟨b26, 0, none⟩), .int .i64 0]) rfl (fun sh w h => event_spec v.2.fr.l v.2.fr.a v.2.fr.c v.2.arcs.l v.2.arcs.a v.2.arcs.c b26 0 rfl (by omega) sh w h)) ?_
      rintro _ _ _ ⟨g107, rfl, rfl, rfl⟩
      refine ⟨⟨Again.q rfl (op_loadA rfl rfl rfl), Again.q rfl (op_fieldAddr rfl), Again.q rfl (op_load rfl rfl), trivial⟩, ?_⟩
      refine CanT.nil rfl ?_
      refine GoL.p (op_callP rfl fun w _ => sat_spec (cI x p) _ w) ?_
      refine GoL.q (op_assign rfl) ?_
      refine GoL.q (op_assign rfl) ?_
      refine GoL.q (op_assign rfl) ?_
      refine GoL.nil .next ?_
      refine GoC.seq ?_
      refine GoC.seq ?_
      have hbl : y.Bikes[v.1].Sat.toNat < v.2.at_.length := by rw [hv2.2.2.1]; omega
      have hrl := hv2.2.2.2.1 _ (List.getElem_mem hbl)
      have hsl : y.Bikes[v.1].Sat.toNat < x.Sats.length := by omega
      refine GoC.openR (n := 2) p.s.1 y.Bikes[v.1].Sat.toNat hsl (fun q5 hq5 => ?_)
      refine GoC.pull (f := inr 3 t64) v.2.at_ y.Bikes[v.1].Sat.toNat hbl ?_
      refine GoC.own64 v.2.at_[y.Bikes[v.1].Sat.toNat].a (fun hrw => ?_)
      refine GoC.region ?_
      refine GoL.q (op_move rfl) ?_
      refine GoL.q (op_fieldAddr rfl) ?_
      refine GoL.q (op_load rfl rfl) ?_
      refine GoL.q (op_indexO rfl rfl (Int.toNat_of_nonneg hbb.1.1).symm hbl (by first | rfl | omega | (simp only [List.length_set] <;> omega))) ?_
      refine GoL.q (op_loadO rfl (by intro _ _ _ _ h; first | exact h.1 | exact h) (by first | assumption | omega) rfl) ?_
      refine GoL.q (op_len rfl) ?_
      refine GoL.q (op_move rfl) ?_
      refine GoL.nil .next ?_
      refine GoC.block ?_
      refine GoC.arrange [own 3 t64 v.2.at_[y.Bikes[v.1].Sat.toNat].a v.2.at_[y.Bikes[v.1].Sat.toNat].c v.2.at_[y.Bikes[v.1].Sat.toNat].l, cel b26 ty_clock_drafter [.int .i64 (((v.2.fr.l ++ [0]).length : Nat) : Int), .slice v.2.arcs.a v.2.arcs.l.length v.2.arcs.c, .slice g107.1 (v.2.fr.l ++ [0]).length g107.2], own ty_i64 t64 g107.1 g107.2 (v.2.fr.l ++ [0]), own ty_graph_Arc tArc v.2.arcs.a v.2.arcs.c v.2.arcs.l, own ty_s_i64_1 (tH Int) (some ⟨b30, 0, none⟩) x.Sats.length v.2.at_, grp ((v.2.at_.take y.Bikes[v.1].Sat.toNat ++ v.2.at_.drop (y.Bikes[v.1].Sat.toNat + 1)).map (inr 3 t64)), cel b16 ty_plan_Bike [.int .i64 y.Bikes[v.1].Sat, .slice q1.2.1 y.Bikes[v.1].Stops.length q1.2.2], cel b4 ty_graph_Graph [.int .i64 0, .slice none 0 0], cel b3 ty_plan_Plan (cP y r), cel b2 ty_inst_Instance (cI x p)] ?_
      refine GoC.loop (σ := Nat × Row Arc) (fun z => [(118, .int .i64 (z.1 : Int))]) [(102, _), (2, _), (4, _), (6, _), (7, _), (100, _), (101, _), (16, _), (17, _), (18, _), (19, _), (116, _), (117, _)] (fun z => [own 3 t64 v.2.at_[y.Bikes[v.1].Sat.toNat].a v.2.at_[y.Bikes[v.1].Sat.toNat].c v.2.at_[y.Bikes[v.1].Sat.toNat].l, cel b26 ty_clock_drafter [.int .i64 (((v.2.fr.l ++ [0]).length : Nat) : Int), .slice z.2.a z.2.l.length z.2.c, .slice g107.1 (v.2.fr.l ++ [0]).length g107.2], own ty_i64 t64 g107.1 g107.2 (v.2.fr.l ++ [0]), own ty_graph_Arc tArc z.2.a z.2.c z.2.l, own ty_s_i64_1 (tH Int) (some ⟨b30, 0, none⟩) x.Sats.length v.2.at_, grp ((v.2.at_.take y.Bikes[v.1].Sat.toNat ++ v.2.at_.drop (y.Bikes[v.1].Sat.toNat + 1)).map (inr 3 t64)), cel b16 ty_plan_Bike [.int .i64 y.Bikes[v.1].Sat, .slice q1.2.1 y.Bikes[v.1].Stops.length q1.2.2], cel b4 ty_graph_Graph [.int .i64 0, .slice none 0 0], cel b3 ty_plan_Plan (cP y r), cel b2 ty_inst_Instance (cI x p)]) (fun z => _) (fun z => z.1 ≤ v.2.at_[y.Bikes[v.1].Sat.toNat].l.length ∧ (z.2.l.length ≤ v.2.arcs.l.length + z.1 ∧ z.2.l ++ holdA x y.Bikes[v.1].Sat ((v.2.fr.l.length : Nat) : Int) (v.2.at_[y.Bikes[v.1].Sat.toNat].l.drop z.1) = v.2.arcs.l ++ holdA x y.Bikes[v.1].Sat ((v.2.fr.l.length : Nat) : Int) v.2.at_[y.Bikes[v.1].Sat.toNat].l)) (fun z => v.2.at_[y.Bikes[v.1].Sat.toNat].l.length - z.1) (0, v.2.arcs) ⟨by simp, by simp, rfl⟩ ⟨rfl, rfl, rfl, rfl, rfl, rfl, rfl, rfl, rfl, rfl, rfl, rfl, rfl, rfl, trivial⟩ (fun _ h => h) ?_
      intro z ⟨hz1, hz2⟩
      refine GoC.seq ?_
      refine GoC.region ?_
      refine GoL.q (op_lss rfl rfl) ?_
      refine GoL.nil .next ?_
      refine GoC.seq ?_
      refine GoC.cond rfl (fun hc4 => ?_) (fun hc4 => ?_)
      · have hlt4 : z.1 < v.2.at_[y.Bikes[v.1].Sat.toNat].l.length := by simpa using hc4
        refine GoC.skipTo .next ?_
        refine GoC.seq ?_
        refine GoC.block ?_
        refine GoC.seq ?_
        refine GoC.region ?_
        refine GoL.q (op_indexO (k := z.1) rfl rfl rfl hlt4 (by first | rfl | omega | (simp only [List.length_set] <;> omega))) ?_
        refine GoL.q (op_loadOF (m := 1) (z.1) 0 hlt4 rfl rfl) ?_
        refine GoL.q (op_assign rfl) ?_
        refine GoL.nil .next ?_
        refine GoC.region ?_
        refine GoL.q (op_move rfl) ?_
        refine GoL.q (op_move rfl) ?_
        refine GoL.q (op_move rfl) ?_
        refine GoL.q (op_fieldAddr rfl) ?_
        refine GoL.q (op_load rfl rfl) ?_
        refine GoL.q (op_fieldAddr rfl) ?_
        refine GoL.q (op_load rfl rfl) ?_
        refine GoL.q (op_indexR rfl rfl (Int.toNat_of_nonneg hbb.1.1).symm hsl) ?_
        refine GoL.q (op_fieldAddrE rfl) ?_
        refine GoL.q (op_loadF rfl rfl) ?_
        refine GoL.y (op_callM (vs := [.pointer (some ⟨b26, 0, none⟩), .int .i64 v.2.at_[y.Bikes[v.1].Sat.toNat].l[z.1], .int .i64 ((v.2.fr.l.length : Nat) : Int), .int .i64 x.Sats[y.Bikes[v.1].Sat.toNat].Hold]) rfl (fun sh w h => behind_spec (v.2.fr.l ++ [0]) g107.1 g107.2 z.2.l z.2.a z.2.c b26 ⟨v.2.at_[y.Bikes[v.1].Sat.toNat].l[z.1], ((v.2.fr.l.length : Nat) : Int), x.Sats[y.Bikes[v.1].Sat.toNat].Hold⟩ ⟨hrw _ (List.getElem_mem hlt4), w64_id (n := ((v.2.fr.l.length : Nat) : Int)) (by omega), hq5.2⟩ (by omega) sh w h)) ?_
        rintro _ _ _ ⟨g132, rfl, rfl, rfl⟩
        refine GoL.nil (.blockNormal (.next)) ?_
        refine GoC.region ?_
        refine GoL.q (op_inc rfl (by omega)) ?_
        refine GoL.q (op_move rfl) ?_
        exact GoL.again (z.1 + 1, ⟨g132.1, g132.2, z.2.l ++ [⟨v.2.at_[y.Bikes[v.1].Sat.toNat].l[z.1], ((v.2.fr.l.length : Nat) : Int), x.Sats[y.Bikes[v.1].Sat.toNat].Hold⟩]⟩) ⟨by omega, by have := hz2.1; simp only [List.length_append, List.length_singleton]; omega, by have h5 := hz2.2; rw [List.drop_eq_getElem_cons hlt4, holdA_cons, holdOf, getD_lt _ hsl] at h5; rw [List.append_assoc]; exact h5⟩ (by simp only; omega) ⟨rfl, rfl, rfl, rfl, rfl, rfl, rfl, rfl, rfl, rfl, rfl, rfl, rfl, rfl, trivial⟩
      · have hge4 : v.2.at_[y.Bikes[v.1].Sat.toNat].l.length ≤ z.1 := by simpa using hc4
        refine GoC.exit (.thenExit (.thenExit (.blockSame (.next)))) ?_
        refine GoC.seq ?_
        refine GoC.seq ?_
        have hho : z.2.l = v.2.arcs.l ++ holdA x y.Bikes[v.1].Sat ((v.2.fr.l.length : Nat) : Int) v.2.at_[y.Bikes[v.1].Sat.toNat].l := by rw [← hz2.2, List.drop_of_length_le hge4]; simp [holdA]
        refine GoC.unpull (f := inr 3 t64) v.2.at_ y.Bikes[v.1].Sat.toNat hbl ?_
        refine GoC.region ?_
        refine GoL.q (op_fieldAddr rfl) ?_
        refine GoL.q (op_load rfl rfl) ?_
        refine GoL.q (op_len rfl) ?_
        refine GoL.q (op_move rfl) ?_
        refine GoL.nil .next ?_
        refine GoC.block ?_
        refine GoC.arrange [cel b26 ty_clock_drafter [.int .i64 (((v.2.fr.l ++ [0]).length : Nat) : Int), .slice z.2.a z.2.l.length z.2.c, .slice g107.1 (v.2.fr.l ++ [0]).length g107.2], own ty_i64 t64 g107.1 g107.2 (v.2.fr.l ++ [0]), own ty_graph_Arc tArc z.2.a z.2.c z.2.l, own ty_s_i64_1 (tH Int) (some ⟨b30, 0, none⟩) x.Sats.length v.2.at_, grp (v.2.at_.map (inr 3 t64)), cel b16 ty_plan_Bike [.int .i64 y.Bikes[v.1].Sat, .slice q1.2.1 y.Bikes[v.1].Stops.length q1.2.2], cel b4 ty_graph_Graph [.int .i64 0, .slice none 0 0], cel b3 ty_plan_Plan (cP y r), cel b2 ty_inst_Instance (cI x p)] ?_
        refine GoC.loop (σ := Nat × Int × Int × Int × Row Arc × Row Int) (fun o => [(137, .int .i64 (o.1 : Int)), (17, .int .i64 o.2.1), (18, .int .i64 o.2.2.1), (19, .int .i64 o.2.2.2.1)]) [(102, _), (2, _), (4, _), (6, _), (7, _), (100, _), (101, _), (16, _), (135, _), (136, _)] (fun o => [cel b26 ty_clock_drafter [.int .i64 ((o.2.2.2.2.2.l.length : Nat) : Int), .slice o.2.2.2.2.1.a o.2.2.2.2.1.l.length o.2.2.2.2.1.c, .slice o.2.2.2.2.2.a o.2.2.2.2.2.l.length o.2.2.2.2.2.c], own ty_i64 t64 o.2.2.2.2.2.a o.2.2.2.2.2.c o.2.2.2.2.2.l, own ty_graph_Arc tArc o.2.2.2.2.1.a o.2.2.2.2.1.c o.2.2.2.2.1.l, own ty_s_i64_1 (tH Int) (some ⟨b30, 0, none⟩) x.Sats.length v.2.at_, grp (v.2.at_.map (inr 3 t64)), cel b16 ty_plan_Bike [.int .i64 y.Bikes[v.1].Sat, .slice q1.2.1 y.Bikes[v.1].Stops.length q1.2.2], cel b4 ty_graph_Graph [.int .i64 0, .slice none 0 0], cel b3 ty_plan_Plan (cP y r), cel b2 ty_inst_Instance (cI x p)]) (fun o => _) (fun o => o.1 ≤ y.Bikes[v.1].Stops.length ∧ (0 ≤ o.2.2.1 ∧ o.2.2.1 < x.Time.length ∧ (0 ≤ o.2.1 ∧ o.2.1 ≤ 1000000) ∧ o.2.2.2.2.2.l.length + (y.Bikes[v.1].Stops.length - o.1) + 1 + needB (y.Bikes.drop (v.1 + 1)) ≤ needT y.Trucks + needB y.Bikes ∧ o.2.2.2.2.1.l.length + 1 ≤ o.2.2.2.2.2.l.length + (v.1 + 1) * 100000 ∧ True ∧ (y.Bikes[v.1].Stops.drop o.1).foldl (cuS x) (o.2.1, o.2.2.1, o.2.2.2.1, o.2.2.2.2.1.l, o.2.2.2.2.2.l) = bikeU x y.Bikes[v.1] v.2.d)) (fun o => y.Bikes[v.1].Stops.length - o.1) (0, ((v.2.fr.l.length : Nat) : Int), ns y.Bikes[v.1].Sat, 0, z.2, ⟨g107.1, g107.2, (v.2.fr.l ++ [0])⟩) ⟨by simp, by simp only; rw [ns_eq hx hbb.1]; omega, by simp only; rw [ns_eq hx hbb.1]; omega, by have := hv2.1; simp only; omega, by have := hv2.1; simp only [List.length_append, List.length_singleton]; omega, by have := hv2.2.1; have := hz2.1; simp only [List.length_append, List.length_singleton]; omega, trivial, by simp only [List.drop_zero]; rw [hho, bikeU]; simp only [DrR.d, frLen]; rw [getD_lt _ (by simpa using hbl), List.getElem_map]⟩ ⟨rfl, rfl, rfl, rfl, rfl, rfl, rfl, rfl, rfl, rfl, rfl, rfl, rfl, rfl, trivial⟩ (fun _ h => h) ?_
        intro o ⟨ho1, ho2⟩
        refine GoC.seq ?_
        refine GoC.region ?_
        refine GoL.q (op_lss rfl rfl) ?_
        refine GoL.nil .next ?_
        refine GoC.seq ?_
        refine GoC.cond rfl (fun hc5 => ?_) (fun hc5 => ?_)
        · have hlt5 : o.1 < y.Bikes[v.1].Stops.length := by simpa using hc5
          refine GoC.skipTo .next ?_
          refine GoC.seq ?_
          refine GoC.block ?_
          refine GoC.seq ?_
          refine GoC.openR (n := 1) q1.2.1 o.1 hlt5 (fun q2 hq2 => ?_)
          have hcc := hbb.2 _ (List.getElem_mem hlt5)
          refine GoC.region ?_
          refine GoL.q (op_indexR rfl rfl rfl (by first | assumption | omega)) ?_
          refine GoL.q (op_loadE rfl rfl) ?_
          refine GoL.q (op_assign rfl) ?_
          refine GoL.nil .next ?_
          refine GoC.seq ?_
          have hn5 : y.Bikes[v.1].Stops[o.1].toNat < x.Customers.length := by omega
          refine GoC.openR (n := 4) p.u.1 y.Bikes[v.1].Stops[o.1].toNat hn5 (fun q5 hq5 => ?_)
          refine GoC.region ?_
          refine GoL.q (op_move rfl) ?_
          refine GoL.q (op_fieldAddr rfl) ?_
          refine GoL.q (op_load rfl rfl) ?_
          refine GoL.q (op_move rfl) ?_
          refine GoL.q (op_indexR rfl rfl (Int.toNat_of_nonneg hcc.1).symm hn5) ?_
          refine GoL.q (op_fieldAddrE rfl) ?_
          refine GoL.q (op_loadF rfl rfl) ?_
          refine GoL.y (op_callM (vs := [.pointer (some ⟨b26, 0, none⟩), .int .i64 x.Customers[y.Bikes[v.1].Stops[o.1].toNat].Open]) rfl (fun sh w h => event_spec o.2.2.2.2.2.l o.2.2.2.2.2.a o.2.2.2.2.2.c o.2.2.2.2.1.l o.2.2.2.2.1.a o.2.2.2.2.1.c b26 x.Customers[y.Bikes[v.1].Stops[o.1].toNat].Open hq5.2.1 (by omega) sh w h)) ?_
          rintro _ _ _ ⟨g148, rfl, rfl, rfl⟩
          refine GoL.q (op_assign rfl) ?_
          refine GoL.nil .next ?_
          refine GoC.seq ?_
          have hn3 : o.2.2.1.toNat < x.Time.length := by omega
          refine GoC.openR (n := 1) p.t.1 o.2.2.1.toNat hn3 (fun q3 hq3 => ?_)
          have hn4 : 1 + x.Sats.length + y.Bikes[v.1].Stops[o.1].toNat < x.Time[o.2.2.1.toNat].length := by rw [hx.r]; omega
          refine GoC.openR (n := 1) q3.1 (1 + x.Sats.length + y.Bikes[v.1].Stops[o.1].toNat) hn4 (fun q4 hq4 => ?_)
          have hnc0 : 0 ≤ nc x y.Bikes[v.1].Stops[o.1] := by rw [nc_eq hx hcc]; omega
          have hnc1 : nc x y.Bikes[v.1].Stops[o.1] < x.Time.length := by rw [nc_eq hx hcc]; omega
          have htm := tm_eq hn3 hn4 (Int.toNat_of_nonneg ho2.1).symm (nc_eq hx hcc)
          have hcu : x.Customers[y.Bikes[v.1].Stops[o.1].toNat] = custOf x y.Bikes[v.1].Stops[o.1] := by rw [custOf, getD_lt _ hn5]
          refine GoC.draw 15 [] [0, 1, 2, 3, 4, 5, 6, 7, 8, 9, 10, 11, 12, 13, 14] (by kernel_rfl) Pr_mixed ?_
          refine Can.q rfl (op_move rfl) ?_
          refine Can.q rfl (op_move rfl) ?_
          refine Can.q rfl (op_move rfl) ?_
          refine Can.q rfl (op_move rfl) ?_
          refine Can.q rfl (op_fieldAddr rfl) ?_
          refine Can.q rfl (op_load rfl rfl) ?_
          refine Can.q rfl (op_move rfl) ?_
          refine Can.q rfl (op_indexR rfl rfl (Int.toNat_of_nonneg ho2.1).symm hn3) ?_
          refine Can.q rfl (op_loadE rfl rfl) ?_
          refine Can.q rfl (op_loadA rfl rfl rfl) ?_
          refine Can.q rfl (op_move rfl) ?_
          refine Can.p rfl (op_callP rfl fun w _ => customer_spec x p _ w) ?_
          refine Can.q rfl (op_indexR rfl rfl (nc_eq hx hcc) hn4) ?_
          refine Can.q rfl (op_loadE rfl rfl) ?_
          refine Can.q rfl (op_add rfl rfl) ?_
          refine Can.nil rfl ?_
          refine GoL.y (op_callM (vs := [.pointer (some ⟨b26, 0, none⟩), .int .i64 o.2.1, .int .i64 ((o.2.2.2.2.2.l.length : Nat) : Int), .int .i64 (w64 (o.2.2.2.1 + x.Time[o.2.2.1.toNat][1 + x.Sats.length + y.Bikes[v.1].Stops[o.1].toNat]))]) rfl (fun sh w h => behind_spec (o.2.2.2.2.2.l ++ [x.Customers[y.Bikes[v.1].Stops[o.1].toNat].Open]) g148.1 g148.2 o.2.2.2.2.1.l o.2.2.2.2.1.a o.2.2.2.2.1.c b26 ⟨o.2.1, ((o.2.2.2.2.2.l.length : Nat) : Int), (w64 (o.2.2.2.1 + x.Time[o.2.2.1.toNat][1 + x.Sats.length + y.Bikes[v.1].Stops[o.1].toNat]))⟩ ⟨w64_id (n := o.2.1) (by omega), w64_id (n := ((o.2.2.2.2.2.l.length : Nat) : Int)) (by omega), w64_w64 _⟩ (by omega) sh w h)) ?_
          rintro _ _ _ ⟨g164, rfl, rfl, rfl⟩
          refine GoL.nil .next ?_
          refine GoC.sub (E' := [(137, _), (17, _), (18, _), (19, _), (102, _), (2, _), (4, _), (6, _), (7, _), (100, _), (101, _), (16, _), (135, _), (136, _), (23, _), (24, _)]) ⟨rfl, rfl, rfl, rfl, rfl, rfl, rfl, rfl, rfl, rfl, rfl, rfl, rfl, rfl, rfl, rfl, trivial⟩ ?_
          refine GoC.draw 12 [] [0, 1, 2, 3, 4, 5, 6, 7, 8, 9, 10, 11] (by kernel_rfl) Pr_mixed ?_
          refine Can.q rfl (op_move rfl) ?_
          refine Can.q rfl (op_loadA rfl rfl rfl) ?_
          refine Can.q rfl (op_move rfl) ?_
          refine Can.p rfl (op_callP rfl fun w _ => customer_spec x p _ w) ?_
          refine Can.q rfl (op_fieldAddr rfl) ?_
          refine Can.q rfl (op_load rfl rfl) ?_
          refine Can.q rfl (op_move rfl) ?_
          refine Can.q rfl (op_indexR rfl rfl (Int.toNat_of_nonneg hcc.1).symm hn5) ?_
          refine Can.q rfl (op_fieldAddrE rfl) ?_
          refine Can.q rfl (op_loadF rfl rfl) ?_
          refine Can.q rfl (op_assign rfl) ?_
          refine Can.q rfl (op_assign rfl) ?_
          refine Can.nil rfl ?_
          refine GoL.q (op_assign rfl) ?_
          refine GoL.nil (.blockNormal (.next)) ?_
          refine GoC.region ?_
          refine GoL.q (op_inc rfl (by omega)) ?_
          refine GoL.q (op_move rfl) ?_
          exact GoL.again (o.1 + 1, ((o.2.2.2.2.2.l.length : Nat) : Int), nc x y.Bikes[v.1].Stops[o.1], x.Customers[y.Bikes[v.1].Stops[o.1].toNat].Stay, ⟨g164.1, g164.2, o.2.2.2.2.1.l ++ [⟨o.2.1, ((o.2.2.2.2.2.l.length : Nat) : Int), w64 (o.2.2.2.1 + x.Time[o.2.2.1.toNat][1 + x.Sats.length + y.Bikes[v.1].Stops[o.1].toNat])⟩]⟩, ⟨g148.1, g148.2, o.2.2.2.2.2.l ++ [x.Customers[y.Bikes[v.1].Stops[o.1].toNat].Open]⟩) ⟨by omega, hnc0, hnc1, by simp only; omega, by simp only [List.length_append, List.length_singleton]; omega, by simp only [List.length_append, List.length_singleton]; omega, trivial, by have h5 := ho2.2.2.2.2.2.2; rw [List.drop_eq_getElem_cons hlt5, List.foldl_cons, cuS, ← htm, ← hcu] at h5; exact h5⟩ (by simp only; omega) ⟨rfl, rfl, rfl, rfl, rfl, rfl, rfl, rfl, rfl, rfl, rfl, rfl, rfl, rfl, trivial⟩
        · have hge5 : y.Bikes[v.1].Stops.length ≤ o.1 := by simpa using hc5
          refine GoC.exit (.thenExit (.thenExit (.blockSame (.next)))) ?_
          have hn6 : o.2.2.1.toNat < x.Time.length := by omega
          refine GoC.openR (n := 1) p.t.1 o.2.2.1.toNat hn6 (fun q3 hq3 => ?_)
          have hn7 : 1 + y.Bikes[v.1].Sat.toNat < x.Time[o.2.2.1.toNat].length := by rw [hx.r]; omega
          refine GoC.openR (n := 1) q3.1 (1 + y.Bikes[v.1].Sat.toNat) hn7 (fun q4 hq4 => ?_)
          have htm := tm_eq hn6 hn7 (Int.toNat_of_nonneg ho2.1).symm (ns_eq hx hbb.1)
          have hou : (o.2.1, o.2.2.1, o.2.2.2.1, o.2.2.2.2.1.l, o.2.2.2.2.2.l) = bikeU x y.Bikes[v.1] v.2.d := by have h5 := ho2.2.2.2.2.2.2; rw [List.drop_of_length_le hge5] at h5; exact h5
          refine GoC.tree 17 (.op 0 (.op 1 (.op 2 (.op 4 (.op 5 (.op 6 (.op 7 (.op 8 (.op 9 (.op 10 (.op 11 (.op 12 (.y 3 [0, 1, 4, 5, 6, 7, 8, 9, 10, 11, 12] (.op 13 (.op 14 (.op 15 (.op 16 .nil))))))))))))))))) (by kernel_rfl) Pr_mixed ?_
          refine CanT.q rfl (op_move rfl) ?_
          refine CanT.q rfl (op_move rfl) ?_
          refine CanT.q rfl (op_move rfl) ?_
          refine CanT.q rfl (op_move rfl) ?_
          refine CanT.q rfl (op_fieldAddr rfl) ?_
          refine CanT.q rfl (op_load rfl rfl) ?_
          refine CanT.q rfl (op_move rfl) ?_
          refine CanT.q rfl (op_indexR rfl rfl (Int.toNat_of_nonneg ho2.1).symm hn6) ?_
          refine CanT.q rfl (op_loadE rfl rfl) ?_
          refine CanT.q rfl (op_loadA rfl rfl rfl) ?_
          refine CanT.q rfl (op_fieldAddr rfl) ?_
          refine CanT.q rfl (op_load rfl rfl) ?_
          refine CanT.y rfl (op_callM (vs := [.pointer (some ⟨b26, 0, none⟩), .int .i64 0]) rfl (fun sh w h => event_spec o.2.2.2.2.2.l o.2.2.2.2.2.a o.2.2.2.2.2.c o.2.2.2.2.1.l o.2.2.2.2.1.a o.2.2.2.2.1.c b26 0 rfl (by omega) sh w h)) ?_
          rintro _ _ _ ⟨g179, rfl, rfl, rfl⟩
          refine ⟨⟨Again.q rfl (op_move rfl), Again.q rfl (op_move rfl), Again.q rfl (op_move rfl), Again.q rfl (op_fieldAddr rfl), Again.q rfl (op_load rfl rfl), Again.q rfl (op_move rfl), Again.q rfl (op_indexR rfl rfl (Int.toNat_of_nonneg ho2.1).symm hn6), Again.q rfl (op_loadE rfl rfl), Again.q rfl (op_loadA rfl rfl rfl), Again.q rfl (op_fieldAddr rfl), Again.q rfl (op_load rfl rfl), trivial⟩, ?_⟩
          refine CanT.p rfl (op_callP rfl fun w _ => sat_spec (cI x p) _ w) ?_
          refine CanT.q rfl (op_indexR rfl rfl (ns_eq hx hbb.1) hn7) ?_
          refine CanT.q rfl (op_loadE rfl rfl) ?_
          refine CanT.q rfl (op_add rfl rfl) ?_
          refine CanT.nil rfl ?_
          refine GoL.y (op_callM (vs := [.pointer (some ⟨b26, 0, none⟩), .int .i64 o.2.1, .int .i64 ((o.2.2.2.2.2.l.length : Nat) : Int), .int .i64 (w64 (o.2.2.2.1 + x.Time[o.2.2.1.toNat][1 + y.Bikes[v.1].Sat.toNat]))]) rfl (fun sh w h => behind_spec (o.2.2.2.2.2.l ++ [0]) g179.1 g179.2 o.2.2.2.2.1.l o.2.2.2.2.1.a o.2.2.2.2.1.c b26 ⟨o.2.1, ((o.2.2.2.2.2.l.length : Nat) : Int), (w64 (o.2.2.2.1 + x.Time[o.2.2.1.toNat][1 + y.Bikes[v.1].Sat.toNat]))⟩ ⟨w64_id (n := o.2.1) (by omega), w64_id (n := ((o.2.2.2.2.2.l.length : Nat) : Int)) (by omega), w64_w64 _⟩ (by omega) sh w h)) ?_
          rintro _ _ _ ⟨g193, rfl, rfl, rfl⟩
          refine GoL.nil (.blockNormal (.next)) ?_
          refine GoC.sub (E' := [(137, _), (17, _), (18, _), (19, _), (102, _), (2, _), (4, _), (6, _), (7, _), (100, _), (101, _), (16, _), (135, _), (136, _)]) ⟨rfl, rfl, rfl, rfl, rfl, rfl, rfl, rfl, rfl, rfl, rfl, rfl, rfl, rfl, trivial⟩ ?_
          refine GoC.region ?_
          refine GoL.q (op_inc rfl (by omega)) ?_
          refine GoL.q (op_move rfl) ?_
          exact GoL.again (v.1 + 1, ⟨⟨g193.1, g193.2, o.2.2.2.2.1.l ++ [⟨o.2.1, ((o.2.2.2.2.2.l.length : Nat) : Int), w64 (o.2.2.2.1 + x.Time[o.2.2.1.toNat][1 + y.Bikes[v.1].Sat.toNat])⟩]⟩, ⟨g179.1, g179.2, o.2.2.2.2.2.l ++ [0]⟩, v.2.at_⟩) ⟨by omega, by simp only [List.length_append, List.length_singleton]; omega, by simp only [List.length_append, List.length_singleton]; omega, hv2.2.2.1, hv2.2.2.2.1, by have h5 := hv2.2.2.2.2; rw [List.drop_eq_getElem_cons hlt3, bikesG, bikeG, ← hou, ← htm] at h5; exact h5⟩ (by simp only; omega) ⟨rfl, rfl, rfl, rfl, rfl, rfl, rfl, trivial⟩
    · have hge3 : y.Bikes.length ≤ v.1 := by simpa using hc3
      refine GoC.exit (.thenExit (.thenExit (.blockSame (.next)))) ?_
      refine GoC.seq ?_
      refine GoC.tree 9 (.op 0 (.op 1 (.op 2 (.op 3 (.op 4 (.op 5 (.op 6 (.op 7 (.s 8 [4, 5, 6, 7] .nil))))))))) (by kernel_rfl) Pr_mixed ?_
      refine CanT.q rfl (op_move rfl) ?_
      refine CanT.q rfl (op_nilCheck rfl) ?_
      refine CanT.q rfl (op_fieldAddr rfl) ?_
      refine CanT.q rfl (op_loadA rfl rfl rfl) ?_
      refine CanT.q rfl (op_move rfl) ?_
      refine CanT.q rfl (op_nilCheck rfl) ?_
      refine CanT.q rfl (op_fieldAddr rfl) ?_
      refine CanT.q rfl (op_load rfl rfl) ?_
      refine CanT.s rfl (op_store (cs' := [.int .i64 ((v.2.fr.l.length : Nat) : Int), .slice v.2.arcs.a v.2.arcs.l.length v.2.arcs.c]) rfl rfl rfl rfl (by simp [Value.oneCell']) (Nat.le_of_ble_eq_true rfl) rfl) ?_
      rintro _ _ _ ⟨rfl, rfl, rfl⟩
      refine ⟨⟨Again.q rfl (op_move rfl), Again.q rfl (op_nilCheck rfl), Again.q rfl (op_fieldAddr rfl), Again.q rfl (op_load rfl rfl), trivial⟩, ?_⟩
      refine CanT.nil rfl ?_
      refine GoL.q (op_assign rfl) ?_
      refine GoL.nil .next ?_
      refine GoC.ret .here ?_
      refine doneC2 rfl rfl rfl rfl ?_
      intro w' hw
      exact ⟨⟨(v.2.arcs, v.2.fr), by have h5 := hv2.2.2.2.2; rw [List.drop_of_length_le hge3] at h5; exact ⟨by rw [draftG, ← h5]; rfl, by rw [draftG, ← h5]; rfl, by have := hv2.1; have := hv2.2.1; simp only; omega⟩⟩, rfl, Holds.only (W' := [own ty_graph_Arc tArc v.2.arcs.a v.2.arcs.c v.2.arcs.l, own ty_i64 t64 v.2.fr.a v.2.fr.c v.2.fr.l]) hw.n⟩
end Go.Proofs.Ytdeacehacndopaa

namespace Go.Proofs.Ytdeacehacndopaa
open Go.RowKit
def nxtF (l : List Int) (k : Nat) : Int := l.getD (((k : Int) + 1) % (l.length : Int)).toNat 0
def wayBad (x : Instance) (a b : Int) : Bool := (((!decide (instCheckF x = 0) || decide (a < 0)) || decide (nodesF x ≤ a)) || decide (b < 0)) || decide (nodesF x ≤ b)
def costOf (x : Instance) (a b : Int) : Int := (x.Cost.getD a.toNat []).getD b.toNat 0
def wayR (x : Instance) (l : List Int) : List Int → Nat → Int → Int
  | [], _, s => s
  | a :: r, k, s => if wayBad x a (nxtF l k) = true then 0 else wayR x l r (k + 1) (w64 (s + costOf x a (nxtF l k)))
def wayF (x : Instance) (l : List Int) : Int := wayR x l l 0 0
def truckN (k : Truck) : List Int := 0 :: k.Stops.map fun s => ns s.Sat
def bikeN (x : Instance) (b : Bike) : List Int := ns b.Sat :: b.Stops.map (nc x)
def costT (x : Instance) : List Truck → Int → Int
  | [], s => s
  | t :: r, s => costT x r (w64 (s + wayF x (truckN t)))
def costB (x : Instance) : List Bike → Int → Int
  | [], s => s
  | t :: r, s => costB x r (w64 (s + wayF x (bikeN x t)))
def costF (x : Instance) (y : Plan) : Int × Int := if (!decide (planCheckF x y = 0)) = true then (0, planCheckF x y) else (costB x y.Bikes (costT x y.Trucks 0), 0)
theorem wayBad_ok {x : Instance} {a b : Int} (h : wayBad x a b = false) : InstOk x ∧ (0 ≤ a ∧ a < x.Cost.length) ∧ (0 ≤ b ∧ b < x.Cost.length) := by
  simp only [wayBad, Bool.or_eq_false_iff, Bool.not_eq_false', decide_eq_true_eq, decide_eq_false_iff_not] at h
  obtain ⟨⟨⟨⟨h1, h2⟩, h3⟩, h4⟩, h5⟩ := h
  have h6 := instCheckF_iff.1 h1
  have h7 := nodesF_eq h6.ns.2 h6.nu.2
  have h8 := h6.ck.1
  rw [h7] at h3 h5
  exact ⟨h6, ⟨by omega, by omega⟩, by omega, by omega⟩

set_option maxRecDepth 20000 in
theorem way_spec (x : Instance) (p : HI) (hI : OkI x) (l : List Int) (a : Option Addr) (c : Nat) (hl : l.length ≤ 100000000000) (sh : Nat → Prop) (w : World) (h : Holds ⟨0, w, [], sh⟩ [] (rI x p [ro t64 a c l]) w) :
    Calls Pr fn_plan_Way #[.agg (cI x p).toArray, .slice a l.length c] w fun e w' => e = .returned (.int .i64 (wayF x l)) ∧ Ext w w' := by
  refine Calls.of_go (args := [_, _]) fn_plan_Way_f rfl rfl rfl h ?_
  refine GoC.seq ?_
  refine GoC.region ?_
  refine GoL.x (op_box rfl rfl) ?_
  rintro _ _ _ ⟨b2, rfl, rfl, rfl⟩
  refine GoL.q (op_assign rfl) ?_
  refine GoL.nil .next ?_
  refine GoC.seq ?_
  refine GoC.region ?_
  refine GoL.q (op_assign rfl) ?_
  refine GoL.nil .next ?_
  refine GoC.seq ?_
  refine GoC.seq ?_
  refine GoC.region ?_
  refine GoL.q (op_move rfl) ?_
  refine GoL.q (op_len rfl) ?_
  refine GoL.q (op_move rfl) ?_
  refine GoL.nil .next ?_
  refine GoC.block ?_
  refine GoC.loop (σ := Nat × Int) (fun s => [(11, .int .i64 (s.1 : Int)), (5, .int .i64 s.2)]) [(1, _), (2, _), (9, _), (10, _)] (fun s => _) (fun s => _) (fun s => s.1 ≤ l.length ∧ wayR x l (l.drop s.1) s.1 s.2 = wayR x l l 0 0) (fun s => l.length - s.1) (0, 0) ⟨by simp, rfl⟩ ⟨rfl, rfl, rfl, rfl, rfl, rfl, trivial⟩ (fun _ h => h) ?_
  intro s ⟨hs1, hs2⟩
  refine GoC.seq ?_
  refine GoC.region ?_
  refine GoL.q (op_lss rfl rfl) ?_
  refine GoL.nil .next ?_
  refine GoC.seq ?_
  refine GoC.cond rfl (fun hc0 => ?_) (fun hc0 => ?_)
  · have hlt : s.1 < l.length := by simpa using hc0
    refine GoC.skipTo .next ?_
    refine GoC.seq ?_
    refine GoC.block ?_
    refine GoC.seq ?_
    refine GoC.openR (n := 1) a s.1 hlt (fun _ hq => ?_)
    refine GoC.region ?_
    refine GoL.q (op_move rfl) ?_
    refine GoL.q (op_indexR rfl rfl rfl (by first | assumption | omega)) ?_
    refine GoL.q (op_loadE rfl rfl) ?_
    refine GoL.q (op_assign rfl) ?_
    refine GoL.q (op_assign rfl) ?_
    refine GoL.nil .next ?_
    refine GoC.seq ?_
    have hm0 : 0 ≤ ((s.1 : Int) + 1) % (l.length : Int) := Int.emod_nonneg _ (by omega)
    have hm1 : ((s.1 : Int) + 1) % (l.length : Int) < l.length := Int.emod_lt_of_pos _ (by omega)
    have hml : (((s.1 : Int) + 1) % (l.length : Int)).toNat < l.length := by omega
    have hnx : l[(((s.1 : Int) + 1) % (l.length : Int)).toNat] = nxtF l s.1 := by rw [nxtF, getD_lt _ hml]
    refine GoC.openR (n := 1) a (((s.1 : Int) + 1) % (l.length : Int)).toNat hml (fun _ hq2 => ?_)
    refine GoC.region ?_
    refine GoL.q (op_move rfl) ?_
    refine GoL.q (op_move rfl) ?_
    refine GoL.q (op_addI rfl rfl (by omega)) ?_
    refine GoL.q (op_move rfl) ?_
    refine GoL.q (op_len rfl) ?_
    refine GoL.q (op_rem rfl rfl (by omega) (by omega)) ?_
    refine GoL.q (op_indexR rfl rfl (Int.toNat_of_nonneg hm0).symm hml) ?_
    refine GoL.q (op_loadE rfl rfl) ?_
    refine GoL.q (op_assign rfl) ?_
    refine GoL.nil .next ?_
    refine GoC.seq ?_
    refine GoC.seq ?_
    rw [hnx]
    refine GoC.region ?_
    refine GoL.q (op_loadA rfl rfl rfl) ?_
    refine GoL.p (op_callV rfl (fun sh w h => instCheck_spec x p hI sh w h)) ?_
    refine GoL.q (op_neq rfl rfl) ?_
    refine GoL.q (op_move rfl) ?_
    apply GoL.or (m := 2) (x := 29) rfl rfl rfl rfl rfl rfl rfl rfl (Wn.none rfl)
    · intro hg1
      refine GoL.q (op_move rfl) ?_ (hg := Wn.some rfl rfl rfl hg1)
      refine GoL.q (op_lss rfl rfl) ?_ (hg := Wn.some rfl rfl rfl hg1)
      exact GoL.part (k := 2) rfl rfl rfl
    refine GoL.q (op_move rfl) ?_
    apply GoL.or (m := 4) (x := 35) rfl rfl rfl rfl rfl rfl rfl rfl (Wn.none rfl)
    · intro hg2
      refine GoL.q (op_move rfl) ?_ (hg := Wn.some rfl rfl rfl hg2)
      refine GoL.q (op_loadA rfl rfl rfl) ?_ (hg := Wn.some rfl rfl rfl hg2)
      refine GoL.p (op_callP rfl fun w _ => nodes_spec x p w) ?_ (hg := Wn.some rfl rfl rfl hg2)
      refine GoL.q (op_geq rfl rfl) ?_ (hg := Wn.some rfl rfl rfl hg2)
      exact GoL.part (k := 4) rfl rfl rfl
    refine GoL.q (op_move rfl) ?_
    apply GoL.or (m := 2) (x := 39) rfl rfl rfl rfl rfl rfl rfl rfl (Wn.none rfl)
    · intro hg3
      refine GoL.q (op_move rfl) ?_ (hg := Wn.some rfl rfl rfl hg3)
      refine GoL.q (op_lss rfl rfl) ?_ (hg := Wn.some rfl rfl rfl hg3)
      exact GoL.part (k := 2) rfl rfl rfl
    refine GoL.q (op_move rfl) ?_
    apply GoL.or (m := 4) (x := 45) rfl rfl rfl rfl rfl rfl rfl rfl (Wn.none rfl)
    · intro hg4
      refine GoL.q (op_move rfl) ?_ (hg := Wn.some rfl rfl rfl hg4)
      refine GoL.q (op_loadA rfl rfl rfl) ?_ (hg := Wn.some rfl rfl rfl hg4)
      refine GoL.p (op_callP rfl fun w _ => nodes_spec x p w) ?_ (hg := Wn.some rfl rfl rfl hg4)
      refine GoL.q (op_geq rfl rfl) ?_ (hg := Wn.some rfl rfl rfl hg4)
      exact GoL.part (k := 4) rfl rfl rfl
    refine GoL.nil .next ?_
    refine GoC.sub (E' := [(11, _), (5, _), (1, _), (2, _), (9, _), (10, _), (7, _), (8, _), (46, _)]) ⟨rfl, rfl, rfl, rfl, rfl, rfl, rfl, rfl, rfl, trivial⟩ ?_
    refine GoC.cond rfl (fun hc5 => ?_) (fun hc5 => ?_)
    · have hbd := hc5
      refine GoC.seq ?_
      refine GoC.region ?_
      refine GoL.q (op_assign rfl) ?_
      refine GoL.nil .next ?_
      refine GoC.ret (.thenRet (.blockRet (.thenRet (.thenRet (.blockRet (.thenRet (.here))))))) ?_
      refine done1 rfl rfl ?_
      intro w' hw
      have e : wayF x l = 0 := by rw [wayF, ← hs2, List.drop_eq_getElem_cons hlt, wayR]; exact if_pos hbd
      exact ⟨by rw [e], hw.keep⟩
    · have hbd := hc5
      refine GoC.skipTo .next ?_
      have hbk := wayBad_ok (x := x) (a := l[s.1]) (b := nxtF l s.1) hbd
      have hk1 : l[s.1].toNat < x.Cost.length := by have := hbk.2.1; omega
      refine GoC.openR (n := 1) p.k.1 l[s.1].toNat hk1 (fun q3 hq3 => ?_)
      have hk2 : (nxtF l s.1).toNat < x.Cost[l[s.1].toNat].length := by rw [hbk.1.ck.2 _ (List.getElem_mem hk1), ← hbk.1.ck.1]; have := hbk.2.2; omega
      refine GoC.openR (n := 1) q3.1 (nxtF l s.1).toNat hk2 (fun q4 hq4 => ?_)
      have hco : x.Cost[l[s.1].toNat][(nxtF l s.1).toNat] = costOf x l[s.1] (nxtF l s.1) := by rw [costOf, getD_lt _ hk1, getD_lt _ hk2]
      refine GoC.region ?_
      refine GoL.q (op_move rfl) ?_
      refine GoL.q (op_fieldAddr rfl) ?_
      refine GoL.q (op_load rfl rfl) ?_
      refine GoL.q (op_move rfl) ?_
      refine GoL.q (op_indexR rfl rfl (Int.toNat_of_nonneg hbk.2.1.1).symm hk1) ?_
      refine GoL.q (op_loadE rfl rfl) ?_
      refine GoL.q (op_move rfl) ?_
      refine GoL.q (op_indexR rfl rfl (Int.toNat_of_nonneg hbk.2.2.1).symm hk2) ?_
      refine GoL.q (op_loadE rfl rfl) ?_
      refine GoL.q (op_add rfl rfl) ?_
      refine GoL.q (op_assign rfl) ?_
      refine GoL.nil (.blockNormal (.next)) ?_
      refine GoC.region ?_
      refine GoL.q (op_inc rfl (by omega)) ?_
      refine GoL.q (op_move rfl) ?_
      exact GoL.again (s.1 + 1, w64 (s.2 + x.Cost[l[s.1].toNat][(nxtF l s.1).toNat])) ⟨by omega, by rw [List.drop_eq_getElem_cons hlt, wayR] at hs2; rw [hco]; exact (if_neg (Bool.eq_false_iff.1 hbd)).symm.trans hs2⟩ (by simp only; omega) ⟨rfl, rfl, rfl, rfl, rfl, rfl, trivial⟩
  · have hge : l.length ≤ s.1 := by simpa using hc0
    refine GoC.exit (.thenExit (.thenExit (.blockSame (.next)))) ?_
    refine GoC.seq ?_
    refine GoC.region ?_
    refine GoL.q (op_move rfl) ?_
    refine GoL.q (op_assign rfl) ?_
    refine GoL.nil .next ?_
    refine GoC.ret .here ?_
    refine done1 rfl rfl ?_
    intro w' hw
    have e : wayF x l = s.2 := by rw [wayF, ← hs2, List.drop_of_length_le hge, wayR]
    exact ⟨by rw [e], hw.keep⟩
set_option maxRecDepth 20000 in
theorem truckNodes_spec (x : Instance) (p : HI) (k : Truck) (q : Hdr) (hl : k.Stops.length ≤ 100000000) (sh : Nat → Prop) (w : World) (h : Holds ⟨0, w, [], sh⟩ [] [ro tStop q.1 q.2 k.Stops] w) :
    Calls Pr fn_plan_Truck_Nodes #[.agg #[.slice q.1 k.Stops.length q.2], .agg (cI x p).toArray] w fun e w' => ∃ g : { g : Row Int // g.l = truckN k }, e = .returned (.slice g.1.a g.1.l.length g.1.c) ∧ Holds ⟨0, w, [], sh⟩ [own 3 t64 g.1.a g.1.c g.1.l] [] w' := by
  refine Calls.of_go (args := [_, _]) fn_plan_Truck_Nodes_f rfl rfl rfl h ?_
  refine GoC.seq ?_
  refine GoC.region ?_
  refine GoL.x (op_box rfl rfl) ?_
  rintro _ _ _ ⟨b2, rfl, rfl, rfl⟩
  refine GoL.x (op_box rfl rfl) ?_
  rintro _ _ _ ⟨b3, rfl, rfl, rfl⟩
  refine GoL.q (op_assign rfl) ?_
  refine GoL.nil .next ?_
  refine GoC.seq ?_
  refine GoC.region ?_
  refine GoL.x (op_buildSlice1 rfl rfl rfl) ?_
  rintro _ _ _ ⟨b8, rfl, rfl, rfl⟩
  refine GoL.celOwn (ty := t64) b8 0 (fun _ _ => ⟨rfl, rfl⟩) ?_
  refine GoL.q (op_assign rfl) ?_
  refine GoL.nil .next ?_
  refine GoC.seq ?_
  refine GoC.seq ?_
  refine GoC.region ?_
  refine GoL.q (op_fieldAddr rfl) ?_
  refine GoL.q (op_load rfl rfl) ?_
  refine GoL.q (op_len rfl) ?_
  refine GoL.q (op_move rfl) ?_
  refine GoL.nil .next ?_
  refine GoC.block ?_
  refine GoC.loop (σ := Nat × Row Int) (fun s => [(12, .int .i64 (s.1 : Int)), (5, .slice s.2.a s.2.l.length s.2.c)]) [(3, _), (10, _), (11, _)] (fun s => [own 3 t64 s.2.a s.2.c s.2.l, cel b3 ty_inst_Instance (cI x p), cel b2 ty_plan_Truck [.slice q.1 k.Stops.length q.2]]) (fun s => _) (fun s => s.1 ≤ k.Stops.length ∧ (s.2.l.length ≤ s.1 + 1 ∧ s.2.l ++ (k.Stops.drop s.1).map (fun s => ns s.Sat) = truckN k)) (fun s => k.Stops.length - s.1) (0, ⟨some ⟨b8, 0, none⟩, 1, [0]⟩) ⟨by simp, by simp, rfl⟩ ⟨rfl, rfl, rfl, rfl, rfl, trivial⟩ (fun _ h => h) ?_
  intro s ⟨hs1, hs2⟩
  refine GoC.seq ?_
  refine GoC.region ?_
  refine GoL.q (op_lss rfl rfl) ?_
  refine GoL.nil .next ?_
  refine GoC.seq ?_
  refine GoC.cond rfl (fun hc0 => ?_) (fun hc0 => ?_)
  · have hlt : s.1 < k.Stops.length := by simpa using hc0
    refine GoC.skipTo .next ?_
    refine GoC.seq ?_
    refine GoC.block ?_
    refine GoC.seq ?_
    refine GoC.openR (n := 2) q.1 s.1 hlt (fun q2 hq2 => ?_)
    refine GoC.region ?_
    refine GoL.q (op_indexR rfl rfl rfl (by first | assumption | omega)) ?_
    refine GoL.q (op_loadEA rfl rfl) ?_
    refine GoL.x (op_alloc) ?_
    rintro _ _ _ ⟨b7, rfl, rfl, rfl⟩
    refine GoL.y0 (op_store (cs' := [.int .i64 k.Stops[s.1].Sat, .int .i64 k.Stops[s.1].Load]) rfl rfl rfl rfl (by simp [Value.oneCell']) (Nat.le_of_ble_eq_true rfl) rfl) ?_
    rintro _ _ _ ⟨rfl, rfl, rfl⟩
    refine GoL.nil .next ?_
    refine GoC.region ?_
    refine GoL.q (op_move rfl) ?_
    refine GoL.q (op_loadA rfl rfl rfl) ?_
    refine GoL.q (op_fieldAddr rfl) ?_
    refine GoL.q (op_load rfl rfl) ?_
    refine GoL.p (op_callP rfl fun w _ => sat_spec (cI x p) _ w) ?_
    refine GoL.x (op_buildSlice1 rfl rfl rfl) ?_
    rintro _ _ _ ⟨b21, rfl, rfl, rfl⟩
    refine GoL.y (op_append1 ((ns k.Stops[s.1].Sat)) rfl rfl (by rfl) (by intro _ _ _; exact ⟨rfl, w64_w64 _⟩) (by omega)) ?_
    rintro _ _ _ ⟨a22, c22, rfl, rfl, rfl⟩
    refine GoL.q (op_assign rfl) ?_
    refine GoL.nil (.blockNormal (.next)) ?_
    refine GoC.region ?_
    refine GoL.q (op_inc rfl (by omega)) ?_
    refine GoL.q (op_move rfl) ?_
    exact GoL.again (s.1 + 1, ⟨a22, c22, s.2.l ++ [ns k.Stops[s.1].Sat]⟩) ⟨by omega, by have := hs2.1; simp only [List.length_append, List.length_singleton]; omega, by have h5 := hs2.2; rw [List.drop_eq_getElem_cons hlt, List.map_cons] at h5; rw [List.append_assoc]; exact h5⟩ (by simp only; omega) ⟨rfl, rfl, rfl, rfl, rfl, trivial⟩
  · have hge : k.Stops.length ≤ s.1 := by simpa using hc0
    refine GoC.exit (.thenExit (.thenExit (.blockSame (.next)))) ?_
    refine GoC.seq ?_
    refine GoC.region ?_
    refine GoL.q (op_move rfl) ?_
    refine GoL.q (op_assign rfl) ?_
    refine GoL.nil .next ?_
    refine GoC.ret .here ?_
    refine done1 rfl rfl ?_
    intro w' hw
    have e : s.2.l = truckN k := by have h5 := hs2.2; rw [List.drop_of_length_le hge] at h5; simpa using h5
    exact ⟨⟨s.2, e⟩, rfl, Holds.only (W' := [own 3 t64 s.2.a s.2.c s.2.l]) hw.n⟩
set_option maxRecDepth 20000 in
theorem bikeNodes_spec (x : Instance) (p : HI) (k : Bike) (q : Hdr) (hl : k.Stops.length ≤ 100000000) (sh : Nat → Prop) (w : World) (h : Holds ⟨0, w, [], sh⟩ [] [ro t64 q.1 q.2 k.Stops] w) :
    Calls Pr fn_plan_Bike_Nodes #[.agg #[.int .i64 k.Sat, .slice q.1 k.Stops.length q.2], .agg (cI x p).toArray] w fun e w' => ∃ g : { g : Row Int // g.l = bikeN x k }, e = .returned (.slice g.1.a g.1.l.length g.1.c) ∧ Holds ⟨0, w, [], sh⟩ [own 3 t64 g.1.a g.1.c g.1.l] [] w' := by
  refine Calls.of_go (args := [_, _]) fn_plan_Bike_Nodes_f rfl rfl rfl h ?_
  refine GoC.seq ?_
  refine GoC.region ?_
  refine GoL.x (op_box rfl rfl) ?_
  rintro _ _ _ ⟨b2, rfl, rfl, rfl⟩
  refine GoL.x (op_box rfl rfl) ?_
  rintro _ _ _ ⟨b3, rfl, rfl, rfl⟩
  refine GoL.q (op_assign rfl) ?_
  refine GoL.nil .next ?_
  refine GoC.seq ?_
  refine GoC.region ?_
  refine GoL.q (op_loadA rfl rfl rfl) ?_
  refine GoL.q (op_fieldAddr rfl) ?_
  refine GoL.q (op_load rfl rfl) ?_
  refine GoL.p (op_callP rfl fun w _ => sat_spec (cI x p) _ w) ?_
  refine GoL.x (op_buildSlice1 rfl rfl rfl) ?_
  rintro _ _ _ ⟨b12, rfl, rfl, rfl⟩
  refine GoL.celOwn (ty := t64) b12 (ns k.Sat) (fun _ _ => ⟨rfl, w64_w64 _⟩) ?_
  refine GoL.q (op_assign rfl) ?_
  refine GoL.nil .next ?_
  refine GoC.seq ?_
  refine GoC.seq ?_
  refine GoC.region ?_
  refine GoL.q (op_fieldAddr rfl) ?_
  refine GoL.q (op_load rfl rfl) ?_
  refine GoL.q (op_len rfl) ?_
  refine GoL.q (op_move rfl) ?_
  refine GoL.nil .next ?_
  refine GoC.block ?_
  refine GoC.loop (σ := Nat × Row Int) (fun s => [(16, .int .i64 (s.1 : Int)), (5, .slice s.2.a s.2.l.length s.2.c)]) [(3, _), (14, _), (15, _)] (fun s => [own 3 t64 s.2.a s.2.c s.2.l, cel b3 ty_inst_Instance (cI x p), cel b2 ty_plan_Bike [.int .i64 k.Sat, .slice q.1 k.Stops.length q.2]]) (fun s => _) (fun s => s.1 ≤ k.Stops.length ∧ (s.2.l.length ≤ s.1 + 1 ∧ s.2.l ++ (k.Stops.drop s.1).map (nc x) = bikeN x k)) (fun s => k.Stops.length - s.1) (0, ⟨some ⟨b12, 0, none⟩, 1, [ns k.Sat]⟩) ⟨by simp, by simp, rfl⟩ ⟨rfl, rfl, rfl, rfl, rfl, trivial⟩ (fun _ h => h) ?_
  intro s ⟨hs1, hs2⟩
  refine GoC.seq ?_
  refine GoC.region ?_
  refine GoL.q (op_lss rfl rfl) ?_
  refine GoL.nil .next ?_
  refine GoC.seq ?_
  refine GoC.cond rfl (fun hc0 => ?_) (fun hc0 => ?_)
  · have hlt : s.1 < k.Stops.length := by simpa using hc0
    refine GoC.skipTo .next ?_
    refine GoC.seq ?_
    refine GoC.block ?_
    refine GoC.seq ?_
    refine GoC.openR (n := 1) q.1 s.1 hlt (fun q2 hq2 => ?_)
    refine GoC.region ?_
    refine GoL.q (op_indexR rfl rfl rfl (by first | assumption | omega)) ?_
    refine GoL.q (op_loadE rfl rfl) ?_
    refine GoL.q (op_assign rfl) ?_
    refine GoL.nil .next ?_
    refine GoC.region ?_
    refine GoL.q (op_move rfl) ?_
    refine GoL.q (op_loadA rfl rfl rfl) ?_
    refine GoL.q (op_move rfl) ?_
    refine GoL.p (op_callP rfl fun w _ => customer_spec x p _ w) ?_
    refine GoL.x (op_buildSlice1 rfl rfl rfl) ?_
    rintro _ _ _ ⟨b24, rfl, rfl, rfl⟩
    refine GoL.y (op_append1 ((nc x k.Stops[s.1])) rfl rfl (by rfl) (by intro _ _ _; exact ⟨rfl, w64_w64 _⟩) (by omega)) ?_
    rintro _ _ _ ⟨a25, c25, rfl, rfl, rfl⟩
    refine GoL.q (op_assign rfl) ?_
    refine GoL.nil (.blockNormal (.next)) ?_
    refine GoC.region ?_
    refine GoL.q (op_inc rfl (by omega)) ?_
    refine GoL.q (op_move rfl) ?_
    exact GoL.again (s.1 + 1, ⟨a25, c25, s.2.l ++ [nc x k.Stops[s.1]]⟩) ⟨by omega, by have := hs2.1; simp only [List.length_append, List.length_singleton]; omega, by have h5 := hs2.2; rw [List.drop_eq_getElem_cons hlt, List.map_cons] at h5; rw [List.append_assoc]; exact h5⟩ (by simp only; omega) ⟨rfl, rfl, rfl, rfl, rfl, trivial⟩
  · have hge : k.Stops.length ≤ s.1 := by simpa using hc0
    refine GoC.exit (.thenExit (.thenExit (.blockSame (.next)))) ?_
    refine GoC.seq ?_
    refine GoC.region ?_
    refine GoL.q (op_move rfl) ?_
    refine GoL.q (op_assign rfl) ?_
    refine GoL.nil .next ?_
    refine GoC.ret .here ?_
    refine done1 rfl rfl ?_
    intro w' hw
    have e : s.2.l = bikeN x k := by have h5 := hs2.2; rw [List.drop_of_length_le hge] at h5; simpa using h5
    exact ⟨⟨s.2, e⟩, rfl, Holds.only (W' := [own 3 t64 s.2.a s.2.c s.2.l]) hw.n⟩
set_option maxRecDepth 20000 in
theorem cost_spec (x : Instance) (p : HI) (y : Plan) (r : HP) (hI : OkI x) (hy : y.Trucks.length ≤ 1000000 ∧ y.Bikes.length ≤ 1000000) (hT : ∀ k ∈ y.Trucks, k.Stops.length ≤ 100000000) (hB : ∀ k ∈ y.Bikes, k.Stops.length ≤ 100000000) (sh : Nat → Prop) (w : World) (h : Holds ⟨0, w, [], sh⟩ [] (rP y r (rI x p [])) w) :
    Calls Pr fn_plan_Cost #[.agg (cI x p).toArray, .agg (cP y r).toArray] w fun e w' => e = .returned (.tuple #[.int .i64 (costF x y).1, .int .i64 (costF x y).2]) ∧ Ext w w' := by
  refine Calls.of_go (args := [_, _]) fn_plan_Cost_f rfl rfl rfl h ?_
  refine GoC.seq ?_
  refine GoC.region ?_
  refine GoL.x (op_box rfl rfl) ?_
  rintro _ _ _ ⟨b2, rfl, rfl, rfl⟩
  refine GoL.x (op_box rfl rfl) ?_
  rintro _ _ _ ⟨b3, rfl, rfl, rfl⟩
  refine GoL.q (op_assign rfl) ?_
  refine GoL.q (op_assign rfl) ?_
  refine GoL.nil .next ?_
  refine GoC.seq ?_
  refine GoC.seq ?_
  refine GoC.region ?_
  refine GoL.q (op_loadA rfl rfl rfl) ?_
  refine GoL.q (op_loadA rfl rfl rfl) ?_
  refine GoL.p (op_callV rfl (fun sh w h => planCheck_spec x p y r hI ⟨by omega, by omega⟩ sh w h)) ?_
  refine GoL.q (op_assign rfl) ?_
  refine GoL.nil .next ?_
  refine GoC.seq ?_
  refine GoC.region ?_
  refine GoL.q (op_move rfl) ?_
  refine GoL.q (op_neq rfl rfl) ?_
  refine GoL.nil .next ?_
  refine GoC.cond rfl (fun hc0 => ?_) (fun hc0 => ?_)
  · have hk1 := hc0
    refine GoC.seq ?_
    refine GoC.region ?_
    refine GoL.q (op_move rfl) ?_
    refine GoL.q (op_assign rfl) ?_
    refine GoL.q (op_assign rfl) ?_
    refine GoL.nil .next ?_
    refine GoC.ret (.thenRet (.here)) ?_
    refine done2 rfl rfl rfl ?_
    intro w' hw
    have e : costF x y = (0, planCheckF x y) := by rw [costF]; exact if_pos hk1
    exact ⟨by rw [e], hw.keep⟩
  · have hk1 := hc0
    refine GoC.skipTo .next ?_
    refine GoC.seq ?_
    refine GoC.region ?_
    refine GoL.q (op_assign rfl) ?_
    refine GoL.nil .next ?_
    refine GoC.seq ?_
    refine GoC.seq ?_
    refine GoC.region ?_
    refine GoL.q (op_fieldAddr rfl) ?_
    refine GoL.q (op_load rfl rfl) ?_
    refine GoL.q (op_len rfl) ?_
    refine GoL.q (op_move rfl) ?_
    refine GoL.nil .next ?_
    refine GoC.block ?_
    refine GoC.loop (σ := Nat × Int) (fun s => [(21, .int .i64 (s.1 : Int)), (7, .int .i64 s.2)]) [(2, _), (3, _), (19, _), (20, _)] (fun s => [cel b3 ty_plan_Plan (cP y r), cel b2 ty_inst_Instance (cI x p)]) (fun s => _) (fun s => s.1 ≤ y.Trucks.length ∧ costT x (y.Trucks.drop s.1) s.2 = costT x y.Trucks 0) (fun s => y.Trucks.length - s.1) (0, 0) ⟨by simp, rfl⟩ ⟨rfl, rfl, rfl, rfl, rfl, rfl, trivial⟩ (fun _ h => h) ?_
    intro s ⟨hs1, hs2⟩
    refine GoC.seq ?_
    refine GoC.region ?_
    refine GoL.q (op_lss rfl rfl) ?_
    refine GoL.nil .next ?_
    refine GoC.seq ?_
    refine GoC.cond rfl (fun hc1 => ?_) (fun hc1 => ?_)
    · have hlt : s.1 < y.Trucks.length := by simpa using hc1
      refine GoC.skipTo .next ?_
      refine GoC.seq ?_
      refine GoC.block ?_
      refine GoC.seq ?_
      refine GoC.openR (n := 1) r.t.1 s.1 hlt (fun q1 hq1 => ?_)
      refine GoC.region ?_
      refine GoL.q (op_indexR rfl rfl rfl (by first | assumption | omega)) ?_
      refine GoL.q (op_loadEA rfl rfl) ?_
      refine GoL.x (op_alloc) ?_
      rintro _ _ _ ⟨b9, rfl, rfl, rfl⟩
      refine GoL.y0 (op_store (cs' := [.slice q1.1 y.Trucks[s.1].Stops.length q1.2]) rfl rfl rfl rfl (by simp [Value.oneCell']) (Nat.le_of_ble_eq_true rfl) rfl) ?_
      rintro _ _ _ ⟨rfl, rfl, rfl⟩
      refine GoL.nil .next ?_
      refine GoC.tree 6 (.op 0 (.op 1 (.op 2 (.op 3 (.w 4 (.op 5 .nil)))))) (by kernel_rfl) Pr_mixed ?_
      refine CanT.q rfl (op_move rfl) ?_
      refine CanT.q rfl (op_loadA rfl rfl rfl) ?_
      refine CanT.q rfl (op_loadA rfl rfl rfl) ?_
      refine CanT.q rfl (op_loadA rfl rfl rfl) ?_
      refine CanT.x rfl (op_callF (vs := [.agg #[.slice q1.1 y.Trucks[s.1].Stops.length q1.2], .agg (cI x p).toArray]) rfl (fun sh w h => truckNodes_spec x p y.Trucks[s.1] q1 (hT _ (List.getElem_mem hlt)) sh w h)) ?_
      rintro _ _ _ ⟨g29, rfl, rfl, rfl⟩
      refine CanT.p rfl (op_callL (v := .int .i64 (wayF x g29.1.l)) (rI x p [ro t64 g29.1.a g29.1.c g29.1.l]) (vs := [.agg (cI x p).toArray, .slice g29.1.a g29.1.l.length g29.1.c]) rfl (fun sh w h => way_spec x p hI g29.1.l g29.1.a g29.1.c (by rw [g29.2]; simp [truckN]; have := hT _ (List.getElem_mem hlt); omega) sh w h)) ?_
      refine CanT.nil rfl ?_
      refine GoL.q (op_add rfl rfl) ?_
      refine GoL.q (op_assign rfl) ?_
      refine GoL.nil (.blockNormal (.next)) ?_
      refine GoC.region ?_
      refine GoL.q (op_inc rfl (by omega)) ?_
      refine GoL.q (op_move rfl) ?_
      exact GoL.again (s.1 + 1, w64 (s.2 + wayF x g29.1.l)) ⟨by omega, by rw [List.drop_eq_getElem_cons hlt, costT, ← g29.2] at hs2; exact hs2⟩ (by simp only; omega) ⟨rfl, rfl, rfl, rfl, rfl, rfl, trivial⟩
    · have hge : y.Trucks.length ≤ s.1 := by simpa using hc1
      refine GoC.exit (.thenExit (.thenExit (.blockSame (.next)))) ?_
      refine GoC.seq ?_
      refine GoC.seq ?_
      refine GoC.region ?_
      refine GoL.q (op_fieldAddr rfl) ?_
      refine GoL.q (op_load rfl rfl) ?_
      refine GoL.q (op_len rfl) ?_
      refine GoL.q (op_move rfl) ?_
      refine GoL.nil .next ?_
      refine GoC.block ?_
      refine GoC.loop (σ := Nat × Int) (fun v => [(36, .int .i64 (v.1 : Int)), (7, .int .i64 v.2)]) [(2, _), (34, _), (35, _)] (fun v => [cel b3 ty_plan_Plan (cP y r), cel b2 ty_inst_Instance (cI x p)]) (fun v => _) (fun v => v.1 ≤ y.Bikes.length ∧ costB x (y.Bikes.drop v.1) v.2 = costB x y.Bikes s.2) (fun v => y.Bikes.length - v.1) (0, s.2) ⟨by simp, rfl⟩ ⟨rfl, rfl, rfl, rfl, rfl, trivial⟩ (fun _ h => h) ?_
      intro v ⟨hv1, hv2⟩
      refine GoC.seq ?_
      refine GoC.region ?_
      refine GoL.q (op_lss rfl rfl) ?_
      refine GoL.nil .next ?_
      refine GoC.seq ?_
      refine GoC.cond rfl (fun hc2 => ?_) (fun hc2 => ?_)
      · have hlt2 : v.1 < y.Bikes.length := by simpa using hc2
        refine GoC.skipTo .next ?_
        refine GoC.seq ?_
        refine GoC.block ?_
        refine GoC.seq ?_
        refine GoC.openR (n := 2) r.b.1 v.1 hlt2 (fun q1 hq1 => ?_)
        refine GoC.region ?_
        refine GoL.q (op_indexR rfl rfl rfl (by first | assumption | omega)) ?_
        refine GoL.q (op_loadEA rfl rfl) ?_
        refine GoL.x (op_alloc) ?_
        rintro _ _ _ ⟨b11, rfl, rfl, rfl⟩
        refine GoL.y0 (op_store (cs' := [.int .i64 y.Bikes[v.1].Sat, .slice q1.2.1 y.Bikes[v.1].Stops.length q1.2.2]) rfl rfl rfl rfl (by simp [Value.oneCell']) (Nat.le_of_ble_eq_true rfl) rfl) ?_
        rintro _ _ _ ⟨rfl, rfl, rfl⟩
        refine GoL.nil .next ?_
        refine GoC.tree 6 (.op 0 (.op 1 (.op 2 (.op 3 (.w 4 (.op 5 .nil)))))) (by kernel_rfl) Pr_mixed ?_
        refine CanT.q rfl (op_move rfl) ?_
        refine CanT.q rfl (op_loadA rfl rfl rfl) ?_
        refine CanT.q rfl (op_loadA rfl rfl rfl) ?_
        refine CanT.q rfl (op_loadA rfl rfl rfl) ?_
        refine CanT.x rfl (op_callF (vs := [.agg #[.int .i64 y.Bikes[v.1].Sat, .slice q1.2.1 y.Bikes[v.1].Stops.length q1.2.2], .agg (cI x p).toArray]) rfl (fun sh w h => bikeNodes_spec x p y.Bikes[v.1] q1.2 (hB _ (List.getElem_mem hlt2)) sh w h)) ?_
        rintro _ _ _ ⟨g44, rfl, rfl, rfl⟩
        refine CanT.p rfl (op_callL (v := .int .i64 (wayF x g44.1.l)) (rI x p [ro t64 g44.1.a g44.1.c g44.1.l]) (vs := [.agg (cI x p).toArray, .slice g44.1.a g44.1.l.length g44.1.c]) rfl (fun sh w h => way_spec x p hI g44.1.l g44.1.a g44.1.c (by rw [g44.2]; simp [bikeN]; have := hB _ (List.getElem_mem hlt2); omega) sh w h)) ?_
        refine CanT.nil rfl ?_
        refine GoL.q (op_add rfl rfl) ?_
        refine GoL.q (op_assign rfl) ?_
        refine GoL.nil (.blockNormal (.next)) ?_
        refine GoC.region ?_
        refine GoL.q (op_inc rfl (by omega)) ?_
        refine GoL.q (op_move rfl) ?_
        exact GoL.again (v.1 + 1, w64 (v.2 + wayF x g44.1.l)) ⟨by omega, by rw [List.drop_eq_getElem_cons hlt2, costB, ← g44.2] at hv2; exact hv2⟩ (by simp only; omega) ⟨rfl, rfl, rfl, rfl, rfl, trivial⟩
      · have hge2 : y.Bikes.length ≤ v.1 := by simpa using hc2
        refine GoC.exit (.thenExit (.thenExit (.blockSame (.next)))) ?_
        refine GoC.seq ?_
        refine GoC.region ?_
        refine GoL.q (op_move rfl) ?_
        refine GoL.q (op_assign rfl) ?_
        refine GoL.q (op_assign rfl) ?_
        refine GoL.nil .next ?_
        refine GoC.ret .here ?_
        refine done2 rfl rfl rfl ?_
        intro w' hw
        have e1 : costT x y.Trucks 0 = s.2 := by rw [← hs2, List.drop_of_length_le hge, costT]
        have e2 : costB x y.Bikes s.2 = v.2 := by rw [← hv2, List.drop_of_length_le hge2, costB]
        have e : costF x y = (v.2, 0) := by rw [costF, if_neg (Bool.eq_false_iff.1 hk1), e1, e2]
        exact ⟨by rw [e], hw.keep⟩
end Go.Proofs.Ytdeacehacndopaa

namespace Go.Proofs.Ytdeacehacndopaa
open Go.RowKit
section
variable {P : Program} {C : Cx} {E : Env} {W W' Wr : List Ent} {R : List RF} {Q : Exit → Act → World → Prop} {ops : Array Oper} {w : World}
/-- each of some rows can be read -/
def rgrp {α : Type} (ty : RTy α) (l : List (Row α)) : RF where
  P sh w := ∀ r ∈ l, (ro ty r.a r.c r.l).P sh w
  loc _ _ _ _ h hs hb := fun r hr => (ro ty r.a r.c r.l).loc _ _ _ _ (h r hr) hs hb
theorem Holds.addF {r : RF} (h : Holds C W R w) (hr : ∀ sh, (∀ r ∈ R, r.P sh w) → r.P sh w) : Holds C W (r :: R) w := by
  obtain ⟨sh0, hm⟩ := h
  exact ⟨sh0, { hm with facts := fun q hq => by rcases List.mem_cons.1 hq with rfl | hq; exact hr _ hm.facts; exact hm.facts q hq }⟩
theorem Holds.roNil {α : Type} (ty : RTy α) (h : Holds C W R w) : Holds C W (ro ty none 0 [] :: R) w :=
  h.addF fun _ _ => ⟨by simp, by simp [maxLen], fun _ => rfl, fun i x hx => by simp at hx⟩
theorem GoC.rgrp0 {α : Type} (ty : RTy α) {c : Code} (h : GoC P C E W (rgrp ty [] :: R) c Q) : GoC P C E W R c Q :=
  GoC.mem (fun _ hw => hw.addF fun _ _ => fun _ hr => by simp at hr) h
theorem GoL.rPush {α : Type} (ty : RTy α) {c : List Oper} (l : List (Row α)) (x : Row α) [h1 : In (rgrp ty l) R] [h2 : In (ro ty x.a x.c x.l) R] (h : GoL P C ops E W (rgrp ty (l ++ [x]) :: R) c Q) : GoL P C ops E W R c Q :=
  GoL.mem (fun _ hw => hw.addF fun _ hf => fun r hr => by
    rcases List.mem_append.1 hr with hr | hr
    · exact hf _ h1.mem r hr
    · simp only [List.mem_singleton] at hr; subst hr; exact hf _ h2.mem) h
theorem GoC.shareRg {α : Type} (a : Option Addr) {T : TypeId} {ty : RTy α} {n : Nat} {l : List (Row α)} {c : Code} [hc : HasOwn a W T (tH α) n l] [hd : Del (own T (tH α) a n l) W W'] [h1 : In (rgrp ty l) R] (h : GoC P C E W' (ro (tSl ty) a n (l.map Row.l) :: R) c Q) : GoC P C E W R c Q :=
  GoC.mem (fun w hw => hw.shareH (e := own T (tH α) a n l) (r := ro (tSl ty) a n (l.map Row.l)) fun sh hf he => by
    have h5 := own_slice he
    refine ⟨by simpa using h5.1, h5.2.1, h5.2.2.1, fun i x hx => ?_⟩
    rw [List.getElem?_map] at hx
    cases hli : l[i]? with
    | none => rw [hli] at hx; simp at hx
    | some y =>
      rw [hli] at hx; simp at hx; subst hx
      obtain ⟨g, o, cs, h6, h7, h8, h9⟩ := h5.2.2.2 i y hli
      refine ⟨g, o, cs, h6, h7, h8, y.a, y.c, h9, ?_⟩
      exact (ro ty y.a y.c y.l).loc sh _ w w (hf _ h1.mem y (List.mem_of_getElem? hli)) (fun b hb => .inl hb) (fun _ _ => rfl)) h
theorem GoC.roNone {α : Type} {ty : RTy α} (a : Option Addr) {n : Nat} {l : List α} {c : Code} [hc : HasRo a R ty n l] (h : (a = none → l = []) → GoC P C E W R c Q) : GoC P C E W R c Q := by
  intro a' w hs
  obtain ⟨sh, hm⟩ := hs.mem
  refine h (fun ha => ?_) a' w hs
  have h5 := hm.facts _ hc.mem
  have h6 := h5.1
  have h7 := h5.2.2.1 ha
  exact List.eq_nil_of_length_eq_zero (by omega)
variable {d : Option Tmp} {x y : Operand} {t t' u : TypeId} {pos : String} {aft : Array Edge} {gd : Option (Nat × Bool)}
theorem op_subN (k m n : Nat) (hx : evalE E x = some (.int .i64 (m : Int))) (hy : evalE E y = some (.int .i64 (n : Int))) (h : k + n = m) (hm : m ≤ 9223372036854775807) : OpR P C E W R ⟨d, .binOp .sub t x y t', u, pos, aft, gd⟩ (.int .i64 (k : Int)) := by
  have h5 := op_subI (P := P) (C := C) (W := W) (R := R) (d := d) (t := t) (t' := t') (u := u) (pos := pos) (aft := aft) (gd := gd) hx hy (by omega)
  have e : (m : Int) - (n : Int) = (k : Int) := by omega
  rwa [e] at h5
theorem op_addN (k m n : Nat) (hx : evalE E x = some (.int .i64 (m : Int))) (hy : evalE E y = some (.int .i64 (n : Int))) (h : m + n = k) (hm : k ≤ 9223372036854775807) : OpR P C E W R ⟨d, .binOp .add t x y t', u, pos, aft, gd⟩ (.int .i64 (k : Int)) := by
  have h5 := op_addI (P := P) (C := C) (W := W) (R := R) (d := d) (t := t) (t' := t') (u := u) (pos := pos) (aft := aft) (gd := gd) hx hy (by omega)
  have e : (m : Int) + (n : Int) = (k : Int) := by omega
  rwa [e] at h5
end

set_option maxRecDepth 20000 in
theorem cut_spec (l : List Int) (a : Option Addr) (c n : Nat) (hn : n ≤ l.length) (hl : l.length ≤ 1000000000000) (sh : Nat → Prop) (w : World) (h : Holds ⟨0, w, [], sh⟩ [] [ro t64 a c l] w) :
    Calls Pr fn_clock_cut #[.slice a l.length c, .int .i64 (n : Int)] w fun e w' => ∃ g : Option Addr × Option Addr, e = .returned (.tuple #[.slice g.1 (l.take n).length n, .slice g.2 (l.drop n).length (c - n)]) ∧ Holds ⟨0, w, [], sh⟩ [] [ro t64 g.1 n (l.take n), ro t64 g.2 (c - n) (l.drop n)] w' := by
  refine Calls.of_go (args := [_, _]) fn_clock_cut_f rfl rfl rfl h ?_
  refine GoC.seq ?_
  refine GoC.region ?_
  refine GoL.q (op_assign rfl) ?_
  refine GoL.q (op_assign rfl) ?_
  refine GoL.nil .next ?_
  refine GoC.seq ?_
  refine GoC.tree 8 (.op 0 (.op 1 (.op 2 (.op 4 (.op 5 (.or2 (.w 3 (.op 7 (.w 6 .nil))) (.w 6 (.w 3 (.op 7 .nil))))))))) (by kernel_rfl) Pr_mixed ?_
  refine CanT.q rfl (op_move rfl) ?_
  refine CanT.q rfl (op_move rfl) ?_
  refine CanT.q rfl (op_move rfl) ?_
  refine CanT.q rfl (op_move rfl) ?_
  refine CanT.q rfl (op_move rfl) ?_
  refine CanT.both ?_ ?_
  · refine CanT.x rfl (op_slice3 (ty := t64) n rfl rfl rfl hn) ?_
    rintro _ _ _ ⟨a9, rfl, rfl, rfl⟩
    refine CanT.q rfl (op_assign rfl) ?_
    refine CanT.x rfl (op_sliceR (ty := t64) n l.length rfl ⟨_, rfl⟩ rfl hn (Nat.le_refl _)) ?_
    rintro _ _ _ ⟨a12, rfl, rfl, rfl⟩
    refine CanT.nil rfl ?_
    refine GoL.q (op_assign rfl) ?_
    refine GoL.nil .next ?_
    refine GoC.ret .here ?_
    refine done2 rfl rfl rfl ?_
    intro w' hw
    have e : (l.drop n).take (l.length - n) = l.drop n := List.take_of_length_le (by simp)
    rw [e] at hw
    exact ⟨(a9, a12), by rw [e], hw.n.drop (List.nil_sublist _) (by simp)⟩
  · refine CanT.x rfl (op_sliceR (ty := t64) n l.length rfl ⟨_, rfl⟩ rfl hn (Nat.le_refl _)) ?_
    rintro _ _ _ ⟨a12, rfl, rfl, rfl⟩
    refine CanT.x rfl (op_slice3 (ty := t64) n rfl rfl rfl hn) ?_
    rintro _ _ _ ⟨a9, rfl, rfl, rfl⟩
    refine CanT.q rfl (op_assign rfl) ?_
    refine CanT.nil rfl ?_
    refine GoL.q (op_assign rfl) ?_
    refine GoL.nil .next ?_
    refine GoC.ret .here ?_
    refine done2 rfl rfl rfl ?_
    intro w' hw
    have e : (l.drop n).take (l.length - n) = l.drop n := List.take_of_length_le (by simp)
    rw [e] at hw
    exact ⟨(a9, a12), by rw [e], hw.n.drop (List.nil_sublist _) (by simp)⟩
set_option maxRecDepth 20000 in
theorem clone64_spec (l : List Int) (a : Option Addr) (c : Nat) (hl : l.length ≤ 100000000000) (sh : Nat → Prop) (w : World) (h : Holds ⟨0, w, [], sh⟩ [] [ro t64 a c l] w) :
    Calls Pr fn_slices_Clone_s_int64_int64 #[.slice a l.length c] w fun e w' => ∃ g : { g : Row Int // g.l = l }, e = .returned (.slice g.1.a g.1.l.length g.1.c) ∧ Holds ⟨0, w, [], sh⟩ [own ty_i64 t64 g.1.a g.1.c g.1.l] [] w' := by
  refine Calls.of_go (args := [_]) fn_slices_Clone_s_int64_int64_f rfl rfl rfl h ?_
  refine GoC.roNone a (fun hnil => ?_)
  refine GoC.seq ?_
  refine GoC.region ?_
  refine GoL.q (op_assign rfl) ?_
  refine GoL.nil .next ?_
  refine GoC.seq ?_
  refine GoC.seq ?_
  refine GoC.region ?_
  refine GoL.q (op_move rfl) ?_
  refine GoL.q (op_eql_slice rfl rfl) ?_
  refine GoL.nil .next ?_
  refine GoC.cond rfl (fun hc0 => ?_) (fun hc0 => ?_)
  · have hl0 : l = [] := hnil (Option.isNone_iff_eq_none.1 hc0)
    refine GoC.seq ?_
    refine GoC.region ?_
    refine GoL.q (op_assign rfl) ?_
    refine GoL.nil .next ?_
    refine GoC.ret (.thenRet (.here)) ?_
    refine done1 rfl rfl ?_
    intro w' hw
    exact ⟨⟨⟨none, 0, []⟩, hl0.symm⟩, rfl, (hw.n.drop (List.nil_sublist _) (by simp)).ownNil ty_i64 t64⟩
  · obtain ⟨q2, rfl⟩ : ∃ q2, a = some q2 := by rcases a with _ | q2; simp at hc0; exact ⟨q2, rfl⟩
    refine GoC.skipTo .next ?_
    refine GoC.seq ?_
    refine GoC.region ?_
    refine GoL.x (op_buildSlice0 t64) ?_
    rintro _ _ _ ⟨b5, rfl, rfl, rfl⟩
    refine GoL.q (op_move rfl) ?_
    refine GoL.y (op_appendS rfl rfl rfl (by simp; omega)) ?_
    rintro _ _ _ ⟨a7, c7, rfl, rfl, rfl⟩
    refine GoL.q (op_assign rfl) ?_
    refine GoL.nil .next ?_
    refine GoC.ret .here ?_
    refine done1 rfl rfl ?_
    intro w' hw
    exact ⟨⟨⟨a7, c7, [] ++ l⟩, by simp⟩, rfl, Holds.only (W' := [own ty_i64 t64 a7 c7 ([] ++ l)]) hw.n⟩
set_option maxRecDepth 20000 in
theorem early_spec (x : Instance) (p : HI) (y : Plan) (r : HP) (hI : OkI x) (ht : y.Trucks.length ≤ 1000000) (hb : needT y.Trucks + needB y.Bikes ≤ 100000) (sh : Nat → Prop) (w : World) (h : Holds ⟨0, w, [], sh⟩ [] (rP y r (rI x p [])) w) :
    Calls Pr fn_clock_Early #[.agg (cI x p).toArray, .agg (cP y r).toArray] w fun e w' => ∃ g : { g : Times × HP // g.1 = (earlyF x y).1 }, e = .returned (.tuple #[.agg (cT g.1.1 g.1.2).toArray, .int .i64 (earlyF x y).2]) ∧ Holds ⟨0, w, [], sh⟩ [] (rT g.1.1 g.1.2 []) w' := by
  have hbg := needB_ge y.Bikes
  have hbh : y.Bikes.length ≤ 100000 := by omega
  refine Calls.of_go (args := [_, _]) fn_clock_Early_f rfl rfl rfl h ?_
  refine GoC.seq ?_
  refine GoC.region ?_
  refine GoL.x (op_box rfl rfl) ?_
  rintro _ _ _ ⟨b2, rfl, rfl, rfl⟩
  refine GoL.x (op_box rfl rfl) ?_
  rintro _ _ _ ⟨b3, rfl, rfl, rfl⟩
  refine GoL.x (op_alloc) ?_
  rintro _ _ _ ⟨b4, rfl, rfl, rfl⟩
  refine GoL.q (op_assign rfl) ?_
  refine GoL.nil .next ?_
  refine GoC.seq ?_
  refine GoC.seq ?_
  refine GoC.region ?_
  refine GoL.q (op_loadA rfl rfl rfl) ?_
  refine GoL.q (op_loadA rfl rfl rfl) ?_
  refine GoL.p (op_callV rfl (fun sh w h => planCheck_spec x p y r hI ⟨by omega, by omega⟩ sh w h)) ?_
  refine GoL.q (op_assign rfl) ?_
  refine GoL.nil .next ?_
  refine GoC.seq ?_
  refine GoC.region ?_
  refine GoL.q (op_move rfl) ?_
  refine GoL.q (op_neq rfl rfl) ?_
  refine GoL.nil .next ?_
  refine GoC.cond rfl (fun hc0 => ?_) (fun hc0 => ?_)
  · have hk1 := hc0
    refine GoC.seq ?_
    refine GoC.region ?_
    refine GoL.q (op_build1 ([.slice none 0 0, .slice none 0 0]) rfl rfl) ?_
    refine GoL.q (op_move rfl) ?_
    refine GoL.y0 (op_store (cs' := [.slice none 0 0, .slice none 0 0]) rfl rfl rfl rfl (by simp [Value.oneCell']) (Nat.le_of_ble_eq_true rfl) rfl) ?_
    rintro _ _ _ ⟨rfl, rfl, rfl⟩
    refine GoL.q (op_assign rfl) ?_
    refine GoL.nil .next ?_
    refine GoC.ret (.thenRet (.here)) ?_
    refine doneC2 rfl rfl rfl rfl ?_
    intro w' hw
    have hf : earlyF x y = (⟨[], []⟩, planCheckF x y) := by unfold earlyF; exact if_pos hk1
    exact ⟨⟨(⟨[], []⟩, ⟨(none, 0), (none, 0)⟩), by rw [hf]⟩, by show Ending.returned (.tuple #[.agg #[.slice none 0 0, .slice none 0 0], .int .i64 (planCheckF x y)]) = .returned (.tuple #[.agg #[.slice none 0 0, .slice none 0 0], .int .i64 (earlyF x y).2]); rw [hf], Holds.roNil (tSl t64) (Holds.roNil tRide (hw.n.drop (R' := []) (List.nil_sublist _) (by simp)))⟩
  · have hk1 := hc0
    refine GoC.skipTo .next ?_
    refine GoC.seq ?_
    have hpo := PlanOk.of (show planCheckF x y = 0 by simpa using hk1)
    have hx := Sq.of hpo.i
    refine GoC.region ?_
    refine GoL.q (op_loadA rfl rfl rfl) ?_
    refine GoL.q (op_loadA rfl rfl rfl) ?_
    refine GoL.x (op_callF rfl (fun sh w h => draft18_spec x p y r hI hx hpo.t hpo.b ht hb sh w h)) ?_
    rintro _ _ _ ⟨g29, rfl, rfl, rfl⟩
    refine GoL.q (op_move rfl) ?_
    refine GoL.q (op_extract rfl rfl) ?_
    refine GoL.q (op_extract rfl rfl) ?_
    refine GoL.x (op_alloc) ?_
    rintro _ _ _ ⟨b7, rfl, rfl, rfl⟩
    refine GoL.y0 (op_store (cs' := [.int .i64 ((g29.1.2.l.length : Nat) : Int), .slice g29.1.1.a g29.1.1.l.length g29.1.1.c]) rfl rfl rfl rfl (by simp [Value.oneCell']) (Nat.le_of_ble_eq_true rfl) rfl) ?_
    rintro _ _ _ ⟨rfl, rfl, rfl⟩
    refine GoL.q (op_assign rfl) ?_
    refine GoL.nil .next ?_
    refine GoC.seq ?_
    have hfl : g29.1.2.l.length ≤ 100000 := by rw [g29.2.2.1, draftG_len]; exact hb
    have hfn : g29.1.2.l.length = needT y.Trucks + needB y.Bikes := by rw [g29.2.2.1, draftG_len]
    have hld : lateF ((g29.1.2.l.length : Nat) : Int) g29.1.1.l g29.1.2.l = lateD x y := by rw [lateD, g29.2.1, g29.2.2.1]
    refine GoC.shareOwn g29.1.1.a ?_
    refine GoC.shareOwn g29.1.2.a ?_
    refine GoC.region ?_
    refine GoL.q (op_loadA rfl rfl rfl) ?_
    refine GoL.q (op_move rfl) ?_
    refine GoL.x (op_callF (vs := [.agg #[.int .i64 ((g29.1.2.l.length : Nat) : Int), .slice g29.1.1.a g29.1.1.l.length g29.1.1.c], .slice g29.1.2.a g29.1.2.l.length g29.1.2.c]) rfl (fun sh w h => late_spec ((g29.1.2.l.length : Nat) : Int) g29.1.1.l g29.1.1.a g29.1.1.c g29.1.2.l g29.1.2.a g29.1.2.c g29.2.2.2 (by omega) sh w h)) ?_
    rintro _ _ _ ⟨g35, rfl, rfl, rfl⟩
    refine GoL.q (op_move rfl) ?_
    refine GoL.q (op_extract rfl rfl) ?_
    refine GoL.q (op_extract rfl rfl) ?_
    refine GoL.q (op_assign rfl) ?_
    refine GoL.q (op_assign rfl) ?_
    refine GoL.nil .next ?_
    refine GoC.seq ?_
    refine GoC.seq ?_
    refine GoC.region ?_
    refine GoL.q (op_move rfl) ?_
    refine GoL.q (op_neq rfl rfl) ?_
    refine GoL.nil .next ?_
    refine GoC.sub (E' := [(2, _), (3, _), (4, _), (5, _), (9, _), (10, _), (39, _)]) ⟨rfl, rfl, rfl, rfl, rfl, rfl, rfl, trivial⟩ ?_
    refine GoC.cond rfl (fun hc1 => ?_) (fun hc1 => ?_)
    · have hk2 := hc1
      refine GoC.seq ?_
      refine GoC.region ?_
      refine GoL.q (op_build1 ([.slice none 0 0, .slice none 0 0]) rfl rfl) ?_
      refine GoL.q (op_move rfl) ?_
      refine GoL.y0 (op_store (cs' := [.slice none 0 0, .slice none 0 0]) rfl rfl rfl rfl (by simp [Value.oneCell']) (Nat.le_of_ble_eq_true rfl) rfl) ?_
      rintro _ _ _ ⟨rfl, rfl, rfl⟩
      refine GoL.q (op_assign rfl) ?_
      refine GoL.nil .next ?_
      refine GoC.ret (.thenRet (.here)) ?_
      refine doneC2 rfl rfl rfl rfl ?_
      intro w' hw
      have hf : earlyF x y = (⟨[], []⟩, (lateF ((g29.1.2.l.length : Nat) : Int) g29.1.1.l g29.1.2.l).2) := by unfold earlyF; rw [hld] at hk2 ⊢; rw [if_neg (Bool.eq_false_iff.1 hk1), if_pos hk2]
      exact ⟨⟨(⟨[], []⟩, ⟨(none, 0), (none, 0)⟩), by rw [hf]⟩, by show Ending.returned (.tuple #[.agg #[.slice none 0 0, .slice none 0 0], .int .i64 ((lateF ((g29.1.2.l.length : Nat) : Int) g29.1.1.l g29.1.2.l).2)]) = .returned (.tuple #[.agg #[.slice none 0 0, .slice none 0 0], .int .i64 (earlyF x y).2]); rw [hf], Holds.roNil (tSl t64) (Holds.roNil tRide (hw.n.drop (R' := []) (List.nil_sublist _) (by simp)))⟩
    · have hk2 := hc1
      refine GoC.skipTo .next ?_
      refine GoC.seq ?_
      have hl0 : (lateD x y).2 = 0 := by rw [← hld]; simpa using hk2
      have hll : g35.1.l = (lateD x y).1 := by rw [← hld]; exact g35.2
      have hln : g35.1.l.length = needT y.Trucks + needB y.Bikes := by rw [g35.2, (lateF_len (hld ▸ hl0)).1, hfn]
      refine GoC.region ?_
      refine GoL.x (op_alloc) ?_
      rintro _ _ _ ⟨b11, rfl, rfl, rfl⟩
      refine GoL.nil .next ?_
      refine GoC.seq ?_
      refine GoC.region ?_
      refine GoL.q (op_assign rfl) ?_
      refine GoL.nil .next ?_
      refine GoC.seq ?_
      refine GoC.seq ?_
      refine GoC.region ?_
      refine GoL.q (op_fieldAddr rfl) ?_
      refine GoL.q (op_load rfl rfl) ?_
      refine GoL.q (op_len rfl) ?_
      refine GoL.q (op_move rfl) ?_
      refine GoL.nil .next ?_
      refine GoC.block ?_
      refine GoC.shareOwn g35.1.a ?_
      refine GoC.rgrp0 t64 ?_
      refine GoC.ownNil ty_s_i64 (tH Int) ?_
      refine GoC.only [own ty_s_i64 (tH Int) none 0 [], cel b11 ty_clock_Times [.slice none 0 0, .slice none 0 0], cel b4 ty_clock_Times [.slice none 0 0, .slice none 0 0], cel b3 ty_plan_Plan (cP y r), cel b2 ty_inst_Instance (cI x p)] ?_
      refine GoC.loop (σ := Nat × Row (Row Int) × Row Int) (fun s => [(45, .int .i64 (s.1 : Int)), (9, .slice s.2.2.a s.2.2.l.length s.2.2.c)]) [(2, _), (3, _), (4, _), (11, _), (43, _), (44, _)] (fun s => [own ty_s_i64 (tH Int) s.2.1.a s.2.1.c s.2.1.l, cel b11 ty_clock_Times [.slice s.2.1.a s.2.1.l.length s.2.1.c, .slice none 0 0], cel b4 ty_clock_Times [.slice none 0 0, .slice none 0 0], cel b3 ty_plan_Plan (cP y r), cel b2 ty_inst_Instance (cI x p)]) (fun s => (rgrp t64 s.2.1.l :: ro t64 s.2.2.a s.2.2.c s.2.2.l :: ro t64 g29.1.2.a g29.1.2.c g29.1.2.l :: ro tArc g29.1.1.a g29.1.1.c g29.1.1.l :: rP y r (rI x p []))) (fun s => s.1 ≤ y.Trucks.length ∧ ((s.2.2.l.length = needT (y.Trucks.drop s.1) + needB y.Bikes ∧ s.2.1.l.length = s.1 ∧ s.2.2.l.length ≤ 100000) ∧ s.2.2.l.drop (needT (y.Trucks.drop s.1)) = g35.1.l.drop (needT y.Trucks) ∧ s.2.1.l.map Row.l ++ cutT (y.Trucks.drop s.1) s.2.2.l = cutT y.Trucks g35.1.l)) (fun s => y.Trucks.length - s.1) (0, ⟨none, 0, []⟩, g35.1) ⟨by simp, ⟨by simpa using hln, by simp, by simp only; omega⟩, by simp, by simp⟩ ⟨rfl, rfl, rfl, rfl, rfl, rfl, rfl, rfl, trivial⟩ (fun _ h => h) ?_
      intro s ⟨hs1, hs2⟩
      refine GoC.seq ?_
      refine GoC.region ?_
      refine GoL.q (op_lss rfl rfl) ?_
      refine GoL.nil .next ?_
      refine GoC.seq ?_
      refine GoC.cond rfl (fun hc2 => ?_) (fun hc2 => ?_)
      · have hlt : s.1 < y.Trucks.length := by simpa using hc2
        refine GoC.skipTo .next ?_
        refine GoC.seq ?_
        refine GoC.block ?_
        refine GoC.seq ?_
        refine GoC.openR (n := 1) r.t.1 s.1 hlt (fun q1 hq1 => ?_)
        have hnd := needT_drop hlt
        have hsl := hs2.1
        refine GoC.region ?_
        refine GoL.q (op_indexR rfl rfl rfl (by first | assumption | omega)) ?_
        refine GoL.q (op_loadEA rfl rfl) ?_
        refine GoL.x (op_alloc) ?_
        rintro _ _ _ ⟨b14, rfl, rfl, rfl⟩
        refine GoL.y0 (op_store (cs' := [.slice q1.1 y.Trucks[s.1].Stops.length q1.2]) rfl rfl rfl rfl (by simp [Value.oneCell']) (Nat.le_of_ble_eq_true rfl) rfl) ?_
        rintro _ _ _ ⟨rfl, rfl, rfl⟩
        refine GoL.nil .next ?_
        refine GoC.seq ?_
        refine GoC.region ?_
        refine GoL.q (op_move rfl) ?_
        refine GoL.q (op_fieldAddr rfl) ?_
        refine GoL.q (op_load rfl rfl) ?_
        refine GoL.q (op_len rfl) ?_
        refine GoL.x (op_callF (vs := [.slice s.2.2.a s.2.2.l.length s.2.2.c, .int .i64 ((y.Trucks[s.1].Stops.length : Nat) : Int)]) rfl (fun sh w h => cut_spec s.2.2.l s.2.2.a s.2.2.c y.Trucks[s.1].Stops.length (by omega) (by omega) sh w h)) ?_
        rintro _ _ _ ⟨g54, rfl, rfl, rfl⟩
        refine GoL.q (op_move rfl) ?_
        refine GoL.q (op_extract rfl rfl) ?_
        refine GoL.q (op_extract rfl rfl) ?_
        refine GoL.q (op_assign rfl) ?_
        refine GoL.q (op_assign rfl) ?_
        refine GoL.nil .next ?_
        refine GoC.region ?_
        refine GoL.q (op_fieldAddr rfl) ?_
        refine GoL.q (op_load rfl rfl) ?_
        refine GoL.q (op_move rfl) ?_
        refine GoL.x (op_buildSlice1 rfl rfl rfl) ?_
        rintro _ _ _ ⟨b60, rfl, rfl, rfl⟩
        refine GoL.y (op_append1 ((⟨g54.1, y.Trucks[s.1].Stops.length, s.2.2.l.take y.Trucks[s.1].Stops.length⟩ : Row Int)) rfl rfl (by rfl) (by intro _ _ _; rfl) (by have := hs2.2.2; omega)) ?_
        rintro _ _ _ ⟨a61, c61, rfl, rfl, rfl⟩
        refine GoL.rPush t64 s.2.1.l (⟨g54.1, y.Trucks[s.1].Stops.length, s.2.2.l.take y.Trucks[s.1].Stops.length⟩ : Row Int) ?_
        refine GoL.q (op_fieldAddr rfl) ?_
        refine GoL.y0 (op_store (cs' := [.slice a61 (s.2.1.l ++ [(⟨g54.1, y.Trucks[s.1].Stops.length, s.2.2.l.take y.Trucks[s.1].Stops.length⟩ : Row Int)]).length c61, .slice none 0 0]) rfl rfl rfl rfl (by simp [Value.oneCell']) (Nat.le_of_ble_eq_true rfl) rfl) ?_
        rintro _ _ _ ⟨rfl, rfl, rfl⟩
        refine GoL.nil (.blockNormal (.next)) ?_
        refine GoC.region ?_
        refine GoL.q (op_inc rfl (by omega)) ?_
        refine GoL.q (op_move rfl) ?_
        exact GoL.again (s.1 + 1, ⟨a61, c61, s.2.1.l ++ [(⟨g54.1, y.Trucks[s.1].Stops.length, s.2.2.l.take y.Trucks[s.1].Stops.length⟩ : Row Int)]⟩, ⟨g54.2, s.2.2.c - y.Trucks[s.1].Stops.length, s.2.2.l.drop y.Trucks[s.1].Stops.length⟩) ⟨by omega, ⟨by simp only [List.length_drop]; omega, by simp only [List.length_append, List.length_singleton]; omega, by simp only [List.length_drop]; omega⟩, by have h5 := hs2.2.1; rw [hnd] at h5; simp only [List.drop_drop]; exact h5, by have h5 := hs2.2.2; rw [List.drop_eq_getElem_cons hlt, cutT] at h5; simpa using h5⟩ (by simp only; omega) ⟨rfl, rfl, rfl, rfl, rfl, rfl, rfl, rfl, trivial⟩
      · have hge : y.Trucks.length ≤ s.1 := by simpa using hc2
        refine GoC.exit (.thenExit (.thenExit (.blockSame (.next)))) ?_
        refine GoC.seq ?_
        refine GoC.seq ?_
        refine GoC.region ?_
        refine GoL.q (op_fieldAddr rfl) ?_
        refine GoL.q (op_load rfl rfl) ?_
        refine GoL.q (op_len rfl) ?_
        refine GoL.q (op_move rfl) ?_
        refine GoL.nil .next ?_
        refine GoC.block ?_
        refine GoC.grpNil inR ?_
        refine GoC.ownNil ty_clock_Ride tRideR ?_
        refine GoC.loop (σ := Nat × Row RideR × Row Int) (fun v => [(67, .int .i64 (v.1 : Int)), (9, .slice v.2.2.a v.2.2.l.length v.2.2.c)]) [(2, _), (3, _), (4, _), (11, _), (65, _), (66, _)] (fun v => [own ty_clock_Ride tRideR v.2.1.a v.2.1.c v.2.1.l, grp (v.2.1.l.map inR), own ty_s_i64 (tH Int) s.2.1.a s.2.1.c s.2.1.l, cel b11 ty_clock_Times [.slice s.2.1.a s.2.1.l.length s.2.1.c, .slice v.2.1.a v.2.1.l.length v.2.1.c], cel b4 ty_clock_Times [.slice none 0 0, .slice none 0 0], cel b3 ty_plan_Plan (cP y r), cel b2 ty_inst_Instance (cI x p)]) (fun v => (ro t64 v.2.2.a v.2.2.c v.2.2.l :: rgrp t64 s.2.1.l :: ro t64 g29.1.2.a g29.1.2.c g29.1.2.l :: ro tArc g29.1.1.a g29.1.1.c g29.1.1.l :: rP y r (rI x p []))) (fun v => v.1 ≤ y.Bikes.length ∧ ((v.2.2.l.length = needB (y.Bikes.drop v.1) ∧ v.2.1.l.length = v.1 ∧ v.2.2.l.length ≤ 100000) ∧ True ∧ v.2.1.l.map RideR.q ++ cutB (y.Bikes.drop v.1) v.2.2.l = cutB y.Bikes s.2.2.l)) (fun v => y.Bikes.length - v.1) (0, ⟨none, 0, []⟩, s.2.2) ⟨by simp, ⟨by have h5 := hs2.1.1; rw [List.drop_of_length_le hge] at h5; simpa [needT] using h5, by simp, hs2.1.2.2⟩, trivial, by simp⟩ ⟨rfl, rfl, rfl, rfl, rfl, rfl, rfl, rfl, trivial⟩ (fun _ h => h.drop (List.Sublist.refl _) (by simp)) ?_
        intro v ⟨hv1, hv2⟩
        refine GoC.seq ?_
        refine GoC.region ?_
        refine GoL.q (op_lss rfl rfl) ?_
        refine GoL.nil .next ?_
        refine GoC.seq ?_
        refine GoC.cond rfl (fun hc3 => ?_) (fun hc3 => ?_)
        · have hlt2 : v.1 < y.Bikes.length := by simpa using hc3
          refine GoC.skipTo .next ?_
          refine GoC.seq ?_
          refine GoC.block ?_
          refine GoC.seq ?_
          refine GoC.openR (n := 2) r.b.1 v.1 hlt2 (fun q1 hq1 => ?_)
          have hnd := needB_drop hlt2
          have hvl := hv2.1
          refine GoC.region ?_
          refine GoL.q (op_indexR rfl rfl rfl (by first | assumption | omega)) ?_
          refine GoL.q (op_loadEA rfl rfl) ?_
          refine GoL.x (op_alloc) ?_
          rintro _ _ _ ⟨b16, rfl, rfl, rfl⟩
          refine GoL.y0 (op_store (cs' := [.int .i64 y.Bikes[v.1].Sat, .slice q1.2.1 y.Bikes[v.1].Stops.length q1.2.2]) rfl rfl rfl rfl (by simp [Value.oneCell']) (Nat.le_of_ble_eq_true rfl) rfl) ?_
          rintro _ _ _ ⟨rfl, rfl, rfl⟩
          refine GoL.nil .next ?_
          refine GoC.seq ?_
          refine GoC.region ?_
          refine GoL.q (op_move rfl) ?_
          refine GoL.q (op_fieldAddr rfl) ?_
          refine GoL.q (op_load rfl rfl) ?_
          refine GoL.q (op_len rfl) ?_
          refine GoL.q (op_addN (y.Bikes[v.1].Stops.length + 2) y.Bikes[v.1].Stops.length 2 rfl rfl rfl (by omega)) ?_
          refine GoL.x (op_callF (vs := [.slice v.2.2.a v.2.2.l.length v.2.2.c, .int .i64 (((y.Bikes[v.1].Stops.length + 2) : Nat) : Int)]) rfl (fun sh w h => cut_spec v.2.2.l v.2.2.a v.2.2.c (y.Bikes[v.1].Stops.length + 2) (by omega) (by omega) sh w h)) ?_
          rintro _ _ _ ⟨g77, rfl, rfl, rfl⟩
          refine GoL.q (op_move rfl) ?_
          refine GoL.q (op_extract rfl rfl) ?_
          refine GoL.q (op_extract rfl rfl) ?_
          refine GoL.q (op_assign rfl) ?_
          refine GoL.q (op_assign rfl) ?_
          refine GoL.nil .next ?_
          refine GoC.seq ?_
          have hol : (v.2.2.l.take (y.Bikes[v.1].Stops.length + 2)).length = y.Bikes[v.1].Stops.length + 2 := by rw [List.length_take]; omega
          have h1l : 0 < (v.2.2.l.take (y.Bikes[v.1].Stops.length + 2)).length := by omega
          have h2l : y.Bikes[v.1].Stops.length + 1 < (v.2.2.l.take (y.Bikes[v.1].Stops.length + 2)).length := by omega
          refine GoC.region ?_
          refine GoL.q (op_move rfl) ?_
          refine GoL.q (op_len rfl) ?_
          refine GoL.q (op_subN (y.Bikes[v.1].Stops.length + 1) (v.2.2.l.take (y.Bikes[v.1].Stops.length + 2)).length 1 rfl rfl (by omega) (by omega)) ?_
          refine GoL.q (op_assign rfl) ?_
          refine GoL.nil .next ?_
          refine GoC.ro64 g77.1 (fun how => ?_)
          refine GoC.openR (n := 1) g77.1 0 h1l (fun _ _ => ?_)
          refine GoC.openR (n := 1) g77.1 (y.Bikes[v.1].Stops.length + 1) h2l (fun _ _ => ?_)
          refine GoC.tree 15 (.op 0 (.op 1 (.op 2 (.op 3 (.op 4 (.op 5 (.op 6 (.op 9 (.op 10 (.op 11 (.op 12 (.w 7 (.w 8 (.op 13 (.w 14 .nil))))))))))))))) (by kernel_rfl) Pr_mixed ?_
          refine CanT.q rfl (op_fieldAddr rfl) ?_
          refine CanT.q rfl (op_load rfl rfl) ?_
          refine CanT.q rfl (op_move rfl) ?_
          refine CanT.q rfl (op_indexR rfl rfl (k := 0) rfl h1l) ?_
          refine CanT.q rfl (op_loadE rfl rfl) ?_
          refine CanT.q rfl (op_move rfl) ?_
          refine CanT.q rfl (op_move rfl) ?_
          refine CanT.q rfl (op_move rfl) ?_
          refine CanT.q rfl (op_move rfl) ?_
          refine CanT.q rfl (op_indexR rfl rfl rfl h2l) ?_
          refine CanT.q rfl (op_loadE rfl rfl) ?_
          refine CanT.x rfl (op_sliceR (ty := t64) 1 (y.Bikes[v.1].Stops.length + 1) rfl ⟨_, rfl⟩ ⟨_, rfl⟩ (by omega) (by omega)) ?_
          rintro _ _ _ ⟨a90, rfl, rfl, rfl⟩
          refine CanT.x rfl (op_callF rfl (fun sh w h => clone64_spec (((v.2.2.l.take (y.Bikes[v.1].Stops.length + 2)).drop 1).take (y.Bikes[v.1].Stops.length + 1 - 1)) a90 ((y.Bikes[v.1].Stops.length + 2) - 1) (by simp; omega) sh w h)) ?_
          rintro _ _ _ ⟨g91, rfl, rfl, rfl⟩
          refine CanT.q rfl (op_build1 ([.int .i64 (v.2.2.l.take (y.Bikes[v.1].Stops.length + 2))[0], .slice g91.1.a g91.1.l.length g91.1.c, .int .i64 (v.2.2.l.take (y.Bikes[v.1].Stops.length + 2))[y.Bikes[v.1].Stops.length + 1]]) rfl rfl) ?_
          refine CanT.x rfl (op_buildSlice1 rfl rfl rfl) ?_
          rintro _ _ _ ⟨b97, rfl, rfl, rfl⟩
          refine CanT.nil rfl ?_
          refine GoL.y (op_append1 ((⟨(v.2.2.l.take (y.Bikes[v.1].Stops.length + 2))[0], g91.1, (v.2.2.l.take (y.Bikes[v.1].Stops.length + 2))[y.Bikes[v.1].Stops.length + 1]⟩ : RideR)) rfl rfl (by rfl) (by intro _ _ _; exact rep_rideR (how _ (List.getElem_mem h1l)) (how _ (List.getElem_mem h2l)) rfl _ _) (by omega)) ?_
          rintro _ _ _ ⟨a98, c98, rfl, rfl, rfl⟩
          refine GoL.pushEnd (f := inR) v.2.1.l (⟨(v.2.2.l.take (y.Bikes[v.1].Stops.length + 2))[0], g91.1, (v.2.2.l.take (y.Bikes[v.1].Stops.length + 2))[y.Bikes[v.1].Stops.length + 1]⟩ : RideR) ?_
          refine GoL.q (op_fieldAddr rfl) ?_
          refine GoL.y0 (op_store (cs' := [.slice s.2.1.a s.2.1.l.length s.2.1.c, .slice a98 (v.2.1.l ++ [(⟨(v.2.2.l.take (y.Bikes[v.1].Stops.length + 2))[0], g91.1, (v.2.2.l.take (y.Bikes[v.1].Stops.length + 2))[y.Bikes[v.1].Stops.length + 1]⟩ : RideR)]).length c98]) rfl rfl rfl rfl (by simp [Value.oneCell']) (Nat.le_of_ble_eq_true rfl) rfl) ?_
          rintro _ _ _ ⟨rfl, rfl, rfl⟩
          refine GoL.nil (.blockNormal (.next)) ?_
          refine GoC.sub (E' := [(67, _), (9, _), (2, _), (3, _), (4, _), (11, _), (65, _), (66, _)]) ⟨rfl, rfl, rfl, rfl, rfl, rfl, rfl, rfl, trivial⟩ ?_
          refine GoC.region ?_
          refine GoL.q (op_inc rfl (by omega)) ?_
          refine GoL.q (op_move rfl) ?_
          exact GoL.again (v.1 + 1, ⟨a98, c98, v.2.1.l ++ [(⟨(v.2.2.l.take (y.Bikes[v.1].Stops.length + 2))[0], g91.1, (v.2.2.l.take (y.Bikes[v.1].Stops.length + 2))[y.Bikes[v.1].Stops.length + 1]⟩ : RideR)]⟩, ⟨g77.2, v.2.2.c - (y.Bikes[v.1].Stops.length + 2), v.2.2.l.drop (y.Bikes[v.1].Stops.length + 2)⟩) ⟨by omega, ⟨by simp only [List.length_drop]; omega, by simp only [List.length_append, List.length_singleton]; omega, by simp only [List.length_drop]; omega⟩, trivial, by have h5 := hv2.2.2; rw [List.drop_eq_getElem_cons hlt2, cutB] at h5; rw [← h5]; simp [RideR.q, cutR, g91.2, List.getElem_take]; exact ⟨by rw [List.getElem?_eq_getElem (by omega), Option.getD_some], by rw [List.getElem?_eq_getElem (by omega), Option.getD_some]⟩⟩ (by simp only; omega) ⟨rfl, rfl, rfl, rfl, rfl, rfl, rfl, rfl, trivial⟩
        · have hge2 : y.Bikes.length ≤ v.1 := by simpa using hc3
          refine GoC.exit (.thenExit (.thenExit (.blockSame (.next)))) ?_
          refine GoC.seq ?_
          refine GoC.seq ?_
          have hte : s.2.1.l.map Row.l = cutT y.Trucks (lateD x y).1 := by have h5 := hs2.2.2; rw [List.drop_of_length_le hge] at h5; simpa [cutT, hll] using h5
          have hle : s.2.2.l = (lateD x y).1.drop (needT y.Trucks) := by have h5 := hs2.2.1; rw [List.drop_of_length_le hge] at h5; simpa [needT, hll] using h5
          have hbe : v.2.1.l.map RideR.q = cutB y.Bikes ((lateD x y).1.drop (needT y.Trucks)) := by have h5 := hv2.2.2; rw [List.drop_of_length_le hge2] at h5; simpa [cutB, hle] using h5
          have hee : (⟨s.2.1.l.map Row.l, v.2.1.l.map RideR.q⟩ : Times) = earlyT y (lateD x y).1 := by rw [earlyT, hte, hbe]
          refine GoC.shareRg (ty := t64) s.2.1.a ?_
          refine GoC.shareDeep (f := inR) v.2.1.a tRide RideR.q (by rfl) (fun sh w cs x => rep_ride0 sh w cs x) ?_
          refine GoC.recel b11 (cT ⟨s.2.1.l.map Row.l, v.2.1.l.map RideR.q⟩ ⟨(s.2.1.a, s.2.1.c), (v.2.1.a, v.2.1.c)⟩) (by simp) ?_
          refine GoC.region ?_
          refine GoL.q (op_loadA rfl rfl rfl) ?_
          refine GoL.q (op_loadA rfl rfl rfl) ?_
          refine GoL.q (op_loadA rfl rfl rfl) ?_
          refine GoL.p (op_callV (vs := [.agg (cI x p).toArray, .agg (cP y r).toArray, .agg (cT ⟨s.2.1.l.map Row.l, v.2.1.l.map RideR.q⟩ ⟨(s.2.1.a, s.2.1.c), (v.2.1.a, v.2.1.c)⟩).toArray]) rfl (fun sh w h => clockCheck_spec x p y r ⟨s.2.1.l.map Row.l, v.2.1.l.map RideR.q⟩ ⟨(s.2.1.a, s.2.1.c), (v.2.1.a, v.2.1.c)⟩ hI ⟨by omega, by omega⟩ ⟨by simp; have := s.1; omega, by simp; omega⟩ sh w h)) ?_
          refine GoL.q (op_assign rfl) ?_
          refine GoL.nil .next ?_
          refine GoC.seq ?_
          refine GoC.region ?_
          refine GoL.q (op_move rfl) ?_
          refine GoL.q (op_neq rfl rfl) ?_
          refine GoL.nil .next ?_
          refine GoC.cond rfl (fun hc4 => ?_) (fun hc4 => ?_)
          · have hk3 := hc4
            refine GoC.seq ?_
            refine GoC.region ?_
            refine GoL.q (op_build1 ([.slice none 0 0, .slice none 0 0]) rfl rfl) ?_
            refine GoL.q (op_move rfl) ?_
            refine GoL.y0 (op_store (cs' := [.slice none 0 0, .slice none 0 0]) rfl rfl rfl rfl (by simp [Value.oneCell']) (Nat.le_of_ble_eq_true rfl) rfl) ?_
            rintro _ _ _ ⟨rfl, rfl, rfl⟩
            refine GoL.q (op_assign rfl) ?_
            refine GoL.nil .next ?_
            refine GoC.ret (.thenRet (.here)) ?_
            refine doneC2 rfl rfl rfl rfl ?_
            intro w' hw
            have hf : earlyF x y = (⟨[], []⟩, clockCheckF x y ⟨s.2.1.l.map Row.l, v.2.1.l.map RideR.q⟩) := by unfold earlyF; rw [hee] at hk3 ⊢; rw [if_neg (Bool.eq_false_iff.1 hk1), if_neg (by simpa using hl0), if_pos hk3]
            exact ⟨⟨(⟨[], []⟩, ⟨(none, 0), (none, 0)⟩), by rw [hf]⟩, by show Ending.returned (.tuple #[.agg #[.slice none 0 0, .slice none 0 0], .int .i64 (clockCheckF x y ⟨s.2.1.l.map Row.l, v.2.1.l.map RideR.q⟩)]) = .returned (.tuple #[.agg #[.slice none 0 0, .slice none 0 0], .int .i64 (earlyF x y).2]); rw [hf], Holds.roNil (tSl t64) (Holds.roNil tRide (hw.n.drop (R' := []) (List.nil_sublist _) (by simp)))⟩
          · have hk3 := hc4
            refine GoC.skipTo .next ?_
            refine GoC.seq ?_
            refine GoC.region ?_
            refine GoL.q (op_loadA rfl rfl rfl) ?_
            refine GoL.y0 (op_store (cs' := cT ⟨s.2.1.l.map Row.l, v.2.1.l.map RideR.q⟩ ⟨(s.2.1.a, s.2.1.c), (v.2.1.a, v.2.1.c)⟩) rfl rfl rfl rfl (by simp [Value.oneCell']) (Nat.le_of_ble_eq_true rfl) rfl) ?_
            rintro _ _ _ ⟨rfl, rfl, rfl⟩
            refine GoL.q (op_assign rfl) ?_
            refine GoL.nil .next ?_
            refine GoC.ret .here ?_
            refine doneC2 rfl rfl rfl rfl ?_
            intro w' hw
            have hf : earlyF x y = (earlyT y (lateD x y).1, 0) := by unfold earlyF; rw [hee] at hk3; rw [if_neg (Bool.eq_false_iff.1 hk1), if_neg (by simpa using hl0), if_neg (Bool.eq_false_iff.1 hk3)]
            exact ⟨⟨(⟨s.2.1.l.map Row.l, v.2.1.l.map RideR.q⟩, ⟨(s.2.1.a, s.2.1.c), (v.2.1.a, v.2.1.c)⟩), by rw [hf, ← hee]⟩, by show Ending.returned (.tuple #[.agg (cT ⟨s.2.1.l.map Row.l, v.2.1.l.map RideR.q⟩ ⟨(s.2.1.a, s.2.1.c), (v.2.1.a, v.2.1.c)⟩).toArray, .int .i64 0]) = .returned (.tuple #[.agg (cT ⟨s.2.1.l.map Row.l, v.2.1.l.map RideR.q⟩ ⟨(s.2.1.a, s.2.1.c), (v.2.1.a, v.2.1.c)⟩).toArray, .int .i64 (earlyF x y).2]); rw [hf], hw.n.drop (List.nil_sublist _) (by simp)⟩
end Go.Proofs.Ytdeacehacndopaa
