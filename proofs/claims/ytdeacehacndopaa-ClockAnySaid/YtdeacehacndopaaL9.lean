/- The statement's own maker of plans. Times of one's own. The statement's own times of a plan: that there are some. Rows of one's own whose elements are read in another way; literals of several; what is known of all elements of a slice. The statement's own writer of raw numbers. What inst.Check says, number by number; what Make's instances are. No conditions beyond those that each theorem names. -/
import Derived.Test.YtdeacehacndopaaL8
namespace Go.Proofs.Ytdeacehacndopaa
open Go.RowKit

set_option maxRecDepth 20000 in
theorem draft_spec (x : Instance) (p : HI) (y : Wish) (q : HW) (hI : OkI x) (hW : OkW y) (hn6 : x.Customers.length ≤ 6) (hs3 : x.Sats.length ≤ 3) (hs1 : 1 ≤ x.Sats.length) (hrm : 1 ≤ x.Trucks.Room ∧ x.Trucks.Room ≤ 1000000000) (hcl : ∀ c ∈ x.Customers, 0 ≤ c.Load ∧ c.Load ≤ 100)
    (sh : Nat → Prop) (w : World) (h : Holds ⟨0, w, [], sh⟩ [] (rI x p (rW y q [])) w) :
    Calls Pr fn_law17_Draft #[.agg (cI x p).toArray, .agg (cW y q).toArray] w fun e w' => ∃ g : { g : Plan0 // g.y = draftF x y ∧ PlanSm g.y }, e = .returned (.agg (cP0 g.1).toArray) ∧ Holds ⟨0, w, [], sh⟩ (wP0 g.1 []) [] w' := by
  have hqs := hW.s
  have hqo := hW.o
  have hqc := hW.c
  refine Calls.of_go (args := [_, _]) fn_law17_Draft_f rfl rfl rfl h ?_
  refine GoC.ro64 (kk := .u8) q.s.1 (fun hus => ?_)
  refine GoC.ro64 (kk := .u8) q.o.1 (fun huo => ?_)
  refine GoC.ro64 (kk := .u8) q.c.1 (fun huc => ?_)
  refine GoC.seq ?_
  refine GoC.region ?_
  refine GoL.x (op_box rfl rfl) ?_
  rintro _ _ _ ⟨b2, rfl, rfl, rfl⟩
  refine GoL.x (op_box rfl rfl) ?_
  rintro _ _ _ ⟨b3, rfl, rfl, rfl⟩
  refine GoL.x (op_alloc) ?_
  rintro _ _ _ ⟨b4, rfl, rfl, rfl⟩
  refine GoL.nil .next ?_
  refine GoC.seq ?_
  refine GoC.region ?_
  refine GoL.q (op_assign rfl) ?_
  refine GoL.nil .next ?_
  refine GoC.seq ?_
  refine GoC.seq ?_
  refine GoC.region ?_
  refine GoL.q (op_fieldAddr rfl) ?_
  refine GoL.q (op_load rfl rfl) ?_
  refine GoL.q (op_len rfl) ?_
  refine GoL.q (op_move rfl) ?_
  refine GoL.nil .next ?_
  refine GoC.block ?_
  refine GoC.ownNil 3 t64 ?_
  refine GoC.loop (σ := Nat × Row Int) (fun s => [(27, .int .i64 (s.1 : Int)), (5, .slice s.2.a s.2.l.length s.2.c)]) [(2, _), (3, _), (4, _), (26, _)] (fun s => [own 3 t64 s.2.a s.2.c s.2.l, cel b4 ty_plan_Plan [.slice none 0 0, .slice none 0 0], cel b3 ty_law17_Wish (cW y q), cel b2 ty_inst_Instance (cI x p)]) (fun s => _) (fun s => s.1 ≤ x.Customers.length ∧ (s.2.l.length = s.1 ∧ ((List.range x.Customers.length).drop s.1).foldl (ordStep y.Order) s.2.l = orderF y.Order x.Customers.length)) (fun s => x.Customers.length - s.1) (0, ⟨none, 0, []⟩) ⟨by simp, by simp, rfl⟩ ⟨rfl, rfl, rfl, rfl, rfl, rfl, trivial⟩ (fun _ h => h) ?_
  intro s ⟨hs1, hs2⟩
  refine GoC.seq ?_
  refine GoC.region ?_
  refine GoL.q (op_lss rfl rfl) ?_
  refine GoL.nil .next ?_
  refine GoC.seq ?_
  refine GoC.cond rfl (fun hc0 => ?_) (fun hc0 => ?_)
  · have hlt : s.1 < x.Customers.length := by simpa using hc0
    refine GoC.skipTo .next ?_
    refine GoC.seq ?_
    refine GoC.block ?_
    refine GoC.seq ?_
    refine GoC.region ?_
    refine GoL.q (op_move rfl) ?_
    refine GoL.q (op_assign rfl) ?_
    refine GoL.nil .next ?_
    have hm0 : 0 ≤ atF y.Order (s.1 : Int) % ((s.2.l.length : Int) + 1) := Int.emod_nonneg _ (by omega)
    have hm1 : atF y.Order (s.1 : Int) % ((s.2.l.length : Int) + 1) < (s.2.l.length : Int) + 1 := Int.emod_lt_of_pos _ (by omega)
    refine GoC.region ?_
    refine GoL.q (op_move rfl) ?_
    refine GoL.q (op_fieldAddr rfl) ?_
    refine GoL.q (op_load rfl rfl) ?_
    refine GoL.q (op_move rfl) ?_
    refine GoL.p (op_callV (vs := [.slice q.o.1 y.Order.length q.o.2, .int .i64 (s.1 : Int)]) rfl (fun sh w h => at_spec y.Order q.o.1 q.o.2 (s.1 : Int) (by omega) hqo sh w h)) ?_
    refine GoL.q (op_move rfl) ?_
    refine GoL.q (op_len rfl) ?_
    refine GoL.q (op_addI rfl rfl (by omega)) ?_
    refine GoL.q (op_rem rfl rfl (atF_rng huo).1 (by omega)) ?_
    refine GoL.q (op_move rfl) ?_
    refine GoL.x (op_buildSlice1 rfl rfl rfl) ?_
    rintro _ _ _ ⟨b40, rfl, rfl, rfl⟩
    refine GoL.y (op_callM (vs := [.slice s.2.a s.2.l.length s.2.c, .int .i64 (atF y.Order (s.1 : Int) % ((s.2.l.length : Int) + 1)), .slice (some ⟨b40, 0, none⟩) 1 1]) rfl (fun sh w h => by have h5 := insert_spec s.2.l s.2.a s.2.c b40 (atF y.Order (s.1 : Int) % ((s.2.l.length : Int) + 1)).toNat (s.1 : Int) (by omega) (by omega) (w64_id (by omega)) sh w h; rw [Int.toNat_of_nonneg hm0] at h5; exact h5)) ?_
    rintro _ _ _ ⟨g41, rfl, rfl, rfl⟩
    refine GoL.q (op_assign rfl) ?_
    refine GoL.nil (.blockNormal (.next)) ?_
    refine GoC.region ?_
    refine GoL.q (op_inc rfl (by omega)) ?_
    refine GoL.q (op_move rfl) ?_
    exact GoL.again (s.1 + 1, ⟨g41.1, g41.2, insL s.2.l (atF y.Order (s.1 : Int) % ((s.2.l.length : Int) + 1)).toNat (s.1 : Int)⟩) ⟨by omega, by simp only; rw [insL_len (by omega), hs2.1], by have h5 := hs2.2; rw [List.drop_eq_getElem_cons (by simpa using hlt), List.foldl_cons, List.getElem_range] at h5; exact h5⟩ (by simp only; omega) ⟨rfl, rfl, rfl, rfl, rfl, rfl, trivial⟩
  · have hge : x.Customers.length ≤ s.1 := by simpa using hc0
    refine GoC.exit (.thenExit (.thenExit (.blockSame (.next)))) ?_
    refine GoC.seq ?_
    refine GoC.region ?_
    refine GoL.x (op_alloc) ?_
    rintro _ _ _ ⟨b7, rfl, rfl, rfl⟩
    refine GoL.nil .next ?_
    refine GoC.seq ?_
    refine GoC.region ?_
    refine GoL.q (op_fieldAddr rfl) ?_
    refine GoL.q (op_load rfl rfl) ?_
    refine GoL.q (op_len rfl) ?_
    refine GoL.x (op_make (ty := t64) (0 : Int) (fun _ _ => ⟨rfl, rfl⟩) rfl (by omega) hI.s) ?_
    rintro _ _ _ ⟨b46, rfl, rfl, rfl⟩
    refine GoL.q (op_assign rfl) ?_
    refine GoL.nil .next ?_
    refine GoC.seq ?_
    refine GoC.seq ?_
    have ho : s.2.l = orderF y.Order x.Customers.length := by rw [← hs2.2, List.drop_of_length_le (by simpa using hge)]; rfl
    have hoin : InN x.Customers.length s.2.l := by rw [ho]; exact orderF_in _ _
    have hol : s.2.l.length = x.Customers.length := by have := hs2.1; omega
    refine GoC.shareOwn s.2.a ?_
    refine GoC.region ?_
    refine GoL.q (op_move rfl) ?_
    refine GoL.q (op_len rfl) ?_
    refine GoL.q (op_move rfl) ?_
    refine GoL.nil .next ?_
    refine GoC.block ?_
    refine GoC.grpNil inB ?_
    refine GoC.ownNil ty_plan_Bike tBikeR ?_
    refine GoC.loop (σ := Nat × Row BikeR × List Int) (fun u => [(49, .int .i64 (u.1 : Int))]) [(2, _), (3, _), (4, _), (7, _), (8, _), (47, _), (48, _)] (fun u => [own ty_plan_Bike tBikeR u.2.1.a u.2.1.c u.2.1.l, grp (u.2.1.l.map inB), own ty_i64 t64 (some ⟨b46, 0, none⟩) x.Sats.length u.2.2, cel b7 ty_plan_Plan [.slice none 0 0, .slice u.2.1.a u.2.1.l.length u.2.1.c], cel b4 ty_plan_Plan [.slice none 0 0, .slice none 0 0], cel b3 ty_law17_Wish (cW y q), cel b2 ty_inst_Instance (cI x p)]) (fun u => _) (fun u => u.1 ≤ s.2.l.length ∧ (u.2.1.l.length ≤ u.1 ∧ u.2.2.length = x.Sats.length ∧ (∀ v ∈ u.2.2, 0 ≤ v ∧ v ≤ 100 * (u.1 : Int)) ∧ Carry x.Customers.length (u.2.1.l.map BikeR.b) ∧ (∀ b ∈ u.2.1.l, b.r.l.length ≤ u.1) ∧ bikesD x y (s.2.l.drop u.1) u.1 (u.2.1.l.map BikeR.b, u.2.2) = bikesF7 x y)) (fun u => s.2.l.length - u.1) (0, ⟨none, 0, []⟩, List.replicate x.Sats.length 0) ⟨by simp, by simp, by simp, by simp, by simp [Carry], by simp, by rw [bikesF7, ← ho]; rfl⟩ ⟨rfl, rfl, rfl, rfl, rfl, rfl, rfl, rfl, trivial⟩ (fun _ h => h) ?_
    intro u ⟨hu1, hu3, hu2⟩
    refine GoC.seq ?_
    refine GoC.region ?_
    refine GoL.q (op_lss rfl rfl) ?_
    refine GoL.nil .next ?_
    refine GoC.seq ?_
    refine GoC.cond rfl (fun hc1 => ?_) (fun hc1 => ?_)
    · have hlt1 : u.1 < s.2.l.length := by simpa using hc1
      refine GoC.skipTo .next ?_
      refine GoC.seq ?_
      refine GoC.block ?_
      refine GoC.seq ?_
      refine GoC.openR (n := 1) s.2.a u.1 hlt1 (fun _ hqe => ?_)
      have hc0 := hoin s.2.l[u.1] (List.getElem_mem hlt1)
      refine GoC.region ?_
      refine GoL.q (op_move rfl) ?_
      refine GoL.q (op_indexR rfl rfl rfl (by first | assumption | omega)) ?_
      refine GoL.q (op_loadE rfl rfl) ?_
      refine GoL.q (op_assign rfl) ?_
      refine GoL.q (op_assign rfl) ?_
      refine GoL.nil .next ?_
      refine GoC.seq ?_
      have hcn : s.2.l[u.1].toNat < x.Customers.length := by omega
      refine GoC.openR (n := 4) p.u.1 s.2.l[u.1].toNat hcn (fun _ hcu => ?_)
      have hld : x.Customers[s.2.l[u.1].toNat].Load = loadOf x s.2.l[u.1] := by rw [loadOf, getD_lt _ hcn]
      have hlr := hcl _ (List.getElem_mem hcn)
      have hsp : (0 : Int) < (x.Sats.length : Int) := by omega
      have hs0 : 0 ≤ (satF x y s.2.l[u.1]) ∧ (satF x y s.2.l[u.1]) < x.Sats.length := ⟨Int.emod_nonneg _ (by omega), Int.emod_lt_of_pos _ hsp⟩
      have hsl : (satF x y s.2.l[u.1]).toNat < u.2.2.length := by rw [hu2.1]; omega
      have hadd : u.2.2.set (satF x y s.2.l[u.1]).toNat (w64 (u.2.2[(satF x y s.2.l[u.1]).toNat] + x.Customers[s.2.l[u.1].toNat].Load)) = addAt u.2.2 (satF x y s.2.l[u.1]) (loadOf x s.2.l[u.1]) := by rw [addAt, getD_lt _ hsl, hld]
      refine GoC.draw 15 [] [0, 1, 2, 3, 4, 5, 6, 7, 8, 9, 10, 11, 12, 13, 14] (by kernel_rfl) Pr_mixed ?_
      refine Can.q rfl (op_fieldAddr rfl) ?_
      refine Can.q rfl (op_load rfl rfl) ?_
      refine Can.q rfl (op_move rfl) ?_
      refine Can.p rfl (op_callV (vs := [.slice q.s.1 y.Sats.length q.s.2, .int .i64 s.2.l[u.1]]) rfl (fun sh w h => at_spec y.Sats q.s.1 q.s.2 s.2.l[u.1] hc0.1 hqs sh w h)) ?_
      refine Can.q rfl (op_fieldAddr rfl) ?_
      refine Can.q rfl (op_load rfl rfl) ?_
      refine Can.q rfl (op_len rfl) ?_
      refine Can.q rfl (op_rem rfl rfl (atF_rng hus).1 (by omega)) ?_
      refine Can.q rfl (op_fieldAddr rfl) ?_
      refine Can.q rfl (op_load rfl rfl) ?_
      refine Can.q rfl (op_move rfl) ?_
      refine Can.q rfl (op_indexR rfl rfl (Int.toNat_of_nonneg hc0.1).symm hcn) ?_
      refine Can.q rfl (op_fieldAddrE rfl) ?_
      refine Can.q rfl (op_loadF rfl rfl) ?_
      refine Can.q rfl (op_assign rfl) ?_
      refine Can.nil rfl ?_
      refine GoL.q (op_assign rfl) ?_
      refine GoL.nil .next ?_
      refine GoC.sub (E' := [(49, _), (2, _), (3, _), (4, _), (7, _), (8, _), (47, _), (48, _), (9, _), (10, _), (11, _), (12, _)]) ⟨rfl, rfl, rfl, rfl, rfl, rfl, rfl, rfl, rfl, rfl, rfl, rfl, trivial⟩ ?_
      refine GoC.seq ?_
      refine GoC.region ?_
      refine GoL.q (op_move rfl) ?_
      refine GoL.q (op_move rfl) ?_
      refine GoL.q (op_indexO rfl rfl (Int.toNat_of_nonneg hs0.1).symm hsl (by first | rfl | omega | (simp only [List.length_set]; omega))) ?_
      refine GoL.q (op_loadO rfl (by intro _ _ _ _ h; exact h.1) (by first | assumption | omega) rfl) ?_
      refine GoL.q (op_move rfl) ?_
      refine GoL.q (op_add rfl rfl) ?_
      refine GoL.q (op_indexO rfl rfl (Int.toNat_of_nonneg hs0.1).symm hsl (by first | rfl | omega | (simp only [List.length_set]; omega))) ?_
      refine GoL.y0 (op_storeO (xv := w64 (u.2.2[(satF x y s.2.l[u.1]).toNat] + x.Customers[s.2.l[u.1].toNat].Load)) rfl rfl hsl (by intro _ _; exact ⟨rfl, w64_w64 _⟩)) ?_
      rintro _ _ _ ⟨rfl, rfl, rfl⟩
      refine GoL.nil .next ?_
      refine GoC.seq ?_
      refine GoC.region ?_
      refine GoL.q (op_assign rfl) ?_
      refine GoL.nil .next ?_
      refine GoC.seq ?_
      refine GoC.seq ?_
      refine GoC.region ?_
      refine GoL.q (op_fieldAddr rfl) ?_
      refine GoL.q (op_load rfl rfl) ?_
      refine GoL.q (op_len rfl) ?_
      refine GoL.q (op_move rfl) ?_
      refine GoL.nil .next ?_
      refine GoC.block ?_
      refine GoC.loop (σ := Nat × Int) (fun v => [(78, .int .i64 (v.1 : Int)), (13, .int .i64 v.2)]) [(49, _), (2, _), (3, _), (4, _), (7, _), (8, _), (47, _), (48, _), (9, _), (10, _), (11, _), (12, _), (76, _), (77, _)] (fun v => _) (fun v => _) (fun v => v.1 ≤ u.2.1.l.length ∧ lastF (satF x y s.2.l[u.1]) ((u.2.1.l.map BikeR.b).drop v.1) (v.1 : Int) v.2 = lastF (satF x y s.2.l[u.1]) (u.2.1.l.map BikeR.b) 0 (-1)) (fun v => u.2.1.l.length - v.1) (0, -1) ⟨by simp, rfl⟩ ⟨rfl, rfl, rfl, rfl, rfl, rfl, rfl, rfl, rfl, rfl, rfl, rfl, rfl, rfl, rfl, rfl, trivial⟩ (fun _ h => h) ?_
      intro v ⟨hv1, hv2⟩
      refine GoC.seq ?_
      refine GoC.region ?_
      refine GoL.q (op_lss rfl rfl) ?_
      refine GoL.nil .next ?_
      refine GoC.seq ?_
      refine GoC.cond rfl (fun hc2 => ?_) (fun hc2 => ?_)
      · have hlt2 : v.1 < u.2.1.l.length := by simpa using hc2
        refine GoC.skipTo .next ?_
        refine GoC.seq ?_
        refine GoC.block ?_
        refine GoC.seq ?_
        refine GoC.region ?_
        refine GoL.q (op_move rfl) ?_
        refine GoL.q (op_indexO (k := v.1) rfl rfl rfl hlt2 (by first | rfl | omega | (simp only [List.length_set]; omega))) ?_
        refine GoL.q (op_loadOA (v.1) hlt2 rfl) ?_
        refine GoL.x (op_alloc) ?_
        rintro _ _ _ ⟨b15, rfl, rfl, rfl⟩
        refine GoL.q (op_assign rfl) ?_
        refine GoL.y0 (op_store rfl rfl rfl rfl (by simp [Value.oneCell']) (Nat.le_of_ble_eq_true rfl) rfl) ?_
        rintro _ _ _ ⟨rfl, rfl, rfl⟩
        refine GoL.nil .next ?_
        refine GoC.seq ?_
        refine GoC.region ?_
        refine GoL.q (op_fieldAddr rfl) ?_
        refine GoL.q (op_load rfl rfl) ?_
        refine GoL.q (op_move rfl) ?_
        refine GoL.q (op_eql rfl rfl) ?_
        refine GoL.nil .next ?_
        refine GoC.cond rfl (fun hc3 => ?_) (fun hc3 => ?_)
        · have hsat : u.2.1.l[v.1].Sat = (satF x y s.2.l[u.1]) := of_decide_eq_true hc3
          refine GoC.region ?_
          refine GoL.q (op_move rfl) ?_
          refine GoL.q (op_assign rfl) ?_
          refine GoL.nil (.blockNormal (.next)) ?_
          refine GoC.region ?_
          refine GoL.q (op_inc rfl (by omega)) ?_
          refine GoL.q (op_move rfl) ?_
          exact GoL.again (v.1 + 1, (v.1 : Int)) ⟨by omega, (lastF_yes (by simpa using hlt2) (by simpa [BikeR.b] using hsat)).symm.trans hv2⟩ (by simp only; omega) ⟨rfl, rfl, rfl, rfl, rfl, rfl, rfl, rfl, rfl, rfl, rfl, rfl, rfl, rfl, rfl, rfl, trivial⟩
        · have hsat : ¬ u.2.1.l[v.1].Sat = (satF x y s.2.l[u.1]) := of_decide_eq_false hc3
          refine GoC.skipTo (.blockNormal (.next)) ?_
          refine GoC.region ?_
          refine GoL.q (op_inc rfl (by omega)) ?_
          refine GoL.q (op_move rfl) ?_
          exact GoL.again (v.1 + 1, v.2) ⟨by omega, (lastF_no (by simpa using hlt2) (by simpa [BikeR.b] using hsat)).symm.trans hv2⟩ (by simp only; omega) ⟨rfl, rfl, rfl, rfl, rfl, rfl, rfl, rfl, rfl, rfl, rfl, rfl, rfl, rfl, rfl, rfl, trivial⟩
      · have hge2 : u.2.1.l.length ≤ v.1 := by simpa using hc2
        refine GoC.exit (.thenExit (.thenExit (.blockSame (.next)))) ?_
        refine GoC.seq ?_
        refine GoC.joinE (γ := Unit) (fun g => []) [(78, _), (13, _), (49, _), (2, _), (3, _), (4, _), (7, _), (8, _), (47, _), (48, _), (9, _), (10, _), (11, _), (12, _), (76, _), (77, _)] (fun g => bikeStep x y u.1 s.2.l[u.1] (u.2.1.l.map BikeR.b, u.2.2) = bikeNew x y s.2.l[u.1] (u.2.1.l.map BikeR.b, u.2.2)) ⟨rfl, rfl, rfl, rfl, rfl, rfl, rfl, rfl, rfl, rfl, rfl, rfl, rfl, rfl, rfl, rfl, trivial⟩ ?_ ?_
        · refine GoC.seq ?_
          have hvl : v.2 = lastF (satF x y s.2.l[u.1]) (u.2.1.l.map BikeR.b) 0 (-1) := by rw [← hv2, List.drop_of_length_le (by simpa using hge2)]; rfl
          refine GoC.region ?_
          refine GoL.q (op_move rfl) ?_
          refine GoL.q (op_geq rfl rfl) ?_
          refine GoL.q (op_move rfl) ?_
          apply GoL.and (m := 6) (x := 97) rfl rfl rfl rfl rfl rfl rfl rfl (Wn.none rfl)
          · intro hg4
            refine GoL.q (op_fieldAddr rfl) ?_ (hg := Wn.some rfl rfl rfl hg4)
            refine GoL.q (op_load rfl rfl) ?_ (hg := Wn.some rfl rfl rfl hg4)
            refine GoL.q (op_move rfl) ?_ (hg := Wn.some rfl rfl rfl hg4)
            refine GoL.p (op_callV (vs := [.slice q.c.1 y.Cuts.length q.c.2, .int .i64 (u.1 : Int)]) rfl (fun sh w h => at_spec y.Cuts q.c.1 q.c.2 (u.1 : Int) (by omega) hqc sh w h)) ?_ (hg := Wn.some rfl rfl rfl hg4)
            refine GoL.q (op_rem rfl rfl (atF_rng huc).1 (by decide)) ?_ (hg := Wn.some rfl rfl rfl hg4)
            refine GoL.q (op_gtr rfl rfl) ?_ (hg := Wn.some rfl rfl rfl hg4)
            exact GoL.part (k := 6) rfl rfl rfl
          refine GoL.nil .next ?_
          refine GoC.cond rfl (fun hc5 => ?_) (fun hc5 => ?_)
          · have hca := hc5
            refine GoC.seq ?_
            refine GoC.region ?_
            refine GoL.q (op_move rfl) ?_
            refine GoL.q (op_assign rfl) ?_
            refine GoL.nil .next ?_
            refine GoC.seq ?_
            refine GoC.seq ?_
            have hv0 : 0 ≤ v.2 := by have := hca; simp at this; exact this.1
            have hlast : v.2.toNat < u.2.1.l.length := by have h5 := lastF_idx (hvl ▸ hv0); rw [← hvl] at h5; simpa using h5
            have hrl := hu2.2.2.2.1 _ (List.getElem_mem hlast)
            refine GoC.pull (f := inB) u.2.1.l v.2.toNat hlast ?_
            refine GoC.region ?_
            refine GoL.q (op_fieldAddr rfl) ?_
            refine GoL.q (op_load rfl rfl) ?_
            refine GoL.q (op_move rfl) ?_
            refine GoL.q (op_indexO (k := v.2.toNat) rfl rfl (Int.toNat_of_nonneg hv0).symm hlast (by first | rfl | omega | (simp only [List.length_set]; omega))) ?_
            refine GoL.q (op_fieldAddrE rfl) ?_
            refine GoL.q (op_loadOF (v.2.toNat) 1 hlast rfl rfl) ?_
            refine GoL.q (op_len rfl) ?_
            refine GoL.q (op_move rfl) ?_
            refine GoL.nil .next ?_
            refine GoC.sub (E' := [(78, _), (13, _), (49, _), (2, _), (3, _), (4, _), (7, _), (8, _), (47, _), (48, _), (9, _), (10, _), (11, _), (12, _), (76, _), (77, _), (16, _), (105, _), (106, _), (107, _)]) ⟨rfl, rfl, rfl, rfl, rfl, rfl, rfl, rfl, rfl, rfl, rfl, rfl, rfl, rfl, rfl, rfl, rfl, rfl, rfl, rfl, trivial⟩ ?_
            refine GoC.block ?_
            refine GoC.loop (σ := Nat × Int) (fun z => [(107, .int .i64 (z.1 : Int)), (16, .int .i64 z.2)]) [(78, _), (13, _), (49, _), (2, _), (3, _), (4, _), (7, _), (8, _), (47, _), (48, _), (9, _), (10, _), (11, _), (12, _), (76, _), (77, _), (105, _), (106, _)] (fun z => _) (fun z => _) (fun z => z.1 ≤ u.2.1.l[v.2.toNat].r.l.length ∧ sumF x (u.2.1.l[v.2.toNat].r.l.drop z.1) z.2 = sumF x u.2.1.l[v.2.toNat].r.l (loadOf x s.2.l[u.1])) (fun z => u.2.1.l[v.2.toNat].r.l.length - z.1) (0, x.Customers[s.2.l[u.1].toNat].Load) ⟨by simp, by rw [hld]; rfl⟩ ⟨rfl, rfl, rfl, rfl, rfl, rfl, rfl, rfl, rfl, rfl, rfl, rfl, rfl, rfl, rfl, rfl, rfl, rfl, rfl, rfl, trivial⟩ (fun _ h => h) ?_
            intro z ⟨hz1, hz2⟩
            refine GoC.seq ?_
            refine GoC.region ?_
            refine GoL.q (op_lss rfl rfl) ?_
            refine GoL.nil .next ?_
            refine GoC.seq ?_
            refine GoC.cond rfl (fun hc6 => ?_) (fun hc6 => ?_)
            · have hlt3 : z.1 < u.2.1.l[v.2.toNat].r.l.length := by simpa using hc6
              refine GoC.skipTo .next ?_
              refine GoC.seq ?_
              refine GoC.block ?_
              refine GoC.seq ?_
              have hd1 := hlt3
              refine GoC.region ?_
              refine GoL.q (op_indexO rfl rfl rfl (by first | assumption | omega) (by first | rfl | omega | (simp only [List.length_set]; omega))) ?_
              refine GoL.q (op_loadO rfl (by intro _ _ _ _ h; exact h.1) (by first | assumption | omega) rfl) ?_
              refine GoL.q (op_assign rfl) ?_
              refine GoL.nil .next ?_
              have hd0 := hu2.2.2.1 _ (List.mem_map_of_mem (List.getElem_mem hlast)) u.2.1.l[v.2.toNat].r.l[z.1] (List.getElem_mem hlt3)
              have hdn : u.2.1.l[v.2.toNat].r.l[z.1].toNat < x.Customers.length := by omega
              refine GoC.openR (n := 4) p.u.1 u.2.1.l[v.2.toNat].r.l[z.1].toNat hdn (fun _ hcu2 => ?_)
              have hld2 : x.Customers[u.2.1.l[v.2.toNat].r.l[z.1].toNat].Load = loadOf x u.2.1.l[v.2.toNat].r.l[z.1] := by rw [loadOf, getD_lt _ hdn]
              refine GoC.region ?_
              refine GoL.q (op_move rfl) ?_
              refine GoL.q (op_fieldAddr rfl) ?_
              refine GoL.q (op_load rfl rfl) ?_
              refine GoL.q (op_move rfl) ?_
              refine GoL.q (op_indexR rfl rfl (Int.toNat_of_nonneg hd0.1).symm hdn) ?_
              refine GoL.q (op_fieldAddrE rfl) ?_
              refine GoL.q (op_loadF rfl rfl) ?_
              refine GoL.q (op_add rfl rfl) ?_
              refine GoL.q (op_assign rfl) ?_
              refine GoL.nil (.blockNormal (.next)) ?_
              refine GoC.sub (E' := [(107, _), (16, _), (78, _), (13, _), (49, _), (2, _), (3, _), (4, _), (7, _), (8, _), (47, _), (48, _), (9, _), (10, _), (11, _), (12, _), (76, _), (77, _), (105, _), (106, _)]) ⟨rfl, rfl, rfl, rfl, rfl, rfl, rfl, rfl, rfl, rfl, rfl, rfl, rfl, rfl, rfl, rfl, rfl, rfl, rfl, rfl, trivial⟩ ?_
              refine GoC.region ?_
              refine GoL.q (op_inc rfl (by omega)) ?_
              refine GoL.q (op_move rfl) ?_
              exact GoL.again (z.1 + 1, w64 (z.2 + x.Customers[u.2.1.l[v.2.toNat].r.l[z.1].toNat].Load)) ⟨by omega, by have h5 := hz2; rw [List.drop_eq_getElem_cons hlt3] at h5; rw [hld2]; exact h5⟩ (by simp only; omega) ⟨rfl, rfl, rfl, rfl, rfl, rfl, rfl, rfl, rfl, rfl, rfl, rfl, rfl, rfl, rfl, rfl, rfl, rfl, rfl, rfl, trivial⟩
            · have hge3 : u.2.1.l[v.2.toNat].r.l.length ≤ z.1 := by simpa using hc6
              refine GoC.exit (.thenExit (.thenExit (.blockSame (.next)))) ?_
              refine GoC.seq ?_
              have hz : z.2 = sumF x u.2.1.l[v.2.toNat].r.l (loadOf x s.2.l[u.1]) := by rw [← hz2, List.drop_of_length_le hge3]; rfl
              refine GoC.region ?_
              refine GoL.q (op_move rfl) ?_
              refine GoL.q (op_fieldAddr rfl) ?_
              refine GoL.q (op_fieldAddr rfl) ?_
              refine GoL.q (op_load rfl rfl) ?_
              refine GoL.q (op_leq rfl rfl) ?_
              refine GoL.nil .next ?_
              refine GoC.cond rfl (fun hc7 => ?_) (fun hc7 => ?_)
              · have hcb := hc7
                refine GoC.seq ?_
                have hos : bikeStep x y u.1 s.2.l[u.1] (u.2.1.l.map BikeR.b, u.2.2) = bikeOld x y s.2.l[u.1] v.2.toNat (u.2.1.l.map BikeR.b, u.2.2) := (if_pos (by rw [← hvl]; exact hca)).trans ((if_pos (by rw [← hvl, getD_map_bike hlast]; exact (hz ▸ hcb))).trans (by rw [← hvl]))
                have hold : ∀ (a : Option Addr) (c : Nat), ((u.2.1.l.set v.2.toNat ⟨u.2.1.l[v.2.toNat].Sat, ⟨a, c, u.2.1.l[v.2.toNat].r.l ++ [s.2.l[u.1]]⟩⟩).map BikeR.b, u.2.2.set (satF x y s.2.l[u.1]).toNat (w64 (u.2.2[(satF x y s.2.l[u.1]).toNat] + x.Customers[s.2.l[u.1].toNat].Load))) = bikeOld x y s.2.l[u.1] v.2.toNat (u.2.1.l.map BikeR.b, u.2.2) := by
                  intro a c
                  rw [bikeOld, getD_map_bike hlast, hadd, List.map_set]; rfl
                refine GoC.tree 12 (.op 0 (.op 1 (.op 2 (.op 3 (.op 4 (.op 5 (.op 6 (.op 7 (.op 8 (.op 9 (.w 10 (.y 11 [0, 1, 2] .nil)))))))))))) (by kernel_rfl) Pr_mixed ?_
                refine CanT.q rfl (op_fieldAddr rfl) ?_
                refine CanT.q rfl (op_load rfl rfl) ?_
                refine CanT.q rfl (op_move rfl) ?_
                refine CanT.q rfl (op_fieldAddr rfl) ?_
                refine CanT.q rfl (op_load rfl rfl) ?_
                refine CanT.q rfl (op_move rfl) ?_
                refine CanT.q rfl (op_indexO (k := v.2.toNat) rfl rfl (Int.toNat_of_nonneg hv0).symm hlast (by first | rfl | omega | (simp only [List.length_set]; omega))) ?_
                refine CanT.q rfl (op_fieldAddrE rfl) ?_
                refine CanT.q rfl (op_loadOF (v.2.toNat) 1 hlast rfl rfl) ?_
                refine CanT.q rfl (op_move rfl) ?_
                refine CanT.x rfl (op_buildSlice1 rfl rfl rfl) ?_
                rintro _ _ _ ⟨b135, rfl, rfl, rfl⟩
                refine CanT.y rfl (op_append1 (s.2.l[u.1]) rfl rfl (by rfl) (by intro _ _ _; exact ⟨rfl, hqe⟩) (by have := hu2.2.2.2.1 _ (List.getElem_mem hlast); omega)) ?_
                rintro _ _ _ ⟨a136, c136, rfl, rfl, rfl⟩
                refine ⟨⟨Again.q rfl (op_fieldAddr rfl), Again.q rfl (op_load rfl rfl), Again.q rfl (op_move rfl), trivial⟩, ?_⟩
                refine CanT.nil rfl ?_
                refine GoL.q (op_indexO (k := v.2.toNat) rfl rfl (Int.toNat_of_nonneg hv0).symm hlast (by first | rfl | omega | (simp only [List.length_set]; omega))) ?_
                refine GoL.q (op_fieldAddrE rfl) ?_
                refine GoL.y0 (op_storeOF (v.2.toNat) 1 ((⟨u.2.1.l[v.2.toNat].Sat, ⟨a136, c136, u.2.1.l[v.2.toNat].r.l ++ [s.2.l[u.1]]⟩⟩ : BikeR)) hlast rfl rfl rfl (by intro _ _ h; exact rep_bikeR (bikeR_sat h) rfl _ _) (by decide)) ?_
                rintro _ _ _ ⟨rfl, rfl, rfl⟩
                refine GoL.push (f := inB) u.2.1.l v.2.toNat (⟨u.2.1.l[v.2.toNat].Sat, ⟨a136, c136, u.2.1.l[v.2.toNat].r.l ++ [s.2.l[u.1]]⟩⟩ : BikeR) hlast ?_
                refine GoL.recel b7 [.slice none 0 0, .slice u.2.1.a (u.2.1.l.set v.2.toNat (⟨u.2.1.l[v.2.toNat].Sat, ⟨a136, c136, u.2.1.l[v.2.toNat].r.l ++ [s.2.l[u.1]]⟩⟩ : BikeR)).length u.2.1.c] (by rw [List.length_set]) ?_
                refine GoL.nil .next ?_
                refine GoC.sub (E' := [(107, _), (16, _), (78, _), (13, _), (49, _), (2, _), (3, _), (4, _), (7, _), (8, _), (47, _), (48, _), (9, _), (10, _), (11, _), (12, _), (76, _), (77, _), (105, _), (106, _)]) ⟨rfl, rfl, rfl, rfl, rfl, rfl, rfl, rfl, rfl, rfl, rfl, rfl, rfl, rfl, rfl, rfl, rfl, rfl, rfl, rfl, trivial⟩ ?_
                refine GoC.exit (.thenExit (.blockSame (.next))) ?_
                refine GoC.region ?_
                refine GoL.q (op_inc rfl (by omega)) ?_
                refine GoL.q (op_move rfl) ?_
                exact GoL.again (u.1 + 1, ⟨u.2.1.a, u.2.1.c, u.2.1.l.set v.2.toNat ⟨u.2.1.l[v.2.toNat].Sat, ⟨a136, c136, u.2.1.l[v.2.toNat].r.l ++ [s.2.l[u.1]]⟩⟩⟩, u.2.2.set (satF x y s.2.l[u.1]).toNat (w64 (u.2.2[(satF x y s.2.l[u.1]).toNat] + x.Customers[s.2.l[u.1].toNat].Load))) ⟨by omega, by simp only [List.length_set]; omega, by simp only [List.length_set]; exact hu2.1, (fun v hv => by have h6 := addAt_rng hu2.2.1 hsl (hld ▸ hlr) (by omega) v (hadd ▸ hv); simp only; omega), (hold a136 c136) ▸ Carry.old hu2.2.2.1 hc0, (fun b hb => by rcases List.mem_or_eq_of_mem_set hb with hb | rfl; exact Nat.le_succ_of_le (hu2.2.2.2.1 b hb); simp only [List.length_append, List.length_singleton]; exact Nat.succ_le_succ (hu2.2.2.2.1 _ (List.getElem_mem hlast))), by have h5 := hu2.2.2.2.2; rw [List.drop_eq_getElem_cons hlt1, bikesD] at h5; rw [hos, ← hold a136 c136] at h5; exact h5⟩ (by simp only; omega) ⟨rfl, rfl, rfl, rfl, rfl, rfl, rfl, rfl, trivial⟩
              · have hnw : bikeStep x y u.1 s.2.l[u.1] (u.2.1.l.map BikeR.b, u.2.2) = bikeNew x y s.2.l[u.1] (u.2.1.l.map BikeR.b, u.2.2) := (if_pos (by rw [← hvl]; exact hca)).trans (if_neg (by rw [← hvl, getD_map_bike hlast]; exact (hz ▸ Bool.eq_false_iff.1 hc7)))
                refine GoC.unpull (f := inB) u.2.1.l v.2.toNat hlast ?_
                refine GoC.meet () .next hnw ?_
                exact ⟨rfl, rfl, rfl, rfl, rfl, rfl, rfl, rfl, rfl, rfl, rfl, rfl, rfl, rfl, rfl, rfl, trivial⟩
          · have hnw : bikeStep x y u.1 s.2.l[u.1] (u.2.1.l.map BikeR.b, u.2.2) = bikeNew x y s.2.l[u.1] (u.2.1.l.map BikeR.b, u.2.2) := if_neg (by rw [← hvl]; exact Bool.eq_false_iff.1 hc5)
            refine GoC.meet () .next hnw ?_
            exact ⟨rfl, rfl, rfl, rfl, rfl, rfl, rfl, rfl, rfl, rfl, rfl, rfl, rfl, rfl, rfl, rfl, trivial⟩
        intro _ hnw
        have hnew : ∀ (a : Option Addr) (c : Nat), ((u.2.1.l ++ [(⟨(satF x y s.2.l[u.1]), ⟨a, c, [s.2.l[u.1]]⟩⟩ : BikeR)]).map BikeR.b, u.2.2.set (satF x y s.2.l[u.1]).toNat (w64 (u.2.2[(satF x y s.2.l[u.1]).toNat] + x.Customers[s.2.l[u.1].toNat].Load))) = bikeNew x y s.2.l[u.1] (u.2.1.l.map BikeR.b, u.2.2) := by
          intro a c
          rw [bikeNew, hadd, List.map_append]; rfl
        refine GoC.region ?_
        refine GoL.q (op_fieldAddr rfl) ?_
        refine GoL.q (op_load rfl rfl) ?_
        refine GoL.q (op_move rfl) ?_
        refine GoL.q (op_move rfl) ?_
        refine GoL.x (op_buildSlice1 rfl rfl rfl) ?_
        rintro _ _ _ ⟨b143, rfl, rfl, rfl⟩
        refine GoL.celOwn (ty := t64) b143 (s.2.l[u.1]) (fun _ _ => ⟨rfl, hqe⟩) ?_
        refine GoL.q (op_build1 ([.int .i64 (satF x y s.2.l[u.1]), .slice (some ⟨b143, 0, none⟩) 1 1]) rfl rfl) ?_
        refine GoL.x (op_buildSlice1 rfl rfl rfl) ?_
        rintro _ _ _ ⟨b145, rfl, rfl, rfl⟩
        refine GoL.y (op_append1 ((⟨(satF x y s.2.l[u.1]), ⟨some ⟨b143, 0, none⟩, 1, [s.2.l[u.1]]⟩⟩ : BikeR)) rfl rfl (by rfl) (by intro _ _ _; exact rep_bikeR (s := (satF x y s.2.l[u.1])) (a := some ⟨b143, 0, none⟩) (c := 1) (l := [s.2.l[u.1]]) (w64_id (by omega)) rfl _ _) (by have h5 := hu2.2.2.2.1; have := hu3; omega)) ?_
        rintro _ _ _ ⟨a146, c146, rfl, rfl, rfl⟩
        refine GoL.pushEnd (f := inB) u.2.1.l (⟨(satF x y s.2.l[u.1]), ⟨some ⟨b143, 0, none⟩, 1, [s.2.l[u.1]]⟩⟩ : BikeR) ?_
        refine GoL.q (op_fieldAddr rfl) ?_
        refine GoL.y0 (op_store (cs' := [.slice none 0 0, .slice a146 (u.2.1.l ++ [(⟨(satF x y s.2.l[u.1]), ⟨some ⟨b143, 0, none⟩, 1, [s.2.l[u.1]]⟩⟩ : BikeR)]).length c146]) rfl rfl rfl rfl (by simp [Value.oneCell']) (Nat.le_of_ble_eq_true rfl) rfl) ?_
        rintro _ _ _ ⟨rfl, rfl, rfl⟩
        refine GoL.nil (.blockNormal (.next)) ?_
        refine GoC.region ?_
        refine GoL.q (op_inc rfl (by omega)) ?_
        refine GoL.q (op_move rfl) ?_
        exact GoL.again (u.1 + 1, ⟨a146, c146, u.2.1.l ++ [⟨(satF x y s.2.l[u.1]), ⟨some ⟨b143, 0, none⟩, 1, [s.2.l[u.1]]⟩⟩]⟩, u.2.2.set (satF x y s.2.l[u.1]).toNat (w64 (u.2.2[(satF x y s.2.l[u.1]).toNat] + x.Customers[s.2.l[u.1].toNat].Load))) ⟨by omega, by simp only [List.length_append, List.length_singleton]; omega, by simp only [List.length_set]; exact hu2.1, (fun v hv => by have h6 := addAt_rng hu2.2.1 hsl (hld ▸ hlr) (by omega) v (hadd ▸ hv); simp only; omega), (hnew (some ⟨b143, 0, none⟩) 1) ▸ Carry.new hu2.2.2.1 hc0, (fun b hb => by rcases List.mem_append.1 hb with hb | hb; exact Nat.le_succ_of_le (hu2.2.2.2.1 b hb); simp only [List.mem_singleton] at hb; subst hb; simp), by have h5 := hu2.2.2.2.2; rw [List.drop_eq_getElem_cons hlt1, bikesD] at h5; rw [hnw, ← hnew (some ⟨b143, 0, none⟩) 1] at h5; exact h5⟩ (by simp only; omega) ⟨rfl, rfl, rfl, rfl, rfl, rfl, rfl, rfl, trivial⟩
    · have hge1 : s.2.l.length ≤ u.1 := by simpa using hc1
      refine GoC.exit (.thenExit (.thenExit (.blockSame (.next)))) ?_
      refine GoC.seq ?_
      refine GoC.region ?_
      refine GoL.q (op_assign rfl) ?_
      refine GoL.nil .next ?_
      refine GoC.seq ?_
      refine GoC.seq ?_
      have huf : (u.2.1.l.map BikeR.b, u.2.2) = bikesF7 x y := by have h5 := hu2.2.2.2.2; rw [List.drop_of_length_le hge1] at h5; exact h5
      have hub : ∀ v ∈ u.2.2, 0 ≤ v ∧ v ≤ 600 := fun v hv => by have := hu2.2.1 v hv; omega
      refine GoC.region ?_
      refine GoL.q (op_move rfl) ?_
      refine GoL.q (op_len rfl) ?_
      refine GoL.q (op_move rfl) ?_
      refine GoL.nil .next ?_
      refine GoC.block ?_
      refine GoC.grpNil inT ?_
      refine GoC.ownNil ty_plan_Truck (tH Stop) ?_
      refine GoC.loop (σ := Nat × Int × Row (Row Stop)) (fun e => [(151, .int .i64 (e.1 : Int)), (19, .int .i64 e.2.1)]) [(2, _), (3, _), (4, _), (7, _), (149, _), (150, _)] (fun e => [own ty_plan_Truck (tH Stop) e.2.2.a e.2.2.c e.2.2.l, grp (e.2.2.l.map inT), own ty_plan_Bike tBikeR u.2.1.a u.2.1.c u.2.1.l, grp (u.2.1.l.map inB), own ty_i64 t64 (some ⟨b46, 0, none⟩) x.Sats.length u.2.2, cel b7 ty_plan_Plan [.slice e.2.2.a e.2.2.l.length e.2.2.c, .slice u.2.1.a u.2.1.l.length u.2.1.c], cel b4 ty_plan_Plan [.slice none 0 0, .slice none 0 0], cel b3 ty_law17_Wish (cW y q), cel b2 ty_inst_Instance (cI x p)]) (fun e => _) (fun e => e.1 ≤ u.2.2.length ∧ (TI x (600 * e.1) e.2.1 e.2.2.l ∧ trksL x y (u.2.2.drop e.1) e.1 (e.2.1, e.2.2.l.map trk) = trksL x y u.2.2 0 (0, []))) (fun e => u.2.2.length - e.1) (0, 0, ⟨none, 0, []⟩) ⟨by simp, ⟨by simp, by simp only; omega, by simp, by simp, by simp⟩, rfl⟩ ⟨rfl, rfl, rfl, rfl, rfl, rfl, rfl, rfl, trivial⟩ (fun _ h => h) ?_
      intro e ⟨he1, he2⟩
      refine GoC.seq ?_
      refine GoC.region ?_
      refine GoL.q (op_lss rfl rfl) ?_
      refine GoL.nil .next ?_
      refine GoC.seq ?_
      refine GoC.cond rfl (fun hc8 => ?_) (fun hc8 => ?_)
      · have hlt4 : e.1 < u.2.2.length := by rw [hu2.1]; simpa using hc8
        refine GoC.skipTo .next ?_
        refine GoC.seq ?_
        refine GoC.block ?_
        refine GoC.seq ?_
        have hn0 := hub _ (List.getElem_mem hlt4)
        refine GoC.region ?_
        refine GoL.q (op_move rfl) ?_
        refine GoL.q (op_indexO rfl rfl rfl (by first | assumption | omega) (by first | rfl | omega | (simp only [List.length_set]; omega))) ?_
        refine GoL.q (op_loadO rfl (by intro _ _ _ _ h; exact h.1) (by first | assumption | omega) rfl) ?_
        refine GoL.q (op_assign rfl) ?_
        refine GoL.q (op_assign rfl) ?_
        refine GoL.nil .next ?_
        refine GoC.block ?_
        refine GoC.loop (σ := Nat × Int × Int × Row (Row Stop)) (fun f => [(21, .int .i64 f.2.1), (19, .int .i64 f.2.2.1)]) [(151, _), (2, _), (3, _), (4, _), (7, _), (149, _), (150, _), (20, _)] (fun f => [own ty_plan_Truck (tH Stop) f.2.2.2.a f.2.2.2.c f.2.2.2.l, grp (f.2.2.2.l.map inT), own ty_plan_Bike tBikeR u.2.1.a u.2.1.c u.2.1.l, grp (u.2.1.l.map inB), own ty_i64 t64 (some ⟨b46, 0, none⟩) x.Sats.length u.2.2, cel b7 ty_plan_Plan [.slice f.2.2.2.a f.2.2.2.l.length f.2.2.2.c, .slice u.2.1.a u.2.1.l.length u.2.1.c], cel b4 ty_plan_Plan [.slice none 0 0, .slice none 0 0], cel b3 ty_law17_Wish (cW y q), cel b2 ty_inst_Instance (cI x p)]) (fun f => _) (fun f => 0 ≤ f.2.1 ∧ f.2.1 ≤ f.1 ∧ f.1 ≤ u.2.2[e.1].toNat ∧ TI x (600 * e.1 + (u.2.2[e.1].toNat - f.1)) f.2.2.1 f.2.2.2.l ∧ trkL x y e.1 f.1 (f.2.1, f.2.2.1, f.2.2.2.l.map trk) = trkL x y e.1 u.2.2[e.1].toNat (u.2.2[e.1], e.2.1, e.2.2.l.map trk)) (fun f => f.1) (u.2.2[e.1].toNat, u.2.2[e.1], e.2.1, e.2.2) ⟨hn0.1, by simp only; omega, Nat.le_refl _, he2.1.mono (by omega), rfl⟩ ⟨rfl, rfl, rfl, rfl, rfl, rfl, rfl, rfl, rfl, rfl, trivial⟩ (fun _ h => h) ?_
        intro f ⟨hf1, hf2⟩
        refine GoC.seq ?_
        refine GoC.seq ?_
        skip
        refine GoC.region ?_
        refine GoL.q (op_move rfl) ?_
        refine GoL.q (op_gtr rfl rfl) ?_
        refine GoL.nil .next ?_
        refine GoC.cond rfl (fun hc9 => ?_) (fun hc9 => ?_)
        · have hf0 : 0 < f.2.1 := of_decide_eq_true hc9
          refine GoC.skipTo .next ?_
          refine GoC.block ?_
          refine GoC.seq ?_
          refine GoC.joinS (γ := Int × Row (Row Stop)) (fun g => [(19, .int .i64 g.1)]) [(21, _), (151, _), (2, _), (3, _), (4, _), (7, _), (149, _), (150, _), (20, _)] (fun g => [own ty_plan_Truck (tH Stop) g.2.a g.2.c g.2.l, grp (g.2.l.map inT), own ty_plan_Bike tBikeR u.2.1.a u.2.1.c u.2.1.l, grp (u.2.1.l.map inB), own ty_i64 t64 (some ⟨b46, 0, none⟩) x.Sats.length u.2.2, cel b7 ty_plan_Plan [.slice g.2.a g.2.l.length g.2.c, .slice u.2.1.a u.2.1.l.length u.2.1.c], cel b4 ty_plan_Plan [.slice none 0 0, .slice none 0 0], cel b3 ty_law17_Wish (cW y q), cel b2 ty_inst_Instance (cI x p)]) (fun g => trkNew x y e.1 (f.2.2.1, f.2.2.2.l.map trk) = (g.1, g.2.l.map trk) ∧ TJ x (600 * e.1 + (u.2.2[e.1].toNat - f.1)) g.1 g.2.l) ⟨rfl, rfl, rfl, rfl, rfl, rfl, rfl, rfl, rfl, trivial⟩ ?_ ?_
          · refine GoC.seq ?_
            refine GoC.region ?_
            refine GoL.q (op_move rfl) ?_
            refine GoL.q (op_eql rfl rfl) ?_
            refine GoL.q (op_move rfl) ?_
            apply GoL.or (m := 15) (x := 175) rfl rfl rfl rfl rfl rfl rfl rfl (Wn.none rfl)
            · intro hg10
              refine GoL.q (op_fieldAddr rfl) ?_ (hg := Wn.some rfl rfl rfl hg10)
              refine GoL.q (op_load rfl rfl) ?_ (hg := Wn.some rfl rfl rfl hg10)
              refine GoL.q (op_move rfl) ?_ (hg := Wn.some rfl rfl rfl hg10)
              refine GoL.p (op_callV (vs := [.slice q.c.1 y.Cuts.length q.c.2, .int .i64 (e.1 : Int)]) rfl (fun sh w h => at_spec y.Cuts q.c.1 q.c.2 (e.1 : Int) (by omega) hqc sh w h)) ?_ (hg := Wn.some rfl rfl rfl hg10)
              refine GoL.q (op_rem rfl rfl (atF_rng huc).1 (by decide)) ?_ (hg := Wn.some rfl rfl rfl hg10)
              refine GoL.q (op_eql rfl rfl) ?_ (hg := Wn.some rfl rfl rfl hg10)
              refine GoL.q (op_move rfl) ?_ (hg := Wn.some rfl rfl rfl hg10)
              apply GoL.and (m := 7) (x := 174) rfl rfl rfl rfl rfl rfl rfl rfl (Wn.some rfl rfl rfl hg10)
              · intro hg11
                refine GoL.q (op_fieldAddr rfl) ?_ (hg := Wn.some rfl rfl rfl hg11)
                refine GoL.q (op_load rfl rfl) ?_ (hg := Wn.some rfl rfl rfl hg11)
                refine GoL.q (op_len rfl) ?_ (hg := Wn.some rfl rfl rfl hg11)
                refine GoL.q (op_fieldAddr rfl) ?_ (hg := Wn.some rfl rfl rfl hg11)
                refine GoL.q (op_fieldAddr rfl) ?_ (hg := Wn.some rfl rfl rfl hg11)
                refine GoL.q (op_load rfl rfl) ?_ (hg := Wn.some rfl rfl rfl hg11)
                refine GoL.q (op_lss rfl rfl) ?_ (hg := Wn.some rfl rfl rfl hg11)
                exact GoL.part (k := 7) rfl rfl rfl
              exact GoL.part (k := 8) rfl rfl rfl
            refine GoL.nil .next ?_
            refine GoC.cond rfl (fun hc12 => ?_) (fun hc12 => ?_)
            · have hce := hc12
              refine GoC.tree 10 (.op 0 (.op 1 (.op 2 (.op 5 (.op 6 (.op 7 (.w 3 (.y 4 [5, 6, 7] (.op 8 (.s 9 [5, 6, 7] .nil)))))))))) (by kernel_rfl) Pr_mixed ?_
              refine CanT.q rfl (op_fieldAddr rfl) ?_
              refine CanT.q rfl (op_load rfl rfl) ?_
              refine CanT.q rfl (op_build1 ([.slice none 0 0]) rfl rfl) ?_
              refine CanT.q rfl (op_fieldAddr rfl) ?_
              refine CanT.q rfl (op_fieldAddr rfl) ?_
              refine CanT.q rfl (op_load rfl rfl) ?_
              refine CanT.x rfl (op_buildSlice1 rfl rfl rfl) ?_
              rintro _ _ _ ⟨b180, rfl, rfl, rfl⟩
              refine CanT.y rfl (op_append1 ((⟨none, 0, []⟩ : Row Stop)) rfl rfl (by rfl) (by intro _ _ _; rfl) (by have := hf2.2.2.1.len; omega)) ?_
              rintro _ _ _ ⟨a181, c181, rfl, rfl, rfl⟩
              refine ⟨⟨Again.q rfl (op_fieldAddr rfl), Again.q rfl (op_fieldAddr rfl), Again.q rfl (op_load rfl rfl), trivial⟩, ?_⟩
              refine CanT.q rfl (op_fieldAddr rfl) ?_
              refine CanT.s rfl (op_store (cs' := [.slice a181 (f.2.2.2.l ++ [(⟨none, 0, []⟩ : Row Stop)]).length c181, .slice u.2.1.a u.2.1.l.length u.2.1.c]) rfl rfl rfl rfl (by simp [Value.oneCell']) (Nat.le_of_ble_eq_true rfl) rfl) ?_
              rintro _ _ _ ⟨rfl, rfl, rfl⟩
              refine ⟨⟨Again.q rfl (op_fieldAddr rfl), Again.q rfl (op_fieldAddr rfl), Again.q rfl (op_load rfl rfl), trivial⟩, ?_⟩
              refine CanT.nil rfl ?_
              refine GoL.q (op_assign rfl) ?_
              refine GoL.ownNil ty_plan_Stop tStop ?_
              refine GoL.pushEnd (f := inT) f.2.2.2.l (⟨none, 0, []⟩ : Row Stop) ?_
              refine GoL.meet (x.Trucks.Room, ⟨a181, c181, f.2.2.2.l ++ [⟨none, 0, []⟩]⟩) .next ⟨(if_pos (by simpa using hce)).trans (by simp [trk]), hf2.2.2.1.new (by omega)⟩ ?_
              exact ⟨rfl, rfl, rfl, rfl, rfl, rfl, rfl, rfl, rfl, rfl, trivial⟩
            · have hce := hc12
              refine GoC.meet (f.2.2.1, f.2.2.2) .next ⟨if_neg (by simpa using hce), hf2.2.2.1.old (by simp at hce; exact hce.1)⟩ ?_
              exact ⟨rfl, rfl, rfl, rfl, rfl, rfl, rfl, rfl, rfl, rfl, trivial⟩
          intro g ⟨hg1, hg2⟩
          refine GoC.seq ?_
          skip
          refine GoC.region ?_
          refine GoL.q (op_move rfl) ?_
          refine GoL.q (op_move rfl) ?_
          refine GoL.q (op_min rfl rfl) ?_
          refine GoL.q (op_assign rfl) ?_
          refine GoL.nil .next ?_
          refine GoC.seq ?_
          have hk1 : g.2.l.length - 1 < g.2.l.length := by have := hg2.ne; omega
          have hgn := hg2.ne
          have hgl := hg2.len
          refine GoC.region ?_
          refine GoL.q (op_fieldAddr rfl) ?_
          refine GoL.q (op_load rfl rfl) ?_
          refine GoL.q (op_fieldAddr rfl) ?_
          refine GoL.q (op_load rfl rfl) ?_
          refine GoL.q (op_len rfl) ?_
          refine GoL.q (op_subI rfl rfl (by omega)) ?_
          refine GoL.q (op_indexO (k := (g.2.l.length - 1)) rfl rfl (by omega) hk1 (by first | rfl | omega | (simp only [List.length_set]; omega))) ?_
          refine GoL.q (op_assign rfl) ?_
          refine GoL.nil .next ?_
          refine GoC.seq ?_
          refine GoC.pull (f := inT) g.2.l (g.2.l.length - 1) hk1 ?_
          refine GoC.region ?_
          refine GoL.q (op_move rfl) ?_
          refine GoL.q (op_move rfl) ?_
          refine GoL.q (op_nilCheck rfl) ?_
          refine GoL.q (op_fieldAddrE rfl) ?_
          refine GoL.q (op_loadOF ((g.2.l.length - 1)) 0 hk1 rfl rfl) ?_
          refine GoL.q (op_move rfl) ?_
          refine GoL.q (op_move rfl) ?_
          refine GoL.q (op_build1 ([.int .i64 (e.1 : Int), .int .i64 (min f.2.1 g.1)]) rfl rfl) ?_
          refine GoL.x (op_buildSlice1 rfl rfl rfl) ?_
          rintro _ _ _ ⟨b204, rfl, rfl, rfl⟩
          refine GoL.y (op_append1 ((⟨(e.1 : Int), min f.2.1 g.1⟩ : Stop)) rfl rfl (by rfl) (by intro _ _ _; exact ⟨[_], [_], rfl, ⟨rfl, w64_id (by simp only; omega)⟩, ⟨rfl, w64_id (by have := hg2.l0; have := hg2.lr; simp only; omega)⟩⟩) (by have := hg2.ins _ (List.getElem_mem hk1); omega)) ?_
          rintro _ _ _ ⟨a205, c205, rfl, rfl, rfl⟩
          refine GoL.q (op_nilCheck rfl) ?_
          refine GoL.q (op_fieldAddrE rfl) ?_
          refine GoL.y0 (op_storeOF ((g.2.l.length - 1)) 0 ((⟨a205, c205, g.2.l[(g.2.l.length - 1)].l ++ [⟨(e.1 : Int), min f.2.1 g.1⟩]⟩ : Row Stop)) hk1 rfl rfl rfl (by intro _ _ _; rfl) (by decide)) ?_
          rintro _ _ _ ⟨rfl, rfl, rfl⟩
          refine GoL.push (f := inT) g.2.l (g.2.l.length - 1) (⟨a205, c205, g.2.l[(g.2.l.length - 1)].l ++ [⟨(e.1 : Int), min f.2.1 g.1⟩]⟩ : Row Stop) hk1 ?_
          refine GoL.recel b7 [.slice g.2.a (g.2.l.set (g.2.l.length - 1) (⟨a205, c205, g.2.l[(g.2.l.length - 1)].l ++ [⟨(e.1 : Int), min f.2.1 g.1⟩]⟩ : Row Stop)).length g.2.c, .slice u.2.1.a u.2.1.l.length u.2.1.c] (by rw [List.length_set]) ?_
          refine GoL.nil .next ?_
          refine GoC.sub (E' := [(19, _), (21, _), (151, _), (2, _), (3, _), (4, _), (7, _), (149, _), (150, _), (20, _), (22, _)]) ⟨rfl, rfl, rfl, rfl, rfl, rfl, rfl, rfl, rfl, rfl, rfl, trivial⟩ ?_
          have hwn : w64 (f.2.1 - min f.2.1 g.1) = f.2.1 - min f.2.1 g.1 := w64_id (by have := hg2.l0; have := hf2.1; have := hf2.2.1; omega)
          have hfs : f.1 = (f.1 - 1) + 1 := by have := hf2.1; omega
          refine GoC.region ?_
          refine GoL.q (op_move rfl) ?_
          refine GoL.q (op_move rfl) ?_
          refine GoL.q (op_sub rfl rfl) ?_
          refine GoL.q (op_move rfl) ?_
          refine GoL.q (op_move rfl) ?_
          refine GoL.q (op_sub rfl rfl) ?_
          refine GoL.q (op_assign rfl) ?_
          refine GoL.q (op_assign rfl) ?_
          exact GoL.againTo (.blockNormal (.next)) (f.1 - 1, w64 (f.2.1 - min f.2.1 g.1), w64 (g.1 - min f.2.1 g.1), ⟨g.2.a, g.2.c, g.2.l.set (g.2.l.length - 1) (⟨a205, c205, g.2.l[(g.2.l.length - 1)].l ++ [⟨(e.1 : Int), min f.2.1 g.1⟩]⟩ : Row Stop)⟩) ⟨by simp only; rw [hwn]; omega, by simp only; rw [hwn]; have := hg2.l0; omega, by have := hf2.2.1; simp only; omega, (hg2.step hf0 hrm.2 hk1 rfl).mono (by have := hf2.2.1; have := hf2.1; simp only; omega), by have h5 := hf2.2.2.2; rw [hfs, trkL, if_pos (by simpa using hf0), trkStep_eq hg1, lastAdd_map (a := a205) (c := c205) hk1] at h5; exact h5⟩ (by have := hf2.1; simp only; omega) ⟨rfl, rfl, rfl, rfl, rfl, rfl, rfl, rfl, rfl, rfl, trivial⟩
        · have hf0 : ¬ 0 < f.2.1 := of_decide_eq_false hc9
          refine GoC.exit (.thenExit (.thenExit (.blockSame (.blockNormal (.next))))) ?_
          refine GoC.region ?_
          refine GoL.q (op_inc rfl (by omega)) ?_
          refine GoL.q (op_move rfl) ?_
          exact GoL.again (e.1 + 1, (f.2.2.1, f.2.2.2)) ⟨by omega, hf2.2.2.1.mono (by have := hub _ (List.getElem_mem hlt4); omega), by have h5 := he2.2; rw [List.drop_eq_getElem_cons hlt4, trksL, ← hf2.2.2.2, trkL_done hf0] at h5; exact h5⟩ (by simp only; omega) ⟨rfl, rfl, rfl, rfl, rfl, rfl, rfl, rfl, trivial⟩
      · have hge4 : u.2.2.length ≤ e.1 := by rw [hu2.1]; simpa using hc8
        refine GoC.exit (.thenExit (.thenExit (.blockSame (.next)))) ?_
        refine GoC.seq ?_
        refine GoC.region ?_
        refine GoL.q (op_loadA rfl rfl rfl) ?_
        refine GoL.y0 (op_store (cs' := [.slice e.2.2.a e.2.2.l.length e.2.2.c, .slice u.2.1.a u.2.1.l.length u.2.1.c]) rfl rfl rfl rfl (by simp [Value.oneCell']) (Nat.le_of_ble_eq_true rfl) rfl) ?_
        rintro _ _ _ ⟨rfl, rfl, rfl⟩
        refine GoL.nil .next ?_
        refine GoC.ret .here ?_
        refine doneC rfl rfl rfl ?_
        intro w' hw
        have hef : e.2.2.l.map trk = trksL x y (bikesF7 x y).2 0 (0, []) := by have h5 := he2.2; rw [List.drop_of_length_le hge4] at h5; rw [← huf]; exact h5
        have hy : (⟨e.2.2, u.2.1⟩ : Plan0).y = draftF x y := by simp only [Plan0.y, draftF, hef]; rw [← huf]
        have hsm : PlanSm (⟨e.2.2, u.2.1⟩ : Plan0).y := by
          have h5 := he2.1.len
          refine ⟨by simp only [Plan0.y, List.length_map]; omega, by simp only [Plan0.y, List.length_map]; omega, fun k hk => ?_, fun k hk => ?_⟩
          · obtain ⟨r, hr, rfl⟩ := List.mem_map.1 hk
            have := he2.1.ins r hr
            simp only [trk]; omega
          · obtain ⟨r, hr, rfl⟩ := List.mem_map.1 hk
            have := hu2.2.2.2.1 r hr
            simp only [BikeR.b]; omega
        exact ⟨⟨⟨e.2.2, u.2.1⟩, hy, hsm⟩, rfl, Holds.only (W' := wP0 ⟨e.2.2, u.2.1⟩ []) hw.n⟩
end Go.Proofs.Ytdeacehacndopaa

namespace Go.Proofs.Ytdeacehacndopaa
open Go.RowKit

structure RideR where
  Out : Int
  r : Row Int
  Back : Int
def RideR.q (x : RideR) : Ride := ⟨x.Out, x.r.l, x.Back⟩
def tRideR : RTy RideR := tMap (fun x : RideR => (x.Out, x.r, x.Back)) (tPair t64 (tPair (tH Int) t64))
instance : Cl tRideR (fun x => [.int .i64 x.Out, .slice x.r.a x.r.l.length x.r.c, .int .i64 x.Back]) := Cl.map (f := fun x : RideR => (x.Out, x.r, x.Back)) (t := tPair t64 (tPair (tH Int) t64))
theorem rep_rideR {o b : Int} {a : Option Addr} {c n : Nat} {l : List Int} (ho : w64 o = o) (hb : w64 b = b) (hn : n = l.length) (sh : Nat → Prop) (w : World) : tRideR.rep sh w [.int .i64 o, .slice a n c, .int .i64 b] ⟨o, ⟨a, c, l⟩, b⟩ := by
  subst hn; exact ⟨[_], [_, _], rfl, ⟨rfl, ho⟩, [_], [_], rfl, rfl, ⟨rfl, hb⟩⟩
theorem rideR_rng {b : RideR} {sh : Nat → Prop} {w : World} {cs : List Value} (h : tRideR.rep sh w cs b) : w64 b.Out = b.Out ∧ w64 b.Back = b.Back := by
  obtain ⟨_, _, _, h1, _, _, _, _, h2⟩ := h; exact ⟨h1.2, h2.2⟩
abbrev inI : Row Int → Ent := inr ty_i64 t64
abbrev inR : RideR → Ent := fun q => own ty_i64 t64 q.r.a q.r.c q.r.l
structure Times0 where
  t : Row (Row Int)
  b : Row RideR
def Times0.y (g : Times0) : Times := ⟨g.t.l.map (·.l), g.b.l.map RideR.q⟩
def Times0.p (g : Times0) : HP := ⟨(g.t.a, g.t.c), (g.b.a, g.b.c)⟩
@[reducible] def cT0 (g : Times0) : List Value := [.slice g.t.a g.t.l.length g.t.c, .slice g.b.a g.b.l.length g.b.c]
theorem cT0_eq (g : Times0) : cT0 g = cT g.y g.p := by simp [Times0.y, Times0.p]
@[reducible] def wT0 (g : Times0) (W : List Ent) : List Ent :=
  own ty_s_i64 (tH Int) g.t.a g.t.c g.t.l :: grp (g.t.l.map inI) :: own ty_clock_Ride tRideR g.b.a g.b.c g.b.l :: grp (g.b.l.map inR) :: W
theorem rep_ride0 (sh : Nat → Prop) (w : World) (cs : List Value) (x : RideR) (h : tRideR.rep sh w cs x) (h2 : (inR x).P sh w) : tRide.rep (fun b => sh b ∨ b ∈ (inR x).fp) w cs x.q := by
  obtain ⟨c1, c2, e, h3, d1, d2, e2, h4, h5⟩ := h
  exact ⟨c1, c2, e, h3, d1, d2, e2, ⟨x.r.a, x.r.c, h4, own_slice h2⟩, h5⟩
/-- few times -/
structure TimesSm (g : Times0) : Prop where
  t : g.t.l.length ≤ 3000
  b : g.b.l.length ≤ 3000
  ts : ∀ k ∈ g.t.l, k.l.length ≤ 3000
  bs : ∀ k ∈ g.b.l, k.r.l.length ≤ 3000
end Go.Proofs.Ytdeacehacndopaa

namespace Go.Proofs.Ytdeacehacndopaa
open Go.RowKit

set_option maxRecDepth 20000 in
theorem soon_spec (x : Instance) (p : HI) (y : Plan) (r : HP) (hI : OkI x) (hx : Sq x) (hst : Sited x y.Trucks) (hsv : Served x y.Bikes) (hsm : PlanSm y) (sh : Nat → Prop) (w : World) (h : Holds ⟨0, w, [], sh⟩ [] (rP y r (rI x p [])) w) :
    Calls Pr fn_law18_Soon #[.agg (cI x p).toArray, .agg (cP y r).toArray] w fun e w' => ∃ g : { g : Times0 // TimesSm g }, e = .returned (.agg (cT0 g.1).toArray) ∧ Holds ⟨0, w, [], sh⟩ (wT0 g.1 []) [] w' := by
  have hx1 := hx.s
  have hx2 := hx.u
  have hxn := hx.n
  have hy1 := hsm.t
  have hy2 := hsm.b
  refine Calls.of_go (args := [_, _]) fn_law18_Soon_f rfl rfl rfl h ?_
  refine GoC.seq ?_
  refine GoC.region ?_
  refine GoL.x (op_box rfl rfl) ?_
  rintro _ _ _ ⟨b2, rfl, rfl, rfl⟩
  refine GoL.x (op_box rfl rfl) ?_
  rintro _ _ _ ⟨b3, rfl, rfl, rfl⟩
  refine GoL.x (op_alloc) ?_
  rintro _ _ _ ⟨b4, rfl, rfl, rfl⟩
  refine GoL.nil .next ?_
  refine GoC.seq ?_
  refine GoC.region ?_
  refine GoL.x (op_alloc) ?_
  rintro _ _ _ ⟨b5, rfl, rfl, rfl⟩
  refine GoL.nil .next ?_
  refine GoC.seq ?_
  refine GoC.region ?_
  refine GoL.q (op_fieldAddr rfl) ?_
  refine GoL.q (op_load rfl rfl) ?_
  refine GoL.q (op_len rfl) ?_
  refine GoL.x (op_make (ty := t64) (0 : Int) (fun _ _ => ⟨rfl, rfl⟩) rfl (by omega) hI.s) ?_
  rintro _ _ _ ⟨b24, rfl, rfl, rfl⟩
  refine GoL.q (op_assign rfl) ?_
  refine GoL.nil .next ?_
  refine GoC.seq ?_
  refine GoC.seq ?_
  refine GoC.region ?_
  refine GoL.q (op_fieldAddr rfl) ?_
  refine GoL.q (op_load rfl rfl) ?_
  refine GoL.q (op_len rfl) ?_
  refine GoL.q (op_move rfl) ?_
  refine GoL.nil .next ?_
  refine GoC.block ?_
  refine GoC.grpNil inI ?_
  refine GoC.ownNil ty_s_i64 (tH Int) ?_
  refine GoC.loop (σ := Nat × Row (Row Int) × List Int) (fun s => [(28, .int .i64 (s.1 : Int))]) [(2, _), (3, _), (4, _), (5, _), (6, _), (26, _), (27, _)] (fun s => [own ty_s_i64 (tH Int) s.2.1.a s.2.1.c s.2.1.l, grp (s.2.1.l.map inI), own ty_i64 t64 (some ⟨b24, 0, none⟩) x.Sats.length s.2.2, cel b5 ty_clock_Times [.slice s.2.1.a s.2.1.l.length s.2.1.c, .slice none 0 0], cel b4 ty_clock_Times [.slice none 0 0, .slice none 0 0], cel b3 ty_plan_Plan (cP y r), cel b2 ty_inst_Instance (cI x p)]) (fun s => _) (fun s => s.1 ≤ y.Trucks.length ∧ (s.2.1.l.length ≤ s.1 ∧ s.2.2.length = x.Sats.length ∧ ∀ q ∈ s.2.1.l, q.l.length ≤ 3000)) (fun s => y.Trucks.length - s.1) (0, ⟨none, 0, []⟩, List.replicate x.Sats.length 0) ⟨by simp, by simp, by simp, by simp⟩ ⟨rfl, rfl, rfl, rfl, rfl, rfl, rfl, rfl, trivial⟩ (fun _ h => h) ?_
  intro s ⟨hs1, hs2⟩
  refine GoC.seq ?_
  refine GoC.region ?_
  refine GoL.q (op_lss rfl rfl) ?_
  refine GoL.nil .next ?_
  refine GoC.seq ?_
  refine GoC.cond rfl (fun hc0 => ?_) (fun hc0 => ?_)
  · have hlt : s.1 < y.Trucks.length := by simpa using hc0
    refine GoC.skipTo .next ?_
    refine GoC.seq ?_
    refine GoC.block ?_
    refine GoC.seq ?_
    refine GoC.openR (n := 1) r.t.1 s.1 hlt (fun q1 hq1 => ?_)
    refine GoC.region ?_
    refine GoL.q (op_indexR rfl rfl rfl (by first | assumption | omega)) ?_
    refine GoL.q (op_loadEA rfl rfl) ?_
    refine GoL.x (op_alloc) ?_
    rintro _ _ _ ⟨b8, rfl, rfl, rfl⟩
    refine GoL.y0 (op_store (cs' := [.slice q1.1 y.Trucks[s.1].Stops.length q1.2]) rfl rfl rfl rfl (by simp [Value.oneCell']) (Nat.le_of_ble_eq_true rfl) rfl) ?_
    rintro _ _ _ ⟨rfl, rfl, rfl⟩
    refine GoL.nil .next ?_
    refine GoC.seq ?_
    refine GoC.region ?_
    refine GoL.q (op_assign rfl) ?_
    refine GoL.q (op_assign rfl) ?_
    refine GoL.nil .next ?_
    refine GoC.seq ?_
    refine GoC.region ?_
    refine GoL.q (op_assign rfl) ?_
    refine GoL.nil .next ?_
    refine GoC.seq ?_
    refine GoC.seq ?_
    refine GoC.region ?_
    refine GoL.q (op_fieldAddr rfl) ?_
    refine GoL.q (op_load rfl rfl) ?_
    refine GoL.q (op_len rfl) ?_
    refine GoL.q (op_move rfl) ?_
    refine GoL.nil .next ?_
    refine GoC.block ?_
    refine GoC.ownNil ty_i64 t64 ?_
    have htl := hsm.ts _ (List.getElem_mem hlt)
    refine GoC.arrange [own ty_i64 t64 none 0 [], own ty_s_i64 (tH Int) s.2.1.a s.2.1.c s.2.1.l, grp (s.2.1.l.map inI), own ty_i64 t64 (some ⟨b24, 0, none⟩) x.Sats.length s.2.2, cel b5 ty_clock_Times [.slice s.2.1.a s.2.1.l.length s.2.1.c, .slice none 0 0], cel b8 ty_plan_Truck [.slice q1.1 y.Trucks[s.1].Stops.length q1.2], cel b4 ty_clock_Times [.slice none 0 0, .slice none 0 0], cel b3 ty_plan_Plan (cP y r), cel b2 ty_inst_Instance (cI x p)] ?_
    refine GoC.loop (σ := Nat × Row Int × List Int × Int × Int) (fun u => [(35, .int .i64 (u.1 : Int)), (11, .slice u.2.1.a u.2.1.l.length u.2.1.c), (9, .int .i64 u.2.2.2.1), (10, .int .i64 u.2.2.2.2)]) [(28, _), (2, _), (3, _), (4, _), (5, _), (6, _), (26, _), (27, _), (33, _), (34, _)] (fun u => [own ty_i64 t64 u.2.1.a u.2.1.c u.2.1.l, own ty_s_i64 (tH Int) s.2.1.a s.2.1.c s.2.1.l, grp (s.2.1.l.map inI), own ty_i64 t64 (some ⟨b24, 0, none⟩) x.Sats.length u.2.2.1, cel b5 ty_clock_Times [.slice s.2.1.a s.2.1.l.length s.2.1.c, .slice none 0 0], cel b8 ty_plan_Truck [.slice q1.1 y.Trucks[s.1].Stops.length q1.2], cel b4 ty_clock_Times [.slice none 0 0, .slice none 0 0], cel b3 ty_plan_Plan (cP y r), cel b2 ty_inst_Instance (cI x p)]) (fun u => _) (fun u => u.1 ≤ y.Trucks[s.1].Stops.length ∧ (u.2.1.l.length ≤ u.1 ∧ u.2.2.1.length = x.Sats.length ∧ 0 ≤ u.2.2.2.2 ∧ u.2.2.2.2 < x.Time.length)) (fun u => y.Trucks[s.1].Stops.length - u.1) (0, ⟨none, 0, []⟩, s.2.2, 0, 0) ⟨by simp, by simp, hs2.2.1, by simp, by simp only; omega⟩ ⟨rfl, rfl, rfl, rfl, rfl, rfl, rfl, rfl, rfl, rfl, rfl, rfl, rfl, rfl, trivial⟩ (fun _ h => h) ?_
    intro u ⟨hu1, hu2⟩
    refine GoC.seq ?_
    refine GoC.region ?_
    refine GoL.q (op_lss rfl rfl) ?_
    refine GoL.nil .next ?_
    refine GoC.seq ?_
    refine GoC.cond rfl (fun hc1 => ?_) (fun hc1 => ?_)
    · have hlt2 : u.1 < y.Trucks[s.1].Stops.length := by simpa using hc1
      refine GoC.skipTo .next ?_
      refine GoC.seq ?_
      refine GoC.block ?_
      refine GoC.seq ?_
      refine GoC.openR (n := 2) q1.1 u.1 hlt2 (fun q2 hq2 => ?_)
      have hss := hst _ (List.getElem_mem hlt) _ (List.getElem_mem hlt2)
      refine GoC.region ?_
      refine GoL.q (op_indexR rfl rfl rfl (by first | assumption | omega)) ?_
      refine GoL.q (op_loadEA rfl rfl) ?_
      refine GoL.x (op_alloc) ?_
      rintro _ _ _ ⟨b13, rfl, rfl, rfl⟩
      refine GoL.y0 (op_store (cs' := [.int .i64 y.Trucks[s.1].Stops[u.1].Sat, .int .i64 y.Trucks[s.1].Stops[u.1].Load]) rfl rfl rfl rfl (by simp [Value.oneCell']) (Nat.le_of_ble_eq_true rfl) rfl) ?_
      rintro _ _ _ ⟨rfl, rfl, rfl⟩
      refine GoL.nil .next ?_
      refine GoC.seq ?_
      have hn1 : u.2.2.2.2.toNat < x.Time.length := by omega
      refine GoC.openR (n := 1) p.t.1 u.2.2.2.2.toNat hn1 (fun q3 hq3 => ?_)
      have hn2 : 1 + y.Trucks[s.1].Stops[u.1].Sat.toNat < x.Time[u.2.2.2.2.toNat].length := by rw [hx.r]; omega
      refine GoC.openR (n := 1) q3.1 (1 + y.Trucks[s.1].Stops[u.1].Sat.toNat) hn2 (fun q4 hq4 => ?_)
      have hns0 : 0 ≤ ns y.Trucks[s.1].Stops[u.1].Sat := by rw [ns_eq hx hss]; omega
      have hns1 : ns y.Trucks[s.1].Stops[u.1].Sat < x.Time.length := by rw [ns_eq hx hss]; omega
      refine GoC.draw 16 [] [0, 1, 2, 3, 4, 5, 6, 7, 8, 9, 10, 11, 12, 13, 14, 15] (by kernel_rfl) Pr_mixed ?_
      refine Can.q rfl (op_move rfl) ?_
      refine Can.q rfl (op_fieldAddr rfl) ?_
      refine Can.q rfl (op_load rfl rfl) ?_
      refine Can.q rfl (op_move rfl) ?_
      refine Can.q rfl (op_indexR rfl rfl (Int.toNat_of_nonneg hu2.2.2.1).symm hn1) ?_
      refine Can.q rfl (op_loadE rfl rfl) ?_
      refine Can.q rfl (op_fieldAddr rfl) ?_
      refine Can.q rfl (op_load rfl rfl) ?_
      refine Can.q rfl (op_add rfl rfl) ?_
      refine Can.q rfl (op_indexR rfl rfl (ns_eq hx hss) hn2) ?_
      refine Can.q rfl (op_loadE rfl rfl) ?_
      refine Can.q rfl (op_add rfl rfl) ?_
      refine Can.q rfl (op_fieldAddr rfl) ?_
      refine Can.q rfl (op_load rfl rfl) ?_
      refine Can.q rfl (op_add rfl rfl) ?_
      refine Can.q rfl (op_assign rfl) ?_
      refine Can.nil rfl ?_
      refine GoL.q (op_assign rfl) ?_
      refine GoL.nil .next ?_
      refine GoC.sub (E' := [(35, _), (11, _), (9, _), (10, _), (28, _), (2, _), (3, _), (4, _), (5, _), (6, _), (26, _), (27, _), (33, _), (34, _), (13, _)]) ⟨rfl, rfl, rfl, rfl, rfl, rfl, rfl, rfl, rfl, rfl, rfl, rfl, rfl, rfl, rfl, trivial⟩ ?_
      refine GoC.seq ?_
      refine GoC.region ?_
      refine GoL.q (op_move rfl) ?_
      refine GoL.q (op_move rfl) ?_
      refine GoL.x (op_buildSlice1 rfl rfl rfl) ?_
      rintro _ _ _ ⟨b56, rfl, rfl, rfl⟩
      refine GoL.y (op_append1 ((w64 (u.2.2.2.1 + x.Time[u.2.2.2.2.toNat][1 + y.Trucks[s.1].Stops[u.1].Sat.toNat]))) rfl rfl (by rfl) (by intro _ _ _; exact ⟨rfl, w64_w64 _⟩) (by have := hu2.1; omega)) ?_
      rintro _ _ _ ⟨a57, c57, rfl, rfl, rfl⟩
      refine GoL.q (op_assign rfl) ?_
      refine GoL.nil .next ?_
      have hrl : y.Trucks[s.1].Stops[u.1].Sat.toNat < u.2.2.1.length := by rw [hu2.2.1]; omega
      have hsl : y.Trucks[s.1].Stops[u.1].Sat.toNat < x.Sats.length := by omega
      refine GoC.openR (n := 2) p.s.1 y.Trucks[s.1].Stops[u.1].Sat.toNat hsl (fun q5 hq5 => ?_)
      refine GoC.own64 (some ⟨b24, 0, none⟩) (fun hrw => ?_)
      refine GoC.draw 18 [] [0, 1, 2, 3, 4, 5, 6, 7, 8, 9, 10, 11, 12, 13, 14, 15, 16, 17] (by kernel_rfl) Pr_mixed ?_
      refine Can.q rfl (op_move rfl) ?_
      refine Can.q rfl (op_fieldAddr rfl) ?_
      refine Can.q rfl (op_load rfl rfl) ?_
      refine Can.q rfl (op_move rfl) ?_
      refine Can.q rfl (op_fieldAddr rfl) ?_
      refine Can.q rfl (op_load rfl rfl) ?_
      refine Can.q rfl (op_indexO rfl rfl (Int.toNat_of_nonneg hss.1).symm hrl (by first | rfl | omega | (simp only [List.length_set]; omega))) ?_
      refine Can.q rfl (op_loadO rfl (by intro _ _ _ _ h; exact h.1) (by first | assumption | omega) rfl) ?_
      refine Can.q rfl (op_move rfl) ?_
      refine Can.q rfl (op_fieldAddr rfl) ?_
      refine Can.q rfl (op_load rfl rfl) ?_
      refine Can.q rfl (op_fieldAddr rfl) ?_
      refine Can.q rfl (op_load rfl rfl) ?_
      refine Can.q rfl (op_indexR rfl rfl (Int.toNat_of_nonneg hss.1).symm hsl) ?_
      refine Can.q rfl (op_fieldAddrE rfl) ?_
      refine Can.q rfl (op_loadF rfl rfl) ?_
      refine Can.q rfl (op_add rfl rfl) ?_
      refine Can.q rfl (op_max rfl rfl) ?_
      refine Can.nil rfl ?_
      refine GoL.q (op_indexO rfl rfl (Int.toNat_of_nonneg hss.1).symm hrl (by first | rfl | omega | (simp only [List.length_set]; omega))) ?_
      refine GoL.y0 (op_storeO (xv := (max (u.2.2.1[y.Trucks[s.1].Stops[u.1].Sat.toNat]) (w64 ((w64 (u.2.2.2.1 + x.Time[u.2.2.2.2.toNat][1 + y.Trucks[s.1].Stops[u.1].Sat.toNat])) + x.Sats[y.Trucks[s.1].Stops[u.1].Sat.toNat].Hold)))) rfl rfl hrl (by intro _ _; exact ⟨rfl, i64_max (hrw _ (List.getElem_mem hrl)) (w64_i _)⟩)) ?_
      rintro _ _ _ ⟨rfl, rfl, rfl⟩
      refine GoL.nil (.blockNormal (.next)) ?_
      refine GoC.sub (E' := [(35, _), (11, _), (9, _), (10, _), (28, _), (2, _), (3, _), (4, _), (5, _), (6, _), (26, _), (27, _), (33, _), (34, _)]) ⟨rfl, rfl, rfl, rfl, rfl, rfl, rfl, rfl, rfl, rfl, rfl, rfl, rfl, rfl, trivial⟩ ?_
      refine GoC.region ?_
      refine GoL.q (op_inc rfl (by omega)) ?_
      refine GoL.q (op_move rfl) ?_
      exact GoL.again (u.1 + 1, ⟨a57, c57, u.2.1.l ++ [(w64 (u.2.2.2.1 + x.Time[u.2.2.2.2.toNat][1 + y.Trucks[s.1].Stops[u.1].Sat.toNat]))]⟩, u.2.2.1.set y.Trucks[s.1].Stops[u.1].Sat.toNat (max (u.2.2.1[y.Trucks[s.1].Stops[u.1].Sat.toNat]) (w64 ((w64 (u.2.2.2.1 + x.Time[u.2.2.2.2.toNat][1 + y.Trucks[s.1].Stops[u.1].Sat.toNat])) + x.Sats[y.Trucks[s.1].Stops[u.1].Sat.toNat].Hold))), (w64 (u.2.2.2.1 + x.Time[u.2.2.2.2.toNat][1 + y.Trucks[s.1].Stops[u.1].Sat.toNat])), ns y.Trucks[s.1].Stops[u.1].Sat) ⟨by omega, by simp only [List.length_append, List.length_singleton]; have := hu2.1; omega, by simpa using hu2.2.1, hns0, hns1⟩ (by simp only; omega) ⟨rfl, rfl, rfl, rfl, rfl, rfl, rfl, rfl, rfl, rfl, rfl, rfl, rfl, rfl, trivial⟩
    · have hge2 : y.Trucks[s.1].Stops.length ≤ u.1 := by simpa using hc1
      refine GoC.exit (.thenExit (.thenExit (.blockSame (.next)))) ?_
      refine GoC.region ?_
      refine GoL.q (op_fieldAddr rfl) ?_
      refine GoL.q (op_load rfl rfl) ?_
      refine GoL.q (op_move rfl) ?_
      refine GoL.x (op_buildSlice1 rfl rfl rfl) ?_
      rintro _ _ _ ⟨b81, rfl, rfl, rfl⟩
      refine GoL.y (op_append1 ((⟨u.2.1.a, u.2.1.c, u.2.1.l⟩ : Row Int)) rfl rfl (by rfl) (by intro _ _ _; rfl) (by have := hs2.1; omega)) ?_
      rintro _ _ _ ⟨a82, c82, rfl, rfl, rfl⟩
      refine GoL.pushEnd (f := inI) s.2.1.l (⟨u.2.1.a, u.2.1.c, u.2.1.l⟩ : Row Int) ?_
      refine GoL.q (op_fieldAddr rfl) ?_
      refine GoL.y0 (op_store (cs' := [.slice a82 (s.2.1.l ++ [(⟨u.2.1.a, u.2.1.c, u.2.1.l⟩ : Row Int)]).length c82, .slice none 0 0]) rfl rfl rfl rfl (by simp [Value.oneCell']) (Nat.le_of_ble_eq_true rfl) rfl) ?_
      rintro _ _ _ ⟨rfl, rfl, rfl⟩
      refine GoL.nil (.blockNormal (.next)) ?_
      refine GoC.region ?_
      refine GoL.q (op_inc rfl (by omega)) ?_
      refine GoL.q (op_move rfl) ?_
      exact GoL.again (s.1 + 1, ⟨a82, c82, s.2.1.l ++ [(⟨u.2.1.a, u.2.1.c, u.2.1.l⟩ : Row Int)]⟩, u.2.2.1) ⟨by omega, by simp only [List.length_append, List.length_singleton]; have := hs2.1; omega, hu2.2.1, fun q hq => by rcases List.mem_append.1 hq with hq | hq; exact hs2.2.2 q hq; simp only [List.mem_singleton] at hq; subst hq; have := hu2.1; have := hsm.ts _ (List.getElem_mem hlt); simp only; omega⟩ (by simp only; omega) ⟨rfl, rfl, rfl, rfl, rfl, rfl, rfl, rfl, trivial⟩
  · have hge : y.Trucks.length ≤ s.1 := by simpa using hc0
    refine GoC.exit (.thenExit (.thenExit (.blockSame (.next)))) ?_
    refine GoC.seq ?_
    refine GoC.seq ?_
    refine GoC.region ?_
    refine GoL.q (op_fieldAddr rfl) ?_
    refine GoL.q (op_load rfl rfl) ?_
    refine GoL.q (op_len rfl) ?_
    refine GoL.q (op_move rfl) ?_
    refine GoL.nil .next ?_
    refine GoC.block ?_
    refine GoC.grpNil inR ?_
    refine GoC.ownNil ty_clock_Ride tRideR ?_
    refine GoC.loop (σ := Nat × Row RideR) (fun v => [(88, .int .i64 (v.1 : Int))]) [(2, _), (4, _), (5, _), (6, _), (86, _), (87, _)] (fun v => [own ty_clock_Ride tRideR v.2.a v.2.c v.2.l, grp (v.2.l.map inR), own ty_s_i64 (tH Int) s.2.1.a s.2.1.c s.2.1.l, grp (s.2.1.l.map inI), own ty_i64 t64 (some ⟨b24, 0, none⟩) x.Sats.length s.2.2, cel b5 ty_clock_Times [.slice s.2.1.a s.2.1.l.length s.2.1.c, .slice v.2.a v.2.l.length v.2.c], cel b4 ty_clock_Times [.slice none 0 0, .slice none 0 0], cel b3 ty_plan_Plan (cP y r), cel b2 ty_inst_Instance (cI x p)]) (fun v => _) (fun v => v.1 ≤ y.Bikes.length ∧ (v.2.l.length ≤ v.1 ∧ ∀ q ∈ v.2.l, q.r.l.length ≤ 3000)) (fun v => y.Bikes.length - v.1) (0, ⟨none, 0, []⟩) ⟨by simp, by simp, by simp⟩ ⟨rfl, rfl, rfl, rfl, rfl, rfl, rfl, trivial⟩ (fun _ h => h) ?_
    intro v ⟨hv1, hv2⟩
    refine GoC.seq ?_
    refine GoC.region ?_
    refine GoL.q (op_lss rfl rfl) ?_
    refine GoL.nil .next ?_
    refine GoC.seq ?_
    refine GoC.cond rfl (fun hc2 => ?_) (fun hc2 => ?_)
    · have hlt3 : v.1 < y.Bikes.length := by simpa using hc2
      refine GoC.skipTo .next ?_
      refine GoC.seq ?_
      refine GoC.block ?_
      refine GoC.seq ?_
      refine GoC.openR (n := 2) r.b.1 v.1 hlt3 (fun q1 hq1 => ?_)
      have hbb := hsv _ (List.getElem_mem hlt3)
      refine GoC.region ?_
      refine GoL.q (op_indexR rfl rfl rfl (by first | assumption | omega)) ?_
      refine GoL.q (op_loadEA rfl rfl) ?_
      refine GoL.x (op_alloc) ?_
      rintro _ _ _ ⟨b15, rfl, rfl, rfl⟩
      refine GoL.y0 (op_store (cs' := [.int .i64 y.Bikes[v.1].Sat, .slice q1.2.1 y.Bikes[v.1].Stops.length q1.2.2]) rfl rfl rfl rfl (by simp [Value.oneCell']) (Nat.le_of_ble_eq_true rfl) rfl) ?_
      rintro _ _ _ ⟨rfl, rfl, rfl⟩
      refine GoL.nil .next ?_
      refine GoC.seq ?_
      have hbl : y.Bikes[v.1].Sat.toNat < s.2.2.length := by rw [hs2.2.1]; omega
      refine GoC.own64 (some ⟨b24, 0, none⟩) (fun hrw => ?_)
      refine GoC.region ?_
      refine GoL.q (op_move rfl) ?_
      refine GoL.q (op_fieldAddr rfl) ?_
      refine GoL.q (op_load rfl rfl) ?_
      refine GoL.q (op_indexO rfl rfl (Int.toNat_of_nonneg hbb.1.1).symm hbl (by first | rfl | omega | (simp only [List.length_set]; omega))) ?_
      refine GoL.q (op_loadO rfl (by intro _ _ _ _ h; exact h.1) (by first | assumption | omega) rfl) ?_
      refine GoL.q (op_build1 ([.int .i64 s.2.2[y.Bikes[v.1].Sat.toNat], .slice none 0 0, .int .i64 0]) rfl rfl) ?_
      refine GoL.x (op_alloc) ?_
      rintro _ _ _ ⟨b16, rfl, rfl, rfl⟩
      refine GoL.y0 (op_store (cs' := [.int .i64 s.2.2[y.Bikes[v.1].Sat.toNat], .slice none 0 0, .int .i64 0]) rfl rfl rfl rfl (by simp [Value.oneCell']) (Nat.le_of_ble_eq_true rfl) rfl) ?_
      rintro _ _ _ ⟨rfl, rfl, rfl⟩
      refine GoL.nil .next ?_
      refine GoC.seq ?_
      refine GoC.draw 6 [] [0, 1, 2, 3, 4, 5] (by kernel_rfl) Pr_mixed ?_
      refine Can.q rfl (op_fieldAddr rfl) ?_
      refine Can.q rfl (op_load rfl rfl) ?_
      refine Can.q rfl (op_fieldAddr rfl) ?_
      refine Can.q rfl (op_load rfl rfl) ?_
      refine Can.q rfl (op_add rfl rfl) ?_
      refine Can.q rfl (op_assign rfl) ?_
      refine Can.nil rfl ?_
      refine GoL.q (op_assign rfl) ?_
      refine GoL.nil .next ?_
      refine GoC.seq ?_
      refine GoC.seq ?_
      refine GoC.region ?_
      refine GoL.q (op_fieldAddr rfl) ?_
      refine GoL.q (op_load rfl rfl) ?_
      refine GoL.q (op_len rfl) ?_
      refine GoL.q (op_move rfl) ?_
      refine GoL.nil .next ?_
      refine GoC.block ?_
      refine GoC.ownNil ty_i64 t64 ?_
      have hbl2 := hsm.bs _ (List.getElem_mem hlt3)
      have hnb0 : 0 ≤ ns y.Bikes[v.1].Sat := by rw [ns_eq hx hbb.1]; omega
      have hnb1 : ns y.Bikes[v.1].Sat < x.Time.length := by rw [ns_eq hx hbb.1]; omega
      refine GoC.loop (σ := Nat × Row Int × Int × Int) (fun z => [(106, .int .i64 (z.1 : Int)), (17, .int .i64 z.2.2.1), (18, .int .i64 z.2.2.2)]) [(88, _), (2, _), (4, _), (5, _), (6, _), (86, _), (87, _), (15, _), (16, _), (104, _), (105, _)] (fun z => [own ty_i64 t64 z.2.1.a z.2.1.c z.2.1.l, cel b16 ty_clock_Ride [.int .i64 s.2.2[y.Bikes[v.1].Sat.toNat], .slice z.2.1.a z.2.1.l.length z.2.1.c, .int .i64 0], cel b15 ty_plan_Bike [.int .i64 y.Bikes[v.1].Sat, .slice q1.2.1 y.Bikes[v.1].Stops.length q1.2.2], own ty_clock_Ride tRideR v.2.a v.2.c v.2.l, grp (v.2.l.map inR), own ty_s_i64 (tH Int) s.2.1.a s.2.1.c s.2.1.l, grp (s.2.1.l.map inI), own ty_i64 t64 (some ⟨b24, 0, none⟩) x.Sats.length s.2.2, cel b5 ty_clock_Times [.slice s.2.1.a s.2.1.l.length s.2.1.c, .slice v.2.a v.2.l.length v.2.c], cel b4 ty_clock_Times [.slice none 0 0, .slice none 0 0], cel b3 ty_plan_Plan (cP y r), cel b2 ty_inst_Instance (cI x p)]) (fun z => _) (fun z => z.1 ≤ y.Bikes[v.1].Stops.length ∧ (z.2.1.l.length ≤ z.1 ∧ 0 ≤ z.2.2.2 ∧ z.2.2.2 < x.Time.length)) (fun z => y.Bikes[v.1].Stops.length - z.1) (0, ⟨none, 0, []⟩, s.2.2[y.Bikes[v.1].Sat.toNat], ns y.Bikes[v.1].Sat) ⟨by simp, by simp, hnb0, hnb1⟩ ⟨rfl, rfl, rfl, rfl, rfl, rfl, rfl, rfl, rfl, rfl, rfl, rfl, rfl, rfl, trivial⟩ (fun _ h => h) ?_
      intro z ⟨hz1, hz2⟩
      refine GoC.seq ?_
      refine GoC.region ?_
      refine GoL.q (op_lss rfl rfl) ?_
      refine GoL.nil .next ?_
      refine GoC.seq ?_
      refine GoC.cond rfl (fun hc3 => ?_) (fun hc3 => ?_)
      · have hlt4 : z.1 < y.Bikes[v.1].Stops.length := by simpa using hc3
        refine GoC.skipTo .next ?_
        refine GoC.seq ?_
        refine GoC.block ?_
        refine GoC.seq ?_
        refine GoC.openR (n := 1) q1.2.1 z.1 hlt4 (fun q2 hq2 => ?_)
        have hcc := hbb.2 _ (List.getElem_mem hlt4)
        refine GoC.region ?_
        refine GoL.q (op_indexR rfl rfl rfl (by first | assumption | omega)) ?_
        refine GoL.q (op_loadE rfl rfl) ?_
        refine GoL.q (op_assign rfl) ?_
        refine GoL.nil .next ?_
        refine GoC.seq ?_
        have hn3 : z.2.2.2.toNat < x.Time.length := by omega
        refine GoC.openR (n := 1) p.t.1 z.2.2.2.toNat hn3 (fun q3 hq3 => ?_)
        have hn4 : 1 + x.Sats.length + y.Bikes[v.1].Stops[z.1].toNat < x.Time[z.2.2.2.toNat].length := by rw [hx.r]; omega
        refine GoC.openR (n := 1) q3.1 (1 + x.Sats.length + y.Bikes[v.1].Stops[z.1].toNat) hn4 (fun q4 hq4 => ?_)
        have hn5 : y.Bikes[v.1].Stops[z.1].toNat < x.Customers.length := by omega
        refine GoC.openR (n := 4) p.u.1 y.Bikes[v.1].Stops[z.1].toNat hn5 (fun q5 hq5 => ?_)
        have hnc0 : 0 ≤ nc x y.Bikes[v.1].Stops[z.1] := by rw [nc_eq hx hcc]; omega
        have hnc1 : nc x y.Bikes[v.1].Stops[z.1] < x.Time.length := by rw [nc_eq hx hcc]; omega
        refine GoC.draw 18 [] [0, 1, 2, 3, 4, 5, 6, 7, 8, 9, 10, 11, 12, 13, 14, 15, 16, 17] (by kernel_rfl) Pr_mixed ?_
        refine Can.q rfl (op_move rfl) ?_
        refine Can.q rfl (op_fieldAddr rfl) ?_
        refine Can.q rfl (op_load rfl rfl) ?_
        refine Can.q rfl (op_move rfl) ?_
        refine Can.q rfl (op_indexR rfl rfl (Int.toNat_of_nonneg hz2.2.1).symm hn3) ?_
        refine Can.q rfl (op_loadE rfl rfl) ?_
        refine Can.q rfl (op_loadA rfl rfl rfl) ?_
        refine Can.q rfl (op_move rfl) ?_
        refine Can.p rfl (op_callP rfl fun w _ => at11_spec x p _ w) ?_
        refine Can.q rfl (op_indexR rfl rfl (nc_eq hx hcc) hn4) ?_
        refine Can.q rfl (op_loadE rfl rfl) ?_
        refine Can.q rfl (op_add rfl rfl) ?_
        refine Can.q rfl (op_fieldAddr rfl) ?_
        refine Can.q rfl (op_load rfl rfl) ?_
        refine Can.q rfl (op_move rfl) ?_
        refine Can.q rfl (op_indexR rfl rfl (Int.toNat_of_nonneg hcc.1).symm hn5) ?_
        refine Can.q rfl (op_fieldAddrE rfl) ?_
        refine Can.q rfl (op_loadF rfl rfl) ?_
        refine Can.nil rfl ?_
        refine GoL.q (op_max rfl rfl) ?_
        refine GoL.q (op_assign rfl) ?_
        refine GoL.nil .next ?_
        refine GoC.sub (E' := [(106, _), (17, _), (18, _), (88, _), (2, _), (4, _), (5, _), (6, _), (86, _), (87, _), (15, _), (16, _), (104, _), (105, _), (20, _)]) ⟨rfl, rfl, rfl, rfl, rfl, rfl, rfl, rfl, rfl, rfl, rfl, rfl, rfl, rfl, rfl, trivial⟩ ?_
        refine GoC.seq ?_
        refine GoC.region ?_
        refine GoL.q (op_fieldAddr rfl) ?_
        refine GoL.q (op_load rfl rfl) ?_
        refine GoL.q (op_move rfl) ?_
        refine GoL.x (op_buildSlice1 rfl rfl rfl) ?_
        rintro _ _ _ ⟨b132, rfl, rfl, rfl⟩
        refine GoL.y (op_append1 ((max (w64 (z.2.2.1 + x.Time[z.2.2.2.toNat][1 + x.Sats.length + y.Bikes[v.1].Stops[z.1].toNat])) x.Customers[y.Bikes[v.1].Stops[z.1].toNat].Open)) rfl rfl (by rfl) (by intro _ _ _; exact ⟨rfl, i64_max (w64_i _) hq5.2.1⟩) (by have := hz2.1; omega)) ?_
        rintro _ _ _ ⟨a133, c133, rfl, rfl, rfl⟩
        refine GoL.q (op_fieldAddr rfl) ?_
        refine GoL.y0 (op_store (cs' := [.int .i64 s.2.2[y.Bikes[v.1].Sat.toNat], .slice a133 (z.2.1.l ++ [(max (w64 (z.2.2.1 + x.Time[z.2.2.2.toNat][1 + x.Sats.length + y.Bikes[v.1].Stops[z.1].toNat])) x.Customers[y.Bikes[v.1].Stops[z.1].toNat].Open)]).length c133, .int .i64 0]) rfl rfl rfl rfl (by simp [Value.oneCell']) (Nat.le_of_ble_eq_true rfl) rfl) ?_
        rintro _ _ _ ⟨rfl, rfl, rfl⟩
        refine GoL.nil .next ?_
        refine GoC.draw 11 [] [0, 1, 2, 3, 4, 5, 6, 7, 8, 9, 10] (by kernel_rfl) Pr_mixed ?_
        refine Can.q rfl (op_move rfl) ?_
        refine Can.q rfl (op_fieldAddr rfl) ?_
        refine Can.q rfl (op_load rfl rfl) ?_
        refine Can.q rfl (op_move rfl) ?_
        refine Can.q rfl (op_indexR rfl rfl (Int.toNat_of_nonneg hcc.1).symm hn5) ?_
        refine Can.q rfl (op_fieldAddrE rfl) ?_
        refine Can.q rfl (op_loadF rfl rfl) ?_
        refine Can.q rfl (op_add rfl rfl) ?_
        refine Can.q rfl (op_loadA rfl rfl rfl) ?_
        refine Can.q rfl (op_move rfl) ?_
        refine Can.p rfl (op_callP rfl fun w _ => at11_spec x p _ w) ?_
        refine Can.nil rfl ?_
        refine GoL.q (op_assign rfl) ?_
        refine GoL.q (op_assign rfl) ?_
        refine GoL.nil (.blockNormal (.next)) ?_
        refine GoC.sub (E' := [(106, _), (17, _), (18, _), (88, _), (2, _), (4, _), (5, _), (6, _), (86, _), (87, _), (15, _), (16, _), (104, _), (105, _)]) ⟨rfl, rfl, rfl, rfl, rfl, rfl, rfl, rfl, rfl, rfl, rfl, rfl, rfl, rfl, trivial⟩ ?_
        refine GoC.region ?_
        refine GoL.q (op_inc rfl (by omega)) ?_
        refine GoL.q (op_move rfl) ?_
        exact GoL.again (z.1 + 1, ⟨a133, c133, z.2.1.l ++ [(max (w64 (z.2.2.1 + x.Time[z.2.2.2.toNat][1 + x.Sats.length + y.Bikes[v.1].Stops[z.1].toNat])) x.Customers[y.Bikes[v.1].Stops[z.1].toNat].Open)]⟩, w64 ((max (w64 (z.2.2.1 + x.Time[z.2.2.2.toNat][1 + x.Sats.length + y.Bikes[v.1].Stops[z.1].toNat])) x.Customers[y.Bikes[v.1].Stops[z.1].toNat].Open) + x.Customers[y.Bikes[v.1].Stops[z.1].toNat].Stay), nc x y.Bikes[v.1].Stops[z.1]) ⟨by omega, by simp only [List.length_append, List.length_singleton]; have := hz2.1; omega, hnc0, hnc1⟩ (by simp only; omega) ⟨rfl, rfl, rfl, rfl, rfl, rfl, rfl, rfl, rfl, rfl, rfl, rfl, rfl, rfl, trivial⟩
      · have hge4 : y.Bikes[v.1].Stops.length ≤ z.1 := by simpa using hc3
        refine GoC.exit (.thenExit (.thenExit (.blockSame (.next)))) ?_
        refine GoC.seq ?_
        have hn6 : z.2.2.2.toNat < x.Time.length := by omega
        refine GoC.openR (n := 1) p.t.1 z.2.2.2.toNat hn6 (fun q3 hq3 => ?_)
        have hn7 : 1 + y.Bikes[v.1].Sat.toNat < x.Time[z.2.2.2.toNat].length := by rw [hx.r]; omega
        refine GoC.openR (n := 1) q3.1 (1 + y.Bikes[v.1].Sat.toNat) hn7 (fun q4 hq4 => ?_)
        refine GoC.draw 11 [] [0, 1, 2, 3, 4, 5, 6, 7, 8, 9, 10] (by kernel_rfl) Pr_mixed ?_
        refine Can.q rfl (op_move rfl) ?_
        refine Can.q rfl (op_fieldAddr rfl) ?_
        refine Can.q rfl (op_load rfl rfl) ?_
        refine Can.q rfl (op_move rfl) ?_
        refine Can.q rfl (op_indexR rfl rfl (Int.toNat_of_nonneg hz2.2.1).symm hn6) ?_
        refine Can.q rfl (op_loadE rfl rfl) ?_
        refine Can.q rfl (op_fieldAddr rfl) ?_
        refine Can.q rfl (op_load rfl rfl) ?_
        refine Can.q rfl (op_add rfl rfl) ?_
        refine Can.q rfl (op_indexR rfl rfl (ns_eq hx hbb.1) hn7) ?_
        refine Can.q rfl (op_loadE rfl rfl) ?_
        refine Can.nil rfl ?_
        refine GoL.q (op_add rfl rfl) ?_
        refine GoL.q (op_fieldAddr rfl) ?_
        refine GoL.y0 (op_store (cs' := [.int .i64 s.2.2[y.Bikes[v.1].Sat.toNat], .slice z.2.1.a z.2.1.l.length z.2.1.c, .int .i64 (w64 (z.2.2.1 + x.Time[z.2.2.2.toNat][1 + y.Bikes[v.1].Sat.toNat]))]) rfl rfl rfl rfl (by simp [Value.oneCell']) (Nat.le_of_ble_eq_true rfl) rfl) ?_
        rintro _ _ _ ⟨rfl, rfl, rfl⟩
        refine GoL.nil .next ?_
        refine GoC.region ?_
        refine GoL.q (op_fieldAddr rfl) ?_
        refine GoL.q (op_load rfl rfl) ?_
        refine GoL.q (op_loadA rfl rfl rfl) ?_
        refine GoL.x (op_buildSlice1 rfl rfl rfl) ?_
        rintro _ _ _ ⟨b163, rfl, rfl, rfl⟩
        refine GoL.y (op_append1 ((⟨s.2.2[y.Bikes[v.1].Sat.toNat], z.2.1, (w64 (z.2.2.1 + x.Time[z.2.2.2.toNat][1 + y.Bikes[v.1].Sat.toNat]))⟩ : RideR)) rfl rfl (by rfl) (by intro _ _ _; exact rep_rideR (hrw _ (List.getElem_mem hbl)) (w64_w64 _) rfl _ _) (by have := hv2.1; omega)) ?_
        rintro _ _ _ ⟨a164, c164, rfl, rfl, rfl⟩
        refine GoL.pushEnd (f := inR) v.2.l (⟨s.2.2[y.Bikes[v.1].Sat.toNat], z.2.1, (w64 (z.2.2.1 + x.Time[z.2.2.2.toNat][1 + y.Bikes[v.1].Sat.toNat]))⟩ : RideR) ?_
        refine GoL.q (op_fieldAddr rfl) ?_
        refine GoL.y0 (op_store (cs' := [.slice s.2.1.a s.2.1.l.length s.2.1.c, .slice a164 (v.2.l ++ [(⟨s.2.2[y.Bikes[v.1].Sat.toNat], z.2.1, (w64 (z.2.2.1 + x.Time[z.2.2.2.toNat][1 + y.Bikes[v.1].Sat.toNat]))⟩ : RideR)]).length c164]) rfl rfl rfl rfl (by simp [Value.oneCell']) (Nat.le_of_ble_eq_true rfl) rfl) ?_
        rintro _ _ _ ⟨rfl, rfl, rfl⟩
        refine GoL.nil (.blockNormal (.next)) ?_
        refine GoC.sub (E' := [(106, _), (17, _), (18, _), (88, _), (2, _), (4, _), (5, _), (6, _), (86, _), (87, _), (15, _), (16, _), (104, _), (105, _)]) ⟨rfl, rfl, rfl, rfl, rfl, rfl, rfl, rfl, rfl, rfl, rfl, rfl, rfl, rfl, trivial⟩ ?_
        refine GoC.region ?_
        refine GoL.q (op_inc rfl (by omega)) ?_
        refine GoL.q (op_move rfl) ?_
        exact GoL.again (v.1 + 1, ⟨a164, c164, v.2.l ++ [(⟨s.2.2[y.Bikes[v.1].Sat.toNat], z.2.1, (w64 (z.2.2.1 + x.Time[z.2.2.2.toNat][1 + y.Bikes[v.1].Sat.toNat]))⟩ : RideR)]⟩) ⟨by omega, by simp only [List.length_append, List.length_singleton]; have := hv2.1; omega, fun q hq => by rcases List.mem_append.1 hq with hq | hq; exact hv2.2 q hq; simp only [List.mem_singleton] at hq; subst hq; have := hz2.1; have := hsm.bs _ (List.getElem_mem hlt3); simp only; omega⟩ (by simp only; omega) ⟨rfl, rfl, rfl, rfl, rfl, rfl, rfl, trivial⟩
    · have hge3 : y.Bikes.length ≤ v.1 := by simpa using hc2
      refine GoC.exit (.thenExit (.thenExit (.blockSame (.next)))) ?_
      refine GoC.seq ?_
      refine GoC.region ?_
      refine GoL.q (op_loadA rfl rfl rfl) ?_
      refine GoL.y0 (op_store (cs' := [.slice s.2.1.a s.2.1.l.length s.2.1.c, .slice v.2.a v.2.l.length v.2.c]) rfl rfl rfl rfl (by simp [Value.oneCell']) (Nat.le_of_ble_eq_true rfl) rfl) ?_
      rintro _ _ _ ⟨rfl, rfl, rfl⟩
      refine GoL.nil .next ?_
      refine GoC.ret .here ?_
      refine doneC rfl rfl rfl ?_
      intro w' hw
      exact ⟨⟨⟨s.2.1, v.2⟩, by have := hs2.1; have := hs1; show s.2.1.l.length ≤ 3000; omega, by have := hv2.1; show v.2.l.length ≤ 3000; omega, hs2.2.2, hv2.2⟩, rfl, Holds.only (W' := wT0 ⟨s.2.1, v.2⟩ []) hw.n⟩
end Go.Proofs.Ytdeacehacndopaa

namespace Go.Proofs.Ytdeacehacndopaa
open Go.RowKit

section
variable {P : Program} {C : Cx} {E : Env} {W W' Wr : List Ent} {R : List RF} {Q : Exit → Act → World → Prop} {ops : Array Oper} {w : World}

/-- the elements read in another way -/
theorem Holds.reown {α β : Type} {T : TypeId} {ty : RTy α} {ty' : RTy β} {a : Option Addr} {c : Nat} {l : List α} (l' : List β) [hs : Split [own T ty a c l] W Wr] (hn : ty'.n = ty.n) (hl : l'.length = l.length)
    (hr : ∀ sh w cs (i : Nat) (h : i < l.length) (h' : i < l'.length), ty.rep sh w cs l[i] → ty'.rep sh w cs l'[i]) (h : Holds C W R w) : Holds C (own T ty' a c l' :: Wr) R w := by
  have h1 : Holds C (own T ty a c l :: Wr) R w := h.perm hs.perm
  refine h1.upd (e := own T ty a c l) (e' := own T ty' a c l') (Keep.refl _ _) (fun sh hm => ?_) (by cases a <;> simp [own]) (fun b hb => .inl hb)
  obtain ⟨xs, ho, hreps⟩ := hm.own _ (List.mem_cons_self ..)
  refine ⟨xs, by rw [hl, hn]; exact ho, fun i x hx => ?_⟩
  obtain ⟨hi, rfl⟩ := List.getElem?_eq_some_iff.1 hx
  have hi' : i < l.length := by omega
  have h2 := hr _ _ _ i hi' hi (hreps i l[i] (by simp [hi']))
  simpa only [slot, hn] using h2
theorem GoC.reown {α β : Type} {T : TypeId} {ty : RTy α} {ty' : RTy β} (a : Option Addr) {c : Nat} {l : List α} (l' : List β) {code : Code} [ho : HasOwn a W T ty c l] [hs : Split [own T ty a c l] W Wr] (hn : ty'.n = ty.n) (hl : l'.length = l.length)
    (hr : ∀ sh w cs (i : Nat) (h : i < l.length) (h' : i < l'.length), ty.rep sh w cs l[i] → ty'.rep sh w cs l'[i]) (h : GoC P C E (own T ty' a c l' :: Wr) R code Q) : GoC P C E W R code Q :=
  GoC.mem (fun _ hw => Holds.reown (T := T) (ty := ty) (a := a) (c := c) (l := l) l' hn hl hr hw) h
theorem GoL.reown {α β : Type} {T : TypeId} {ty : RTy α} {ty' : RTy β} (a : Option Addr) {c : Nat} {l : List α} (l' : List β) {code : List Oper} [ho : HasOwn a W T ty c l] [hs : Split [own T ty a c l] W Wr] (hn : ty'.n = ty.n) (hl : l'.length = l.length)
    (hr : ∀ sh w cs (i : Nat) (h : i < l.length) (h' : i < l'.length), ty.rep sh w cs l[i] → ty'.rep sh w cs l'[i]) (h : GoL P C ops E (own T ty' a c l' :: Wr) R code Q) : GoL P C ops E W R code Q :=
  GoL.mem (fun _ hw => Holds.reown (T := T) (ty := ty) (a := a) (c := c) (l := l) l' hn hl hr hw) h
/-- one element read in another way -/
theorem reset_rep {α : Type} {ty : RTy α} {l : List α} {k : Nat} {x : α} (hk : k < l.length) (hx : ∀ sh w cs, ty.rep sh w cs l[k] → ty.rep sh w cs x) :
    ∀ sh w cs (i : Nat) (h : i < l.length) (h' : i < (l.set k x).length), ty.rep sh w cs l[i] → ty.rep sh w cs (l.set k x)[i] := by
  intro sh w cs i h h' hr
  rw [List.getElem_set]
  split
  · rename_i e; subst e; exact hx _ _ _ hr
  · exact hr

/-- a literal of several -/
theorem op_buildSliceC {d : Option Tmp} {t u e : TypeId} {pos : String} {aft : Array Edge} {gd : Option (Nat × Bool)} {n sz b : Nat} {ps : List (Nat × Operand)} {vs : List (Nat × Value)} {zs : List Value} (cs : List Value) [ht : TSl P t e] [hz : TInfo P e sz b zs] (hp : evalPs E ps = some vs)
    (hf : Instr.fill (fun i => some (i * sz, sz)) ((Array.range (n * sz)).map fun x => zs.toArray[x % zs.toArray.size]!) vs = some cs.toArray) (h0 : Nat.blt 0 (n * sz) = true := by rfl) (hbig : Nat.ble (n * sz) 16777216 = true := by rfl) :
    OpX P C E W R ⟨d, .buildSlice t n ps.toArray, u, pos, aft, gd⟩ (fun v' W' R' => ∃ b, v' = .slice (some ⟨b, 0, none⟩) n n ∧ W' = cel b e cs :: W ∧ R' = R) := by
  refine op_buildSlice hp fun w => ?_
  obtain ⟨i, z, h1, h2, h3, h4, h5⟩ := hz.ex
  have h6 : ¬ (16777216 < n * sz) := by have := Nat.le_of_ble_eq_true hbig; omega
  have h7 : n * sz ≠ 0 := by simp [Nat.blt] at h0; omega
  simp only [Instr.buildSlice, Sem.run_bind, run_under ht.un, Result.andThen_ok, size_of_info h1, h3]
  rw [if_neg h6, if_neg h7]
  simp only [zeroValue, typeInfo, Sem.run_bind, run_prog, Result.andThen_ok, h1, h2, Sem.run_pure, h5, hf, newRow]
  simp
/-- a literal of none -/
theorem op_buildSlice0 {d : Option Tmp} {t u e : TypeId} {pos : String} {aft : Array Edge} {gd : Option (Nat × Bool)} {sz b : Nat} {zs : List Value} {α : Type} (ty : RTy α) [ht : TSl P t e] [hz : TInfo P e sz b zs] :
    OpX P C E W R ⟨d, .buildSlice t 0 #[], u, pos, aft, gd⟩ (fun v' W' R' => ∃ b, v' = .slice (some ⟨b, 0, none⟩) 0 0 ∧ W' = own e ty (some ⟨b, 0, none⟩) 0 [] :: W ∧ R' = R) := by
  intro a w hs
  obtain ⟨i, z, h1, h2, h3, h4, h5⟩ := hz.ex
  simp [execOp, Instr.buildSlice, run_under ht.un, size_of_info h1, Instr.fill, newRow, ResX]
  refine ⟨_, _, ⟨rfl, rfl⟩, hs.mem.add (Keep.alloc _ _) (fun sh _ => ⟨[], ⟨by simp, .inr ⟨_, 0, #[], rfl, Nat.zero_le _, (heap_new _ _).trans (by simp), Nat.le_refl _, by simp [maxLen], by simp, by simp⟩⟩, by simp⟩) (by simp [own]) (by simp [own]), Keep.alloc _ _⟩

/-- an entry that is written no more, from now on shared, where the facts help -/
theorem Holds.shareH {e : Ent} {r : RF} [hd : Del e W W'] (h : Holds C W R w) (hr : ∀ sh, (∀ r ∈ R, r.P sh w) → e.P sh w → r.P (fun b => sh b ∨ b ∈ e.fp) w) : Holds C W' (r :: R) w := by
  obtain ⟨sh0, hm0⟩ := h
  let e2 : Ent := ⟨e.fp, fun sh w => e.P sh w ∧ ∀ r ∈ R, r.P sh w, fun sh sh' w w' ⟨h1, h2⟩ hs hb hsb => ⟨e.loc _ _ _ _ h1 hs hb hsb, fun r hr => r.loc _ _ _ _ (h2 r hr) hs hsb⟩, fun sh w ⟨h1, _⟩ => e.lt _ _ h1⟩
  obtain ⟨l, q, h1, h2⟩ := hd.eq
  have h3 : Holds C (l ++ e2 :: q) R w := by
    subst h1
    refine ⟨sh0, fun x hx => ?_, ?_, ?_, ?_, hm0.facts, hm0.shlt, hm0.zone, hm0.keep⟩
    · rcases List.mem_append.1 hx with hx | hx
      · exact hm0.own x (by simp [hx])
      · rcases List.mem_cons.1 hx with rfl | hx
        · exact ⟨hm0.own e (by simp), hm0.facts⟩
        · exact hm0.own x (by simp [hx])
    · have := hm0.nodup; rw [fps_append, fps_cons] at this ⊢; exact this
    · have := hm0.sep; rw [fps_append, fps_cons] at this ⊢; exact this
    · have := hm0.may; rw [fps_append, fps_cons] at this ⊢; exact this
  have hd2 : Del e2 (l ++ e2 :: q) W' := ⟨⟨l, q, rfl, h2⟩⟩
  exact Holds.share (hd := hd2) h3 fun sh he => hr sh he.2 he.1

/-- a literal of two, from now on shared -/
theorem GoC.shareTwo {α : Type} {code : Code} (b : Nat) {T : TypeId} {cs : List Value} (ty : RTy α) (x1 x2 : α) {cs1 cs2 : List Value} [hc : HasCel b W T cs] [hd : Del (cel b T cs) W W'] (he : cs = cs1 ++ cs2)
    (hr : ∀ sh w, (∀ r ∈ R, r.P sh w) → ty.rep sh w cs1 x1 ∧ ty.rep sh w cs2 x2) (h : GoC P C E W' (ro ty (some ⟨b, 0, none⟩) 2 [x1, x2] :: R) code Q) : GoC P C E W R code Q := by
  refine GoC.mem (fun w hw => ?_) h
  refine hw.shareH (e := cel b T cs) (r := ro ty (some ⟨b, 0, none⟩) 2 [x1, x2]) fun sh hR hb => ?_
  obtain ⟨h1, h2⟩ := hr sh w hR
  have l1 := ty.len _ _ _ _ h1
  have l2 := ty.len _ _ _ _ h2
  refine ⟨Nat.le_refl _, by simp [maxLen], by simp, fun i x hx => ?_⟩
  have hi : i = 0 ∧ x = x1 ∨ i = 1 ∧ x = x2 := by
    match i, hx with
    | 0, hx => simp at hx; exact .inl ⟨rfl, hx.symm⟩
    | 1, hx => simp at hx; exact .inr ⟨rfl, hx.symm⟩
    | i + 2, hx => simp at hx
  rcases hi with ⟨rfl, rfl⟩ | ⟨rfl, rfl⟩
  · refine ⟨b, 0, cs1, rfl, .inr (by simp [cel]), fun j v hj => ?_, ty.loc _ _ _ _ _ _ h1 (fun _ h => .inl h) (fun _ _ => rfl)⟩
    rw [cell_of_cel hb, he]
    simp only [Nat.zero_mul, Nat.zero_add]
    rw [List.getElem?_append_left (List.getElem?_eq_some_iff.1 hj).1]; exact hj
  · refine ⟨b, 0, cs2, rfl, .inr (by simp [cel]), fun j v hj => ?_, ty.loc _ _ _ _ _ _ h2 (fun _ h => .inl h) (fun _ _ => rfl)⟩
    rw [cell_of_cel hb, he]
    simp only [Nat.one_mul, Nat.zero_add]
    rw [List.getElem?_append_right (by omega), l1, Nat.add_sub_cancel_left]; exact hj

/-- what is known of each element -/
theorem GoC.roAll {α σ : Type} {ty : RTy α} {F : α → σ → List Value} {G : α → σ → List RF → List RF} {H : α → Prop} (a : Option Addr) {c : Nat} {l : List α} [hr : HasRo a R ty c l] [ho : Open ty σ F G H] {code : Code}
    (k : (∀ x ∈ l, H x) → GoC P C E W R code Q) : GoC P C E W R code Q := by
  intro a' w hs
  refine k (fun x hx => ?_) a' w hs
  obtain ⟨i, hi, rfl⟩ := List.getElem_of_mem hx
  exact (hs.mem.openR (hr := hr) (ho := ho) (a := a) (n := ty.n) hi rfl).1
end
end Go.Proofs.Ytdeacehacndopaa

namespace Go.Proofs.Ytdeacehacndopaa
open Go.RowKit

set_option maxRecDepth 20000 in
theorem put_spec {α : Type} {T : TypeId} {ty : RTy α} {F : α → List Value} [hC : Cl ty F] (a : Option Addr) (c : Nat) (l : List α) (k off m : Nat) (upd : Int → α) (hk : k < l.length) (hm : ty.n = m) (hoff : off < m)
    (hupd : ∀ v, w64 v = v → ∀ sh w, ty.rep sh w (F l[k]) l[k] → ty.rep sh w ((F l[k]).set off (.int .i64 v)) (upd v)) (raw : List Int) (ar : Option Addr) (cr : Nat) (bn br : Nat) (n : Int) (hn : 0 ≤ n)
    (sh : Nat → Prop) (w : World) (h : Holds ⟨0, w, fps [own T ty a c l, cel bn 3 [.int .i64 n]], sh⟩ [own T ty a c l, cel bn 3 [.int .i64 n]] [ro t64 ar cr raw, cells (some ⟨br, 0, none⟩) 0 [.slice ar raw.length cr]] w) :
    Calls Pr fn_law18_ClockAny_c1 #[.pointer (some (eaddr a (k * m + off))), .pointer (some ⟨bn, 0, none⟩), .pointer (some ⟨br, 0, none⟩)] w fun e w' => ∃ g : { z : α // z = l[k] ∨ ∃ v, w64 v = v ∧ z = upd v }, e = .returned (.tuple #[]) ∧ Holds ⟨0, w, fps [own T ty a c l, cel bn 3 [.int .i64 n]], sh⟩ [own T ty a c (l.set k g.1), cel bn 3 [.int .i64 (w64 (n + 2))]] [] w' := by
  refine Calls.of_go (args := [_, _, _]) fn_law18_ClockAny_c1_f rfl rfl rfl h ?_
  refine GoC.seq ?_
  refine GoC.seq ?_
  refine GoC.region ?_
  refine GoL.q (op_load rfl rfl) ?_
  refine GoL.q (op_loadB rfl rfl) ?_
  refine GoL.q (op_len rfl) ?_
  refine GoL.q (op_lss rfl rfl) ?_
  refine GoL.nil .next ?_
  refine GoC.cond rfl (fun hc0 => ?_) (fun hc0 => ?_)
  · have hlt := of_decide_eq_true hc0
    have hnl : n.toNat < raw.length := by omega
    refine GoC.openR (n := 1) ar n.toNat hnl (fun _ hq => ?_)
    refine GoC.region ?_
    refine GoL.q (op_move rfl) ?_
    refine GoL.q (op_loadB rfl rfl) ?_
    refine GoL.q (op_load rfl rfl) ?_
    refine GoL.q (op_indexR rfl rfl (Int.toNat_of_nonneg hn).symm hnl) ?_
    refine GoL.q (op_loadE rfl rfl) ?_
    refine GoL.q (op_nilCheck rfl) ?_
    refine GoL.y0 (op_storeOF k off (upd raw[n.toNat]) hk rfl rfl rfl (hupd _ hq) hoff hm rfl) ?_
    rintro _ _ _ ⟨rfl, rfl, rfl⟩
    refine GoL.nil .next ?_
    refine GoC.region ?_
    refine GoL.q (op_load rfl rfl) ?_
    refine GoL.q (op_add rfl rfl) ?_
    refine GoL.y0 (op_store (cs' := [.int .i64 (w64 (n + 2))]) rfl rfl rfl rfl (by simp [Value.oneCell']) (Nat.le_of_ble_eq_true rfl) rfl) ?_
    rintro _ _ _ ⟨rfl, rfl, rfl⟩
    refine GoL.nilTo .here ?_
    refine done0 rfl ?_
    intro w' hw
    exact ⟨⟨_, .inr ⟨_, hq, rfl⟩⟩, rfl, hw.n.drop (SubL.sub) (by simp)⟩
  · skip
    refine GoC.skipTo .next ?_
    refine GoC.region ?_
    refine GoL.q (op_load rfl rfl) ?_
    refine GoL.q (op_add rfl rfl) ?_
    refine GoL.y0 (op_store (cs' := [.int .i64 (w64 (n + 2))]) rfl rfl rfl rfl (by simp [Value.oneCell']) (Nat.le_of_ble_eq_true rfl) rfl) ?_
    rintro _ _ _ ⟨rfl, rfl, rfl⟩
    refine GoL.nilTo .here ?_
    refine done0 rfl ?_
    intro w' hw
    exact ⟨⟨l[k], .inl rfl⟩, rfl, by rw [List.set_getElem_self]; exact hw.n.drop (SubL.sub) (by simp)⟩
end Go.Proofs.Ytdeacehacndopaa

namespace Go.Proofs.Ytdeacehacndopaa

theorem mayF_iff {n l : Int} : mayF n l = true ↔ l ≤ n ∧ n ≤ 1000000000 := by simp [mayF]
theorem rowF_iff {i : Int} : ∀ {r : List Int} {k : Int} {ok : Bool}, rowF i r k ok = true ↔ ok = true ∧ ∀ (j : Nat) (h : j < r.length), (0 ≤ r[j] ∧ r[j] ≤ 1000000000) ∧ (i = k + j → r[j] = 0)
  | [], k, ok => by simp [rowF]
  | n :: r, k, ok => by
    rw [rowF, rowF_iff]
    constructor
    · rintro ⟨h1, h2⟩
      simp only [cellF, Bool.and_eq_true, mayF_iff, Bool.or_eq_true, Bool.not_eq_true', decide_eq_false_iff_not, decide_eq_true_eq] at h1
      refine ⟨h1.1.1, fun j hj => ?_⟩
      cases j with
      | zero => exact ⟨h1.1.2, fun e => h1.2.resolve_left (by simpa using e)⟩
      | succ j =>
        obtain ⟨h3, h4⟩ := h2 j (by simpa using hj)
        exact ⟨by simpa using h3, fun e => by simpa using h4 (by omega)⟩
    · rintro ⟨h1, h2⟩
      refine ⟨?_, fun j hj => ?_⟩
      · have h3 := h2 0 (by simp)
        simp only [cellF, Bool.and_eq_true, mayF_iff, Bool.or_eq_true, Bool.not_eq_true', decide_eq_false_iff_not, decide_eq_true_eq]
        refine ⟨⟨h1, by simpa using h3.1⟩, ?_⟩
        by_cases e : i = k
        · exact .inr (by simpa using h3.2 (by simpa using e))
        · exact .inl e
      · have h3 := h2 (j + 1) (by simpa using hj)
        exact ⟨by simpa using h3.1, fun e => by simpa using h3.2 (by omega)⟩
theorem matF_iff : ∀ {l : List (List Int)} {i : Int} {ok : Bool}, matF l i ok = true ↔ ok = true ∧ ∀ (a : Nat) (h : a < l.length) (j : Nat) (hj : j < l[a].length), (0 ≤ l[a][j] ∧ l[a][j] ≤ 1000000000) ∧ (i + a = j → l[a][j] = 0)
  | [], i, ok => by simp [matF]
  | r :: l, i, ok => by
    rw [matF, matF_iff, rowF_iff]
    constructor
    · rintro ⟨⟨h1, h2⟩, h3⟩
      refine ⟨h1, fun a ha j hj => ?_⟩
      cases a with
      | zero =>
        obtain ⟨h4, h5⟩ := h2 j hj
        exact ⟨h4, fun e => h5 (by simpa using e)⟩
      | succ a =>
        obtain ⟨h4, h5⟩ := h3 a (by simpa using ha) j hj
        exact ⟨h4, fun e => h5 (by omega)⟩
    · rintro ⟨h1, h2⟩
      refine ⟨⟨h1, fun j hj => ?_⟩, fun a ha j hj => ?_⟩
      · obtain ⟨h4, h5⟩ := h2 0 (by simp) j hj
        exact ⟨h4, fun e => h5 (by simpa using e)⟩
      · obtain ⟨h4, h5⟩ := h2 (a + 1) (by simpa using ha) j hj
        exact ⟨h4, fun e => h5 (by omega)⟩
theorem satsF_iff : ∀ {l : List Sat} {ok : Bool}, l.foldl satsF ok = true ↔ ok = true ∧ ∀ s ∈ l, (0 ≤ s.Room ∧ s.Room ≤ 1000000000) ∧ 0 ≤ s.Hold ∧ s.Hold ≤ 1000000000
  | [], ok => by simp
  | s :: l, ok => by
    rw [List.foldl_cons, satsF_iff]
    simp only [satsF, Bool.and_eq_true, mayF_iff, List.forall_mem_cons, and_assoc]
theorem custF_iff : ∀ {l : List Customer} {ok : Bool}, l.foldl custF ok = true ↔ ok = true ∧ ∀ c ∈ l, (1 ≤ c.Load ∧ c.Load ≤ 1000000000) ∧ (0 ≤ c.Open ∧ c.Open ≤ 1000000000) ∧ (c.Open ≤ c.Close ∧ c.Close ≤ 1000000000) ∧ 0 ≤ c.Stay ∧ c.Stay ≤ 1000000000
  | [], ok => by simp
  | s :: l, ok => by
    rw [List.foldl_cons, custF_iff]
    simp only [custF, Bool.and_eq_true, mayF_iff, List.forall_mem_cons, and_assoc]
/-- rows of numbers that may be -/
def MatOk (l : List (List Int)) : Prop := ∀ (a : Nat) (h : a < l.length) (j : Nat) (hj : j < l[a].length), (0 ≤ l[a][j] ∧ l[a][j] ≤ 1000000000) ∧ (a = j → l[a][j] = 0)
structure NumOk (x : Instance) : Prop where
  en : 0 ≤ x.End ∧ x.End ≤ 1000000000
  tr : 0 ≤ x.Trucks.Room ∧ x.Trucks.Room ≤ 1000000000
  br : 0 ≤ x.Bikes.Room ∧ x.Bikes.Room ≤ 1000000000
  s : ∀ s ∈ x.Sats, (0 ≤ s.Room ∧ s.Room ≤ 1000000000) ∧ 0 ≤ s.Hold ∧ s.Hold ≤ 1000000000
  u : ∀ c ∈ x.Customers, (1 ≤ c.Load ∧ c.Load ≤ 1000000000) ∧ (0 ≤ c.Open ∧ c.Open ≤ 1000000000) ∧ (c.Open ≤ c.Close ∧ c.Close ≤ 1000000000) ∧ 0 ≤ c.Stay ∧ c.Stay ≤ 1000000000
  k : MatOk x.Cost
  t : MatOk x.Time
theorem matF_ok {l : List (List Int)} {ok : Bool} : matF l 0 ok = true ↔ ok = true ∧ MatOk l := by
  rw [matF_iff]
  unfold MatOk
  refine and_congr_right fun _ => forall_congr' fun a => forall_congr' fun h => forall_congr' fun j => forall_congr' fun hj => and_congr_right fun _ => ?_
  constructor
  · intro h e; exact h (by omega)
  · intro h e; exact h (by omega)
theorem numbersF_iff {x : Instance} : numbersF x = true ↔ NumOk x := by
  unfold numbersF
  rw [matF_ok, matF_ok, custF_iff, satsF_iff]
  simp only [Bool.and_eq_true, mayF_iff]
  constructor
  · rintro ⟨⟨⟨⟨⟨⟨h1, h2⟩, h3⟩, h4⟩, h5⟩, h6⟩, h7⟩; exact ⟨h1, h2, h3, h4, h5, h6, h7⟩
  · rintro ⟨h1, h2, h3, h4, h5, h6, h7⟩; exact ⟨⟨⟨⟨⟨⟨h1, h2⟩, h3⟩, h4⟩, h5⟩, h6⟩, h7⟩
theorem idxNe_none {n : Int} : ∀ {l : List (List Int)} {k : Int}, (∀ r ∈ l, (r.length : Int) = n) → idxNe n l k = -1
  | [], _, _ => rfl
  | r :: l, k, h => by
    rw [idxNe, if_neg (by simpa using h r (by simp)), idxNe_none fun q hq => h q (List.mem_cons_of_mem _ hq)]
theorem squareF_iff {l : List (List Int)} {n : Int} : squareF l n = true ↔ (l.length : Int) = n ∧ ∀ r ∈ l, (r.length : Int) = n :=
  ⟨squareF_spec, fun h => by simp [squareF, h.1, idxNe_none h.2]⟩
structure InstOk (x : Instance) : Prop where
  tm : 1 ≤ x.Trucks.Many ∧ x.Trucks.Many ≤ 60
  bm : 1 ≤ x.Bikes.Many ∧ x.Bikes.Many ≤ 60
  ns : 1 ≤ x.Sats.length ∧ x.Sats.length ≤ 12
  nu : 1 ≤ x.Customers.length ∧ x.Customers.length ≤ 48
  ck : x.Cost.length = 1 + x.Sats.length + x.Customers.length ∧ ∀ r ∈ x.Cost, r.length = 1 + x.Sats.length + x.Customers.length
  ct : x.Time.length = 1 + x.Sats.length + x.Customers.length ∧ ∀ r ∈ x.Time, r.length = 1 + x.Sats.length + x.Customers.length
  num : NumOk x
theorem nodesF_eq {x : Instance} (h : x.Sats.length ≤ 12) (h2 : x.Customers.length ≤ 48) : nodesF x = ((1 + x.Sats.length + x.Customers.length : Nat) : Int) := by
  unfold nodesF
  rw [w64_id (n := 1 + (x.Sats.length : Int)) (by omega), w64_id (by omega)]
  omega
theorem instCheckF_iff {x : Instance} : instCheckF x = 0 ↔ InstOk x := by
  unfold instCheckF
  constructor
  · intro h
    split at h
    · cases h
    · rename_i h1
      split at h
      · cases h
      · rename_i h2
        split at h
        · cases h
        · rename_i h3
          simp [manyF] at h1
          have hq1 : squareF x.Cost (nodesF x) = true := by
            cases hq : squareF x.Cost (nodesF x) with
            | true => rfl
            | false => simp [hq] at h2
          have hq2 : squareF x.Time (nodesF x) = true := by
            cases hq : squareF x.Time (nodesF x) with
            | true => rfl
            | false => simp [hq] at h2
          have h4 : numbersF x = true := by simpa using h3
          rw [nodesF_eq (by omega) (by omega), squareF_iff] at hq1 hq2
          exact ⟨by omega, by omega, by omega, by omega, ⟨by omega, fun r hr => by have := hq1.2 r hr; omega⟩, ⟨by omega, fun r hr => by have := hq2.2 r hr; omega⟩, numbersF_iff.1 h4⟩
  · intro h
    have h1 := h.tm; have h2 := h.bm; have h3 := h.ns; have h4 := h.nu
    rw [if_neg (by simp [manyF]; omega), if_neg, if_neg (by simpa using numbersF_iff.2 h.num)]
    have e1 : squareF x.Cost (nodesF x) = true := by
      rw [nodesF_eq h3.2 h4.2, squareF_iff]
      exact ⟨by rw [h.ck.1], fun r hr => by rw [h.ck.2 r hr]⟩
    have e2 : squareF x.Time (nodesF x) = true := by
      rw [nodesF_eq h3.2 h4.2, squareF_iff]
      exact ⟨by rw [h.ct.1], fun r hr => by rw [h.ct.2 r hr]⟩
    simp [e1, e2]

/-! ### Make -/

def AllU8 (l : List Int) : Prop := ∀ v ∈ l, IntKind.u8.wrap v = v
theorem getD_u8 {l : List Int} (h : AllU8 l) (i : Nat) : 0 ≤ l.getD i 0 ∧ l.getD i 0 ≤ 255 := by
  by_cases hi : i < l.length
  · rw [getD_lt _ hi]; exact U8.rng (h _ (List.getElem_mem hi))
  · simp [List.getD, List.getElem?_eq_none (Nat.le_of_not_lt hi)]
def RowOk (n i : Nat) (r : List Int) : Prop := r.length = n ∧ (∀ v ∈ r, 0 ≤ v ∧ v ≤ 29) ∧ ∀ h : i < r.length, r[i] = 0
theorem cellStep_ok {l : List Int} {n i : Nat} (h : AllU8 l) {st : List Int × Int} (hr : RowOk n i st.1) (j : Nat) : RowOk n i (cellStep l i st j).1 := by
  unfold cellStep
  split
  · rename_i hc
    simp at hc
    refine ⟨by simpa using hr.1, fun v hv => ?_, fun hi => ?_⟩
    · rcases List.mem_or_eq_of_mem_set hv with hv | rfl
      · exact hr.2.1 v hv
      · have h1 := getD_u8 h (st.2 % (l.length : Int)).toNat
        rw [w64_id (by omega)]; omega
    · simp only
      rw [List.getElem_set_ne (by omega)]
      exact hr.2.2 (by simpa using hi)
  · exact hr
theorem cells_ok {l : List Int} {n i : Nat} (h : AllU8 l) : ∀ {r : List Nat} {st : List Int × Int}, RowOk n i st.1 → RowOk n i (r.foldl (cellStep l i) st).1
  | [], _, hr => hr
  | j :: r, st, hr => by rw [List.foldl_cons]; exact cells_ok h (cellStep_ok h hr j)
theorem rowStep_ok {l : List Int} {n : Nat} (h : AllU8 l) : ∀ {m k : Nat} {st : List (List Int) × Int}, st.1.length = k → (∀ (a : Nat) (ha : a < st.1.length), RowOk n a st.1[a]) →
    ((List.range' k m).foldl (rowStep l n) st).1.length = k + m ∧ ∀ (a : Nat) (ha : a < ((List.range' k m).foldl (rowStep l n) st).1.length), RowOk n a ((List.range' k m).foldl (rowStep l n) st).1[a]
  | 0, k, st, hk, hr => ⟨by simpa using hk, hr⟩
  | m + 1, k, st, hk, hr => by
    rw [List.range'_succ, List.foldl_cons]
    have h0 : RowOk n k ((List.range n).foldl (cellStep l k) (List.replicate n 0, st.2)).1 := cells_ok h ⟨by simp, by simp, by simp⟩
    have := rowStep_ok (n := n) h (m := m) (k := k + 1) (st := rowStep l n st k) (by simp [rowStep, hk]) (fun a ha => by
      simp only [rowStep] at ha ⊢
      rw [List.getElem_append]
      split
      · exact hr a (by assumption)
      · have : a = k := by simp at ha; omega
        subst this
        simpa using h0)
    exact ⟨by rw [this.1]; omega, this.2⟩
theorem squareN_ok {l : List Int} {n : Nat} (h : AllU8 l) : (squareN l n).length = n ∧ (∀ r ∈ squareN l n, r.length = n) ∧ MatOk (squareN l n) := by
  have := rowStep_ok (n := n) h (m := n) (k := 0) (st := ([], 0)) rfl (by simp)
  rw [← List.range_eq_range'] at this
  unfold squareN
  refine ⟨by rw [this.1]; omega, fun r hr => ?_, fun a ha j hj => ?_⟩
  · obtain ⟨a, ha, rfl⟩ := List.getElem_of_mem hr
    exact (this.2 a ha).1
  · obtain ⟨h1, h2, h3⟩ := this.2 a ha
    have h4 := h2 _ (List.getElem_mem hj)
    exact ⟨by omega, fun e => by subst e; exact h3 hj⟩
structure SmallOk (s : Small) : Prop where
  ok : OkS s
  sats : ∀ q ∈ s.Sats, U8 q.Room ∧ U8 q.Hold
  custs : ∀ q ∈ s.Customers, U8 q.Load ∧ U8 q.Open ∧ U8 q.Wide ∧ U8 q.Stay
  cost : AllU8 s.Cost
  time : AllU8 s.Time
theorem satStep_ok {wd : Int} (hw : wd = 1 ∨ wd = 9) : ∀ {l : List Sat8} {o : List Sat}, (∀ q ∈ l, U8 q.Room ∧ U8 q.Hold) → (∀ q ∈ o, (0 ≤ q.Room ∧ q.Room ≤ 1000) ∧ 0 ≤ q.Hold ∧ q.Hold ≤ 1000) → ∀ q ∈ l.foldl (satStep wd) o, (0 ≤ q.Room ∧ q.Room ≤ 1000) ∧ 0 ≤ q.Hold ∧ q.Hold ≤ 1000
  | [], _, _, h => h
  | s :: l, o, hl, h => by
    rw [List.foldl_cons]
    refine satStep_ok hw (fun q hq => hl q (List.mem_cons_of_mem _ hq)) fun q hq => ?_
    unfold satStep at hq
    split at hq
    · rcases List.mem_append.1 hq with hq | hq
      · exact h q hq
      · simp only [List.mem_singleton] at hq
        subst hq
        have h1 := U8.rng (hl s (by simp)).1
        have h2 := U8.rng (hl s (by simp)).2
        have e1 : w64 (s.Room % 40) = s.Room % 40 := w64_id (by omega)
        have e2 : w64 (s.Hold % 12) = s.Hold % 12 := w64_id (by omega)
        simp only [e1, e2]
        rcases hw with rfl | rfl
        · rw [w64_id (n := 1 * (s.Room % 40)) (by omega), w64_id (by omega)]; omega
        · rw [w64_id (n := 9 * (s.Room % 40)) (by omega), w64_id (by omega)]; omega
    · exact h q hq
def CustSm (c : Customer) : Prop := (1 ≤ c.Load ∧ c.Load ≤ 100) ∧ (0 ≤ c.Open ∧ c.Open ≤ 1000) ∧ (c.Open ≤ c.Close ∧ c.Close ≤ 10000) ∧ 0 ≤ c.Stay ∧ c.Stay ≤ 1000
theorem custM_sm {wd : Int} (hw : wd = 1 ∨ wd = 9) {t : Bool} {s : Who} (h : U8 s.Load ∧ U8 s.Open ∧ U8 s.Wide ∧ U8 s.Stay) : CustSm (custM wd t s) := by
  have h1 := U8.rng h.1
  have h2 := U8.rng h.2.1
  have h3 := U8.rng h.2.2.1
  have h4 := U8.rng h.2.2.2
  unfold CustSm custM
  simp only
  have e1 : w64 (s.Load % 6) = s.Load % 6 := w64_id (by omega)
  have e2 : w64 (s.Load / 32) = s.Load / 32 := w64_id (by omega)
  have e3 : w64 (s.Open % 50) = s.Open % 50 := w64_id (by omega)
  have e4 : w64 (s.Stay % 8) = s.Stay % 8 := w64_id (by omega)
  have e5 : w64 s.Wide = s.Wide := w64_id (by omega)
  have e6 : w64 (1 + s.Load % 6) = 1 + s.Load % 6 := w64_id (by omega)
  have e7 : w64 (1 + s.Load % 6 + s.Load / 32) = 1 + s.Load % 6 + s.Load / 32 := w64_id (by omega)
  rw [e1, e2, e3, e4, e5, e6, e7]
  refine ⟨by split <;> omega, by omega, ?_, by omega⟩
  rcases hw with rfl | rfl
  · rw [w64_id (n := 1 * s.Wide) (by omega), w64_id (by omega)]; omega
  · rw [w64_id (n := 9 * s.Wide) (by omega), w64_id (by omega)]; omega
theorem custStep_ok {wd : Int} (hw : wd = 1 ∨ wd = 9) {t : Bool} : ∀ {l : List Who} {o : List Customer}, (∀ q ∈ l, U8 q.Load ∧ U8 q.Open ∧ U8 q.Wide ∧ U8 q.Stay) → (∀ q ∈ o, CustSm q) → ∀ q ∈ l.foldl (custStep wd t) o, CustSm q
  | [], _, _, h => h
  | s :: l, o, hl, h => by
    rw [List.foldl_cons]
    refine custStep_ok hw (fun q hq => hl q (List.mem_cons_of_mem _ hq)) fun q hq => ?_
    unfold custStep at hq
    split at hq
    · rcases List.mem_append.1 hq with hq | hq
      · exact h q hq
      · simp only [List.mem_singleton] at hq
        subst hq
        exact custM_sm hw (hl s (by simp))
    · exact h q hq
theorem wideF_or (s : Small) : wideF s = 1 ∨ wideF s = 9 := by unfold wideF; split <;> simp
theorem custsM_sm {s : Small} (h : SmallOk s) : ∀ q ∈ custsM s, CustSm q := by
  unfold custsM
  split
  · intro q hq; simp only [List.mem_singleton] at hq; subst hq; simp [CustSm]
  · exact custStep_ok (wideF_or s) h.custs (by simp)
theorem satsM_sm {s : Small} (h : SmallOk s) : ∀ q ∈ satsM s, (0 ≤ q.Room ∧ q.Room ≤ 1000) ∧ 0 ≤ q.Hold ∧ q.Hold ≤ 1000 := by
  unfold satsM
  split
  · intro q hq; simp only [List.mem_singleton] at hq; subst hq; simp
  · exact satStep_ok (wideF_or s) h.sats (by simp)
/-- what Make's instances are -/
structure MadeOk (x : Instance) : Prop where
  ok : InstOk x
  s3 : x.Sats.length ≤ 3
  u6 : x.Customers.length ≤ 6
  tr : 1 ≤ x.Trucks.Room ∧ x.Trucks.Room ≤ 1000
  cu : ∀ q ∈ x.Customers, CustSm q
  sa : ∀ q ∈ x.Sats, (0 ≤ q.Room ∧ q.Room ≤ 1000) ∧ 0 ≤ q.Hold ∧ q.Hold ≤ 1000
theorem makeF_ok {s : Small} (h : SmallOk s) : MadeOk (makeF s) := by
  have h1 := U8.rng h.ok.e
  have h2 := U8.rng h.ok.t
  have h3 := U8.rng h.ok.tr
  have h4 := U8.rng h.ok.b
  have h5 := U8.rng h.ok.br
  have hs := satsM_len s
  have hu := custsM_len s
  have hw := wideF_or s
  have e1 : w64 s.End = s.End := w64_id (by omega)
  have e2 : w64 (s.Trucks % 4) = s.Trucks % 4 := w64_id (by omega)
  have e3 : w64 (s.TruckRoom % 40) = s.TruckRoom % 40 := w64_id (by omega)
  have e4 : w64 (s.Bikes % 6) = s.Bikes % 6 := w64_id (by omega)
  have e5 : w64 (s.BikeRoom % 20) = s.BikeRoom % 20 := w64_id (by omega)
  have hk := squareN_ok (n := nM s) h.cost
  have ht := squareN_ok (n := nM s) h.time
  have hen : 0 ≤ (makeF s).End ∧ (makeF s).End ≤ 1000000000 := by
    show 0 ≤ w64 (40 + w64 (w64 s.End * wideF s)) ∧ w64 (40 + w64 (w64 s.End * wideF s)) ≤ 1000000000
    rw [e1]
    rcases hw with e | e <;> rw [e]
    · rw [w64_id (n := s.End * 1) (by omega), w64_id (by omega)]; omega
    · rw [w64_id (n := s.End * 9) (by omega), w64_id (by omega)]; omega
  have htr : 1 ≤ (makeF s).Trucks.Room ∧ (makeF s).Trucks.Room ≤ 1000 := by
    show 1 ≤ w64 (5 + w64 (wideF s * w64 (s.TruckRoom % 40))) ∧ w64 (5 + w64 (wideF s * w64 (s.TruckRoom % 40))) ≤ 1000
    rw [e3]
    rcases hw with e | e <;> rw [e]
    · rw [w64_id (n := 1 * (s.TruckRoom % 40)) (by omega), w64_id (by omega)]; omega
    · rw [w64_id (n := 9 * (s.TruckRoom % 40)) (by omega), w64_id (by omega)]; omega
  have hbr : 0 ≤ (makeF s).Bikes.Room ∧ (makeF s).Bikes.Room ≤ 1000000000 := by
    show 0 ≤ w64 (3 + w64 (wideF s * w64 (s.BikeRoom % 20))) ∧ w64 (3 + w64 (wideF s * w64 (s.BikeRoom % 20))) ≤ 1000000000
    rw [e5]
    rcases hw with e | e <;> rw [e]
    · rw [w64_id (n := 1 * (s.BikeRoom % 20)) (by omega), w64_id (by omega)]; omega
    · rw [w64_id (n := 9 * (s.BikeRoom % 20)) (by omega), w64_id (by omega)]; omega
  have htm : 1 ≤ (makeF s).Trucks.Many ∧ (makeF s).Trucks.Many ≤ 60 := by
    show 1 ≤ w64 (1 + w64 (s.Trucks % 4)) ∧ w64 (1 + w64 (s.Trucks % 4)) ≤ 60
    rw [e2, w64_id (by omega)]; omega
  have hbm : 1 ≤ (makeF s).Bikes.Many ∧ (makeF s).Bikes.Many ≤ 60 := by
    show 1 ≤ w64 (1 + w64 (s.Bikes % 6)) ∧ w64 (1 + w64 (s.Bikes % 6)) ≤ 60
    rw [e4, w64_id (by omega)]; omega
  refine ⟨⟨htm, hbm, ⟨hs.2, by show (satsM s).length ≤ 12; omega⟩, ⟨hu.2, by show (custsM s).length ≤ 48; omega⟩, ⟨hk.1, hk.2.1⟩, ⟨ht.1, ht.2.1⟩, ⟨hen, ⟨by omega, by omega⟩, hbr, fun q hq => ?_, fun q hq => ?_, hk.2.2, ht.2.2⟩⟩, hs.1, hu.1, htr, custsM_sm h, satsM_sm h⟩
  · have := satsM_sm h q hq; omega
  · have := custsM_sm h q hq; unfold CustSm at this; omega
theorem InstOk.okI {x : Instance} (h : InstOk x) : OkI x := by
  have h1 := h.num.en; have h2 := h.tm; have h3 := h.num.tr; have h4 := h.bm; have h5 := h.num.br; have h6 := h.ns; have h7 := h.nu; have h8 := h.ck.1; have h9 := h.ct.1
  exact ⟨w64_id (by omega), w64_id (by omega), w64_id (by omega), w64_id (by omega), w64_id (by omega), by omega, by omega, by omega, by omega⟩
theorem InstOk.sq {x : Instance} (h : InstOk x) : Sq x := Sq.of (instCheckF_iff.2 h)
end Go.Proofs.Ytdeacehacndopaa
