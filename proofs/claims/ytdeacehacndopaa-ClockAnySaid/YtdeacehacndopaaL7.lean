/- The statement's own judges: Fits, sane, Can. The statement's own judge: Can. No conditions beyond those that each theorem names. -/
import Derived.Test.YtdeacehacndopaaL6
import Derived.Test.YtdeacehacndopaaL5
namespace Go.Proofs.Ytdeacehacndopaa
open Go.RowKit

set_option maxRecDepth 20000 in
theorem fits18_spec (y : Plan) (r : HP) (t : Times) (q : HP) (hy : y.Trucks.length ≤ 9223372036854775807 ∧ y.Bikes.length ≤ 9223372036854775807) (sh : Nat → Prop) (w : World) (h : Holds ⟨0, w, [], sh⟩ [] (rP y r (rT t q [])) w) :
    Calls Pr fn_law18_Fits #[.agg (cP y r).toArray, .agg (cT t q).toArray] w fun e w' => e = .returned (.bool (fitsB y t)) ∧ Ext w w' := by
  obtain ⟨hy1, hy2⟩ := hy
  refine Calls.of_go (args := [_, _]) fn_law18_Fits_f rfl rfl rfl h ?_
  refine GoC.seq ?_
  refine GoC.region ?_
  refine GoL.x (op_box rfl rfl) ?_
  rintro _ _ _ ⟨b2, rfl, rfl, rfl⟩
  refine GoL.x (op_box rfl rfl) ?_
  rintro _ _ _ ⟨b3, rfl, rfl, rfl⟩
  refine GoL.q (op_assign rfl) ?_
  refine GoL.nil .next ?_
  refine GoC.seq ?_
  refine GoC.seq ?_
  refine GoC.region ?_
  refine GoL.q (op_fieldAddr rfl) ?_
  refine GoL.q (op_load rfl rfl) ?_
  refine GoL.q (op_len rfl) ?_
  refine GoL.q (op_fieldAddr rfl) ?_
  refine GoL.q (op_load rfl rfl) ?_
  refine GoL.q (op_len rfl) ?_
  refine GoL.q (op_neq rfl rfl) ?_
  refine GoL.q (op_move rfl) ?_
  apply GoL.or (m := 7) (x := 23) rfl rfl rfl rfl rfl rfl rfl rfl (Wn.none rfl)
  · intro hg0
    refine GoL.q (op_fieldAddr rfl) ?_ (hg := Wn.some rfl rfl rfl hg0)
    refine GoL.q (op_load rfl rfl) ?_ (hg := Wn.some rfl rfl rfl hg0)
    refine GoL.q (op_len rfl) ?_ (hg := Wn.some rfl rfl rfl hg0)
    refine GoL.q (op_fieldAddr rfl) ?_ (hg := Wn.some rfl rfl rfl hg0)
    refine GoL.q (op_load rfl rfl) ?_ (hg := Wn.some rfl rfl rfl hg0)
    refine GoL.q (op_len rfl) ?_ (hg := Wn.some rfl rfl rfl hg0)
    refine GoL.q (op_neq rfl rfl) ?_ (hg := Wn.some rfl rfl rfl hg0)
    exact GoL.part (k := 7) rfl rfl rfl
  refine GoL.nil .next ?_
  refine GoC.cond rfl (fun hc1 => ?_) (fun hc1 => ?_)
  · have hne := hc1
    refine GoC.seq ?_
    refine GoC.region ?_
    refine GoL.q (op_assign rfl) ?_
    refine GoL.nil .next ?_
    refine GoC.ret (.thenRet (.here)) ?_
    refine done1 rfl rfl ?_
    intro w' hw
    have e : fitsB y t = false := by rw [fitsB, hne]; rfl
    exact ⟨by rw [e], hw.keep⟩
  · have hne := hc1
    obtain ⟨he1, he2⟩ : t.Trucks.length = y.Trucks.length ∧ t.Bikes.length = y.Bikes.length := by simp at hne; omega
    refine GoC.skipTo .next ?_
    refine GoC.seq ?_
    refine GoC.seq ?_
    refine GoC.region ?_
    refine GoL.q (op_fieldAddr rfl) ?_
    refine GoL.q (op_load rfl rfl) ?_
    refine GoL.q (op_len rfl) ?_
    refine GoL.q (op_move rfl) ?_
    refine GoL.nil .next ?_
    refine GoC.block ?_
    refine GoC.loop (σ := Nat) (fun s => [(28, .int .i64 (s : Int))]) [(2, _), (3, _), (26, _), (27, _)] (fun s => _) (fun s => _) (fun s => s ≤ y.Trucks.length ∧ fitT (y.Trucks.drop s) (t.Trucks.drop s) true = fitT y.Trucks t.Trucks true) (fun s => y.Trucks.length - s) 0 ⟨by simp, rfl⟩ ⟨rfl, rfl, rfl, rfl, rfl, trivial⟩ (fun _ h => h) ?_
    intro s ⟨hs1, hs2⟩
    refine GoC.seq ?_
    refine GoC.region ?_
    refine GoL.q (op_lss rfl rfl) ?_
    refine GoL.nil .next ?_
    refine GoC.seq ?_
    refine GoC.cond rfl (fun hc2 => ?_) (fun hc2 => ?_)
    · have hlt : s < y.Trucks.length := by simpa using hc2
      refine GoC.skipTo .next ?_
      refine GoC.seq ?_
      refine GoC.block ?_
      refine GoC.seq ?_
      have hltm : s < t.Trucks.length := by omega
      refine GoC.openR (n := 1) r.t.1 s hlt (fun q1 hq => ?_)
      refine GoC.openR (n := 1) q.t.1 s hltm (fun q2 hq2 => ?_)
      refine GoC.region ?_
      refine GoL.q (op_move rfl) ?_
      refine GoL.q (op_indexR rfl rfl rfl (by first | assumption | omega)) ?_
      refine GoL.q (op_loadEA rfl rfl) ?_
      refine GoL.x (op_alloc) ?_
      rintro _ _ _ ⟨b6, rfl, rfl, rfl⟩
      refine GoL.q (op_assign rfl) ?_
      refine GoL.y0 (op_store rfl rfl rfl rfl (by simp [Value.oneCell']) (Nat.le_of_ble_eq_true rfl) rfl) ?_
      rintro _ _ _ ⟨rfl, rfl, rfl⟩
      refine GoL.nil .next ?_
      refine GoC.seq ?_
      refine GoC.draw 9 [] [0, 1, 2, 3, 4, 5, 6, 7, 8] (by kernel_rfl) Pr_mixed ?_
      refine Can.q rfl (op_fieldAddr rfl) ?_
      refine Can.q rfl (op_load rfl rfl) ?_
      refine Can.q rfl (op_move rfl) ?_
      refine Can.q rfl (op_indexR rfl rfl rfl (by first | assumption | omega)) ?_
      refine Can.q rfl (op_loadE rfl rfl) ?_
      refine Can.q rfl (op_len rfl) ?_
      refine Can.q rfl (op_fieldAddr rfl) ?_
      refine Can.q rfl (op_load rfl rfl) ?_
      refine Can.q rfl (op_len rfl) ?_
      refine Can.nil rfl ?_
      refine GoL.q (op_neq rfl rfl) ?_
      refine GoL.nil .next ?_
      refine GoC.cond rfl (fun hc3 => ?_) (fun hc3 => ?_)
      · have hno := hc3
        refine GoC.seq ?_
        refine GoC.region ?_
        refine GoL.q (op_assign rfl) ?_
        refine GoL.nil .next ?_
        refine GoC.ret (.blockRet (.thenRet (.thenRet (.blockRet (.thenRet (.here)))))) ?_
        refine done1 rfl rfl ?_
        intro w' hw
        have e : fitsF y t = false := by rw [fitsF, ← hs2, List.drop_eq_getElem_cons hlt, List.drop_eq_getElem_cons hltm, fitT, show (true && decide ((t.Trucks[s].length : Int) = y.Trucks[s].Stops.length)) = false by simpa using hno, fitT_false, fitK_false]
        exact ⟨by rw [fitsB, e, Bool.and_false], hw.keep⟩
      · have hno := hc3
        refine GoC.skipTo (.blockNormal (.next)) ?_
        refine GoC.region ?_
        refine GoL.q (op_inc rfl (by omega)) ?_
        refine GoL.q (op_move rfl) ?_
        exact GoL.again (s + 1) ⟨by omega, by rw [List.drop_eq_getElem_cons hlt, List.drop_eq_getElem_cons hltm, fitT, show (true && decide ((t.Trucks[s].length : Int) = y.Trucks[s].Stops.length)) = true by simpa using hno] at hs2; exact hs2⟩ (by omega) ⟨rfl, rfl, rfl, rfl, rfl, trivial⟩
    · have hge : y.Trucks.length ≤ s := by simpa using hc2
      refine GoC.exit (.thenExit (.thenExit (.blockSame (.next)))) ?_
      refine GoC.seq ?_
      refine GoC.seq ?_
      refine GoC.region ?_
      refine GoL.q (op_fieldAddr rfl) ?_
      refine GoL.q (op_load rfl rfl) ?_
      refine GoL.q (op_len rfl) ?_
      refine GoL.q (op_move rfl) ?_
      refine GoL.nil .next ?_
      refine GoC.block ?_
      refine GoC.loop (σ := Nat) (fun u => [(47, .int .i64 (u : Int))]) [(3, _), (45, _), (46, _)] (fun u => _) (fun u => _) (fun u => u ≤ y.Bikes.length ∧ fitK (y.Bikes.drop u) (t.Bikes.drop u) true = fitsF y t) (fun u => y.Bikes.length - u) 0 ⟨by simp, by rw [fitsF, ← hs2, List.drop_of_length_le hge, fitT]; rfl⟩ ⟨rfl, rfl, rfl, rfl, trivial⟩ (fun _ h => h) ?_
      intro u ⟨hu1, hu2⟩
      refine GoC.seq ?_
      refine GoC.region ?_
      refine GoL.q (op_lss rfl rfl) ?_
      refine GoL.nil .next ?_
      refine GoC.seq ?_
      refine GoC.cond rfl (fun hc4 => ?_) (fun hc4 => ?_)
      · have hlt2 : u < y.Bikes.length := by simpa using hc4
        refine GoC.skipTo .next ?_
        refine GoC.seq ?_
        refine GoC.block ?_
        refine GoC.seq ?_
        have hltm : u < t.Bikes.length := by omega
        refine GoC.openR (n := 2) r.b.1 u hlt2 (fun q1 hq => ?_)
        refine GoC.openR (n := 3) q.b.1 u hltm (fun q2 hq2 => ?_)
        refine GoC.region ?_
        refine GoL.q (op_move rfl) ?_
        refine GoL.q (op_indexR rfl rfl rfl (by first | assumption | omega)) ?_
        refine GoL.q (op_loadEA rfl rfl) ?_
        refine GoL.x (op_alloc) ?_
        rintro _ _ _ ⟨b8, rfl, rfl, rfl⟩
        refine GoL.q (op_assign rfl) ?_
        refine GoL.y0 (op_store rfl rfl rfl rfl (by simp [Value.oneCell']) (Nat.le_of_ble_eq_true rfl) rfl) ?_
        rintro _ _ _ ⟨rfl, rfl, rfl⟩
        refine GoL.nil .next ?_
        refine GoC.seq ?_
        refine GoC.draw 10 [] [0, 1, 2, 3, 4, 5, 6, 7, 8, 9] (by kernel_rfl) Pr_mixed ?_
        refine Can.q rfl (op_fieldAddr rfl) ?_
        refine Can.q rfl (op_load rfl rfl) ?_
        refine Can.q rfl (op_move rfl) ?_
        refine Can.q rfl (op_indexR rfl rfl rfl (by first | assumption | omega)) ?_
        refine Can.q rfl (op_fieldAddrE rfl) ?_
        refine Can.q rfl (op_loadF rfl rfl) ?_
        refine Can.q rfl (op_len rfl) ?_
        refine Can.q rfl (op_fieldAddr rfl) ?_
        refine Can.q rfl (op_load rfl rfl) ?_
        refine Can.q rfl (op_len rfl) ?_
        refine Can.nil rfl ?_
        refine GoL.q (op_neq rfl rfl) ?_
        refine GoL.nil .next ?_
        refine GoC.cond rfl (fun hc5 => ?_) (fun hc5 => ?_)
        · have hno := hc5
          refine GoC.seq ?_
          refine GoC.region ?_
          refine GoL.q (op_assign rfl) ?_
          refine GoL.nil .next ?_
          refine GoC.ret (.blockRet (.thenRet (.thenRet (.blockRet (.thenRet (.here)))))) ?_
          refine done1 rfl rfl ?_
          intro w' hw
          have e : fitsF y t = false := by rw [← hu2, List.drop_eq_getElem_cons hlt2, List.drop_eq_getElem_cons hltm, fitK, show (true && decide ((t.Bikes[u].Starts.length : Int) = y.Bikes[u].Stops.length)) = false by simpa using hno, fitK_false]
          exact ⟨by rw [fitsB, e, Bool.and_false], hw.keep⟩
        · have hno := hc5
          refine GoC.skipTo (.blockNormal (.next)) ?_
          refine GoC.region ?_
          refine GoL.q (op_inc rfl (by omega)) ?_
          refine GoL.q (op_move rfl) ?_
          exact GoL.again (u + 1) ⟨by omega, by rw [List.drop_eq_getElem_cons hlt2, List.drop_eq_getElem_cons hltm, fitK, show (true && decide ((t.Bikes[u].Starts.length : Int) = y.Bikes[u].Stops.length)) = true by simpa using hno] at hu2; exact hu2⟩ (by omega) ⟨rfl, rfl, rfl, rfl, trivial⟩
      · have hge2 : y.Bikes.length ≤ u := by simpa using hc4
        refine GoC.exit (.thenExit (.thenExit (.blockSame (.next)))) ?_
        refine GoC.seq ?_
        refine GoC.region ?_
        refine GoL.q (op_assign rfl) ?_
        refine GoL.nil .next ?_
        refine GoC.ret .here ?_
        refine done1 rfl rfl ?_
        intro w' hw
        have e : fitsF y t = true := by rw [← hu2, List.drop_of_length_le hge2, fitK]
        exact ⟨by rw [fitsB, e, hne]; rfl, hw.keep⟩
set_option maxRecDepth 20000 in
theorem sane1_spec (n : Int) (b : Nat) (ok : Bool) (sh : Nat → Prop) (w : World) (h : Holds ⟨0, w, fps [cel b 4 [.bool ok]], sh⟩ [cel b 4 [.bool ok]] [] w) :
    Calls Pr fn_law18_sane_c1 #[.int .i64 n, .pointer (some ⟨b, 0, none⟩)] w fun e w' => ∃ _ : Unit, e = .returned (.tuple #[]) ∧ Holds ⟨0, w, fps [cel b 4 [.bool ok]], sh⟩ [cel b 4 [.bool (inF ok n)]] [] w' := by
  refine Calls.of_go (args := [_, _]) fn_law18_sane_c1_f rfl rfl rfl h ?_
  refine GoC.region ?_
  refine GoL.q (op_load rfl rfl) ?_
  refine GoL.q (op_move rfl) ?_
  apply GoL.and (m := 2) (x := 6) rfl rfl rfl rfl rfl rfl rfl rfl (Wn.none rfl)
  · intro hg0
    refine GoL.q (op_move rfl) ?_ (hg := Wn.some rfl rfl rfl hg0)
    refine GoL.q (op_geq rfl rfl) ?_ (hg := Wn.some rfl rfl rfl hg0)
    exact GoL.part (k := 2) rfl rfl rfl
  refine GoL.q (op_move rfl) ?_
  apply GoL.and (m := 2) (x := 10) rfl rfl rfl rfl rfl rfl rfl rfl (Wn.none rfl)
  · intro hg1
    refine GoL.q (op_move rfl) ?_ (hg := Wn.some rfl rfl rfl hg1)
    refine GoL.q (op_leq rfl rfl) ?_ (hg := Wn.some rfl rfl rfl hg1)
    exact GoL.part (k := 2) rfl rfl rfl
  refine GoL.y0 (op_store rfl rfl rfl rfl (by simp [Value.oneCell']) (Nat.le_of_ble_eq_true rfl) rfl) ?_
  rintro _ _ _ ⟨rfl, rfl, rfl⟩
  refine GoL.nilTo .here ?_
  refine done0 rfl ?_
  intro w' hw
  exact ⟨(), rfl, hw.n⟩
set_option maxRecDepth 20000 in
theorem sane_spec (t : Times) (q : HP) (ht : t.Trucks.length ≤ 9223372036854775807 ∧ t.Bikes.length ≤ 9223372036854775807) (sh : Nat → Prop) (w : World) (h : Holds ⟨0, w, [], sh⟩ [] (rT t q []) w) :
    Calls Pr fn_law18_sane #[.agg (cT t q).toArray] w fun e w' => e = .returned (.bool (saneF t)) ∧ Ext w w' := by
  obtain ⟨ht1, ht2⟩ := ht
  refine Calls.of_go (args := [_]) fn_law18_sane_f rfl rfl rfl h ?_
  refine GoC.seq ?_
  refine GoC.region ?_
  refine GoL.x (op_box rfl rfl) ?_
  rintro _ _ _ ⟨b1, rfl, rfl, rfl⟩
  refine GoL.q (op_assign rfl) ?_
  refine GoL.nil .next ?_
  refine GoC.seq ?_
  refine GoC.region ?_
  refine GoL.x (op_alloc) ?_
  rintro _ _ _ ⟨b3, rfl, rfl, rfl⟩
  refine GoL.y0 (op_store rfl rfl rfl rfl (by simp [Value.oneCell']) (Nat.le_of_ble_eq_true rfl) rfl) ?_
  rintro _ _ _ ⟨rfl, rfl, rfl⟩
  refine GoL.nil .next ?_
  refine GoC.seq ?_
  refine GoC.region ?_
  refine GoL.q (op_makeFunc rfl rfl) ?_
  refine GoL.q (op_assign rfl) ?_
  refine GoL.nil .next ?_
  refine GoC.seq ?_
  refine GoC.seq ?_
  refine GoC.region ?_
  refine GoL.q (op_fieldAddr rfl) ?_
  refine GoL.q (op_load rfl rfl) ?_
  refine GoL.q (op_len rfl) ?_
  refine GoL.q (op_move rfl) ?_
  refine GoL.nil .next ?_
  refine GoC.block ?_
  refine GoC.loop (σ := Nat × Bool) (fun s => [(17, .int .i64 (s.1 : Int))]) [(1, _), (3, _), (4, _), (15, _), (16, _)] (fun s => [cel b3 4 [.bool s.2], cel b1 32 (cT t q)]) (fun s => _) (fun s => s.1 ≤ t.Trucks.length ∧ (t.Trucks.drop s.1).foldl (fun o l => l.foldl inF o) s.2 = t.Trucks.foldl (fun o l => l.foldl inF o) true) (fun s => t.Trucks.length - s.1) (0, true) ⟨by simp, rfl⟩ ⟨rfl, rfl, rfl, rfl, rfl, rfl, trivial⟩ (fun _ h => h) ?_
  intro s ⟨hs1, hs2⟩
  refine GoC.seq ?_
  refine GoC.region ?_
  refine GoL.q (op_lss rfl rfl) ?_
  refine GoL.nil .next ?_
  refine GoC.seq ?_
  refine GoC.cond rfl (fun hc0 => ?_) (fun hc0 => ?_)
  · have hlt : s.1 < t.Trucks.length := by simpa using hc0
    refine GoC.skipTo .next ?_
    refine GoC.seq ?_
    refine GoC.block ?_
    refine GoC.seq ?_
    refine GoC.openR (n := 1) q.t.1 s.1 hlt (fun q1 hq => ?_)
    refine GoC.region ?_
    refine GoL.q (op_indexR rfl rfl rfl (by first | assumption | omega)) ?_
    refine GoL.q (op_loadE rfl rfl) ?_
    refine GoL.q (op_assign rfl) ?_
    refine GoL.nil .next ?_
    refine GoC.seq ?_
    refine GoC.region ?_
    refine GoL.q (op_move rfl) ?_
    refine GoL.q (op_len rfl) ?_
    refine GoL.q (op_move rfl) ?_
    refine GoL.nil .next ?_
    refine GoC.block ?_
    refine GoC.loop (σ := Nat × Bool) (fun u => [(23, .int .i64 (u.1 : Int))]) [(17, _), (1, _), (3, _), (4, _), (15, _), (16, _), (21, _), (22, _)] (fun u => [cel b3 4 [.bool u.2], cel b1 32 (cT t q)]) (fun u => _) (fun u => u.1 ≤ t.Trucks[s.1].length ∧ (t.Trucks[s.1].drop u.1).foldl inF u.2 = t.Trucks[s.1].foldl inF s.2) (fun u => t.Trucks[s.1].length - u.1) (0, s.2) ⟨by simp, rfl⟩ ⟨rfl, rfl, rfl, rfl, rfl, rfl, rfl, rfl, rfl, trivial⟩ (fun _ h => h) ?_
    intro u ⟨hu1, hu2⟩
    refine GoC.seq ?_
    refine GoC.region ?_
    refine GoL.q (op_lss rfl rfl) ?_
    refine GoL.nil .next ?_
    refine GoC.seq ?_
    refine GoC.cond rfl (fun hc1 => ?_) (fun hc1 => ?_)
    · have hlt2 : u.1 < t.Trucks[s.1].length := by simpa using hc1
      refine GoC.skipTo .next ?_
      refine GoC.seq ?_
      refine GoC.block ?_
      refine GoC.seq ?_
      refine GoC.openR (n := 1) q1.1 u.1 hlt2 (fun q2 hq2 => ?_)
      refine GoC.region ?_
      refine GoL.q (op_indexR rfl rfl rfl (by first | assumption | omega)) ?_
      refine GoL.q (op_loadE rfl rfl) ?_
      refine GoL.q (op_assign rfl) ?_
      refine GoL.nil .next ?_
      refine GoC.region ?_
      refine GoL.q (op_move rfl) ?_
      refine GoL.q (op_move rfl) ?_
      refine GoL.y (op_cValM (v := fun _ : Unit => .tuple #[]) (W1 := fun _ => [cel b3 4 [.bool (inF u.2 t.Trucks[s.1][u.1])]]) (R1 := fun _ => []) (Wa := [cel b3 4 [.bool u.2]]) (Ra := []) (f := fn_law18_sane_c1) (us := [.pointer (some ⟨b3, 0, none⟩)]) (vs := [.int .i64 t.Trucks[s.1][u.1]]) rfl rfl (fun sh w h => sane1_spec t.Trucks[s.1][u.1] b3 u.2 sh w h)) ?_
      rintro _ _ _ ⟨_, rfl, rfl, rfl⟩
      refine GoL.nil (.blockNormal (.next)) ?_
      refine GoC.region ?_
      refine GoL.q (op_inc rfl (by omega)) ?_
      refine GoL.q (op_move rfl) ?_
      exact GoL.again (u.1 + 1, inF u.2 t.Trucks[s.1][u.1]) ⟨by omega, by rw [List.drop_eq_getElem_cons hlt2, List.foldl_cons] at hu2; exact hu2⟩ (by simp only; omega) ⟨rfl, rfl, rfl, rfl, rfl, rfl, rfl, rfl, rfl, trivial⟩
    · have hge2 : t.Trucks[s.1].length ≤ u.1 := by simpa using hc1
      refine GoC.exit (.thenExit (.thenExit (.blockSame (.blockNormal (.next))))) ?_
      refine GoC.region ?_
      refine GoL.q (op_inc rfl (by omega)) ?_
      refine GoL.q (op_move rfl) ?_
      exact GoL.again (s.1 + 1, u.2) ⟨by omega, by rw [List.drop_of_length_le hge2] at hu2; rw [List.drop_eq_getElem_cons hlt, List.foldl_cons, ← hu2] at hs2; exact hs2⟩ (by simp only; omega) ⟨rfl, rfl, rfl, rfl, rfl, rfl, trivial⟩
  · have hge : t.Trucks.length ≤ s.1 := by simpa using hc0
    refine GoC.exit (.thenExit (.thenExit (.blockSame (.next)))) ?_
    refine GoC.seq ?_
    refine GoC.seq ?_
    refine GoC.region ?_
    refine GoL.q (op_fieldAddr rfl) ?_
    refine GoL.q (op_load rfl rfl) ?_
    refine GoL.q (op_len rfl) ?_
    refine GoL.q (op_move rfl) ?_
    refine GoL.nil .next ?_
    refine GoC.block ?_
    refine GoC.loop (σ := Nat × Bool) (fun v => [(35, .int .i64 (v.1 : Int))]) [(3, _), (4, _), (33, _), (34, _)] (fun v => [cel b3 4 [.bool v.2], cel b1 32 (cT t q)]) (fun v => _) (fun v => v.1 ≤ t.Bikes.length ∧ (t.Bikes.drop v.1).foldl saneR v.2 = saneF t) (fun v => t.Bikes.length - v.1) (0, s.2) ⟨by simp, by rw [saneF, ← hs2, List.drop_of_length_le hge]; rfl⟩ ⟨rfl, rfl, rfl, rfl, rfl, trivial⟩ (fun _ h => h) ?_
    intro v ⟨hv1, hv2⟩
    refine GoC.seq ?_
    refine GoC.region ?_
    refine GoL.q (op_lss rfl rfl) ?_
    refine GoL.nil .next ?_
    refine GoC.seq ?_
    refine GoC.cond rfl (fun hc2 => ?_) (fun hc2 => ?_)
    · have hlt3 : v.1 < t.Bikes.length := by simpa using hc2
      refine GoC.skipTo .next ?_
      refine GoC.seq ?_
      refine GoC.block ?_
      refine GoC.seq ?_
      refine GoC.openR (n := 3) q.b.1 v.1 hlt3 (fun q1 hq => ?_)
      refine GoC.region ?_
      refine GoL.q (op_indexR rfl rfl rfl (by first | assumption | omega)) ?_
      refine GoL.q (op_loadEA rfl rfl) ?_
      refine GoL.x (op_alloc) ?_
      rintro _ _ _ ⟨b10, rfl, rfl, rfl⟩
      refine GoL.y0 (op_store rfl rfl rfl rfl (by simp [Value.oneCell']) (Nat.le_of_ble_eq_true rfl) rfl) ?_
      rintro _ _ _ ⟨rfl, rfl, rfl⟩
      refine GoL.nil .next ?_
      refine GoC.seq ?_
      refine GoC.region ?_
      refine GoL.q (op_move rfl) ?_
      refine GoL.q (op_fieldAddr rfl) ?_
      refine GoL.q (op_load rfl rfl) ?_
      refine GoL.y (op_cValM (v := fun _ : Unit => .tuple #[]) (W1 := fun _ => [cel b3 4 [.bool (inF v.2 t.Bikes[v.1].Out)]]) (R1 := fun _ => []) (Wa := [cel b3 4 [.bool v.2]]) (Ra := []) (f := fn_law18_sane_c1) (us := [.pointer (some ⟨b3, 0, none⟩)]) (vs := [.int .i64 t.Bikes[v.1].Out]) rfl rfl (fun sh w h => sane1_spec t.Bikes[v.1].Out b3 v.2 sh w h)) ?_
      rintro _ _ _ ⟨_, rfl, rfl, rfl⟩
      refine GoL.nil .next ?_
      refine GoC.seq ?_
      refine GoC.region ?_
      refine GoL.q (op_move rfl) ?_
      refine GoL.q (op_fieldAddr rfl) ?_
      refine GoL.q (op_load rfl rfl) ?_
      refine GoL.y (op_cValM (v := fun _ : Unit => .tuple #[]) (W1 := fun _ => [cel b3 4 [.bool (inF (inF v.2 t.Bikes[v.1].Out) t.Bikes[v.1].Back)]]) (R1 := fun _ => []) (Wa := [cel b3 4 [.bool (inF v.2 t.Bikes[v.1].Out)]]) (Ra := []) (f := fn_law18_sane_c1) (us := [.pointer (some ⟨b3, 0, none⟩)]) (vs := [.int .i64 t.Bikes[v.1].Back]) rfl rfl (fun sh w h => sane1_spec t.Bikes[v.1].Back b3 (inF v.2 t.Bikes[v.1].Out) sh w h)) ?_
      rintro _ _ _ ⟨_, rfl, rfl, rfl⟩
      refine GoL.nil .next ?_
      refine GoC.seq ?_
      refine GoC.region ?_
      refine GoL.q (op_fieldAddr rfl) ?_
      refine GoL.q (op_load rfl rfl) ?_
      refine GoL.q (op_len rfl) ?_
      refine GoL.q (op_move rfl) ?_
      refine GoL.nil .next ?_
      refine GoC.block ?_
      refine GoC.loop (σ := Nat × Bool) (fun z => [(50, .int .i64 (z.1 : Int))]) [(35, _), (3, _), (4, _), (33, _), (34, _), (48, _), (49, _)] (fun z => [cel b3 4 [.bool z.2], cel b10 53 [.int .i64 t.Bikes[v.1].Out, .slice q1.2.1.1 t.Bikes[v.1].Starts.length q1.2.1.2, .int .i64 t.Bikes[v.1].Back], cel b1 32 (cT t q)]) (fun z => _) (fun z => z.1 ≤ t.Bikes[v.1].Starts.length ∧ (t.Bikes[v.1].Starts.drop z.1).foldl inF z.2 = t.Bikes[v.1].Starts.foldl inF (inF (inF v.2 t.Bikes[v.1].Out) t.Bikes[v.1].Back)) (fun z => t.Bikes[v.1].Starts.length - z.1) (0, inF (inF v.2 t.Bikes[v.1].Out) t.Bikes[v.1].Back) ⟨by simp, rfl⟩ ⟨rfl, rfl, rfl, rfl, rfl, rfl, rfl, rfl, trivial⟩ (fun _ h => h) ?_
      intro z ⟨hz1, hz2⟩
      refine GoC.seq ?_
      refine GoC.region ?_
      refine GoL.q (op_lss rfl rfl) ?_
      refine GoL.nil .next ?_
      refine GoC.seq ?_
      refine GoC.cond rfl (fun hc3 => ?_) (fun hc3 => ?_)
      · have hlt4 : z.1 < t.Bikes[v.1].Starts.length := by simpa using hc3
        refine GoC.skipTo .next ?_
        refine GoC.seq ?_
        refine GoC.block ?_
        refine GoC.seq ?_
        refine GoC.openR (n := 1) q1.2.1.1 z.1 hlt4 (fun q2 hq2 => ?_)
        refine GoC.region ?_
        refine GoL.q (op_indexR rfl rfl rfl (by first | assumption | omega)) ?_
        refine GoL.q (op_loadE rfl rfl) ?_
        refine GoL.q (op_assign rfl) ?_
        refine GoL.nil .next ?_
        refine GoC.region ?_
        refine GoL.q (op_move rfl) ?_
        refine GoL.q (op_move rfl) ?_
        refine GoL.y (op_cValM (v := fun _ : Unit => .tuple #[]) (W1 := fun _ => [cel b3 4 [.bool (inF z.2 t.Bikes[v.1].Starts[z.1])]]) (R1 := fun _ => []) (Wa := [cel b3 4 [.bool z.2]]) (Ra := []) (f := fn_law18_sane_c1) (us := [.pointer (some ⟨b3, 0, none⟩)]) (vs := [.int .i64 t.Bikes[v.1].Starts[z.1]]) rfl rfl (fun sh w h => sane1_spec t.Bikes[v.1].Starts[z.1] b3 z.2 sh w h)) ?_
        rintro _ _ _ ⟨_, rfl, rfl, rfl⟩
        refine GoL.nil (.blockNormal (.next)) ?_
        refine GoC.region ?_
        refine GoL.q (op_inc rfl (by omega)) ?_
        refine GoL.q (op_move rfl) ?_
        exact GoL.again (z.1 + 1, inF z.2 t.Bikes[v.1].Starts[z.1]) ⟨by omega, by rw [List.drop_eq_getElem_cons hlt4, List.foldl_cons] at hz2; exact hz2⟩ (by simp only; omega) ⟨rfl, rfl, rfl, rfl, rfl, rfl, rfl, rfl, trivial⟩
      · have hge4 : t.Bikes[v.1].Starts.length ≤ z.1 := by simpa using hc3
        refine GoC.exit (.thenExit (.thenExit (.blockSame (.blockNormal (.next))))) ?_
        refine GoC.region ?_
        refine GoL.q (op_inc rfl (by omega)) ?_
        refine GoL.q (op_move rfl) ?_
        exact GoL.again (v.1 + 1, z.2) ⟨by omega, by rw [List.drop_of_length_le hge4] at hz2; rw [List.drop_eq_getElem_cons hlt3, List.foldl_cons, saneR, ← hz2] at hv2; exact hv2⟩ (by simp only; omega) ⟨rfl, rfl, rfl, rfl, rfl, trivial⟩
    · have hge3 : t.Bikes.length ≤ v.1 := by simpa using hc2
      refine GoC.exit (.thenExit (.thenExit (.blockSame (.next)))) ?_
      refine GoC.seq ?_
      refine GoC.region ?_
      refine GoL.q (op_load rfl rfl) ?_
      refine GoL.q (op_assign rfl) ?_
      refine GoL.nil .next ?_
      refine GoC.ret .here ?_
      refine done1 rfl rfl ?_
      intro w' hw
      have e : saneF t = v.2 := by rw [← hv2, List.drop_of_length_le hge3]; rfl
      exact ⟨by rw [e], hw.keep⟩
end Go.Proofs.Ytdeacehacndopaa

namespace Go.Proofs.Ytdeacehacndopaa
open Go.RowKit

set_option maxRecDepth 20000 in
theorem can_spec (x : Instance) (p : HI) (y : Plan) (r : HP) (t : Times) (q : HP) (hI : OkI x) (hpo : PlanOk x y) (hfit : Fit3 y t) (hy : y.Trucks.length ≤ 9223372036854775807 ∧ y.Bikes.length ≤ 9223372036854775807) (sh : Nat → Prop) (w : World) (h : Holds ⟨0, w, [], sh⟩ [] (rT t q (rP y r (rI x p []))) w) :
    Calls Pr fn_law18_Can #[.agg (cI x p).toArray, .agg (cP y r).toArray, .agg (cT t q).toArray] w fun e w' => e = .returned (.bool (canF x y t)) ∧ Ext w w' := by
  obtain ⟨hy1, hy2⟩ := hy
  have hx := Sq.of hpo.i
  have hx1 := hx.s
  have hx2 := hx.u
  have hxn := hx.n
  have hnt := hfit.nt
  have hnb := hfit.nb
  refine Calls.of_go (args := [_, _, _]) fn_law18_Can_f rfl rfl rfl h ?_
  refine GoC.seq ?_
  refine GoC.region ?_
  refine GoL.x (op_box rfl rfl) ?_
  rintro _ _ _ ⟨b3, rfl, rfl, rfl⟩
  refine GoL.x (op_box rfl rfl) ?_
  rintro _ _ _ ⟨b4, rfl, rfl, rfl⟩
  refine GoL.x (op_box rfl rfl) ?_
  rintro _ _ _ ⟨b5, rfl, rfl, rfl⟩
  refine GoL.q (op_assign rfl) ?_
  refine GoL.nil .next ?_
  refine GoC.seq ?_
  refine GoC.region ?_
  refine GoL.q (op_assign rfl) ?_
  refine GoL.nil .next ?_
  refine GoC.seq ?_
  refine GoC.seq ?_
  refine GoC.region ?_
  refine GoL.q (op_fieldAddr rfl) ?_
  refine GoL.q (op_load rfl rfl) ?_
  refine GoL.q (op_len rfl) ?_
  refine GoL.q (op_move rfl) ?_
  refine GoL.nil .next ?_
  refine GoC.block ?_
  refine GoC.loop (σ := Nat × Bool) (fun s => [(31, .int .i64 (s.1 : Int)), (7, .bool s.2)]) [(3, _), (4, _), (5, _), (29, _), (30, _)] (fun s => _) (fun s => _) (fun s => s.1 ≤ y.Trucks.length ∧ canT x (y.Trucks.drop s.1) (t.Trucks.drop s.1) s.2 = canT x y.Trucks t.Trucks true) (fun s => y.Trucks.length - s.1) (0, true) ⟨by simp, rfl⟩ ⟨rfl, rfl, rfl, rfl, rfl, rfl, rfl, trivial⟩ (fun _ h => h) ?_
  intro s ⟨hs1, hs2⟩
  refine GoC.seq ?_
  refine GoC.region ?_
  refine GoL.q (op_lss rfl rfl) ?_
  refine GoL.nil .next ?_
  refine GoC.seq ?_
  refine GoC.cond rfl (fun hc0 => ?_) (fun hc0 => ?_)
  · have hlt : s.1 < y.Trucks.length := by simpa using hc0
    refine GoC.skipTo .next ?_
    refine GoC.seq ?_
    refine GoC.block ?_
    refine GoC.seq ?_
    have hltm : s.1 < t.Trucks.length := by omega
    refine GoC.openR (n := 1) r.t.1 s.1 hlt (fun q1 hq => ?_)
    refine GoC.openR (n := 1) q.t.1 s.1 hltm (fun q2 hq2 => ?_)
    have hlen := hfit.lt s.1 hlt hltm
    refine GoC.region ?_
    refine GoL.q (op_move rfl) ?_
    refine GoL.q (op_indexR rfl rfl rfl (by first | assumption | omega)) ?_
    refine GoL.q (op_loadEA rfl rfl) ?_
    refine GoL.x (op_alloc) ?_
    rintro _ _ _ ⟨b9, rfl, rfl, rfl⟩
    refine GoL.q (op_assign rfl) ?_
    refine GoL.y0 (op_store rfl rfl rfl rfl (by simp [Value.oneCell']) (Nat.le_of_ble_eq_true rfl) rfl) ?_
    rintro _ _ _ ⟨rfl, rfl, rfl⟩
    refine GoL.nil .next ?_
    refine GoC.seq ?_
    refine GoC.region ?_
    refine GoL.q (op_assign rfl) ?_
    refine GoL.q (op_assign rfl) ?_
    refine GoL.nil .next ?_
    refine GoC.seq ?_
    refine GoC.seq ?_
    refine GoC.region ?_
    refine GoL.q (op_fieldAddr rfl) ?_
    refine GoL.q (op_load rfl rfl) ?_
    refine GoL.q (op_len rfl) ?_
    refine GoL.q (op_move rfl) ?_
    refine GoL.nil .next ?_
    refine GoC.block ?_
    refine GoC.loop (σ := Nat × Bool × Int × Int) (fun u => [(39, .int .i64 (u.1 : Int)), (7, .bool u.2.1), (10, .int .i64 u.2.2.1), (11, .int .i64 u.2.2.2)]) [(31, _), (3, _), (4, _), (5, _), (29, _), (30, _), (8, _), (37, _), (38, _)] (fun u => _) (fun u => _) (fun u => u.1 ≤ y.Trucks[s.1].Stops.length ∧ (0 ≤ u.2.2.2 ∧ u.2.2.2 < x.Time.length ∧ canTL x (y.Trucks[s.1].Stops.drop u.1) (t.Trucks[s.1].drop u.1) u.2.2.1 u.2.2.2 u.2.1 = canTL x y.Trucks[s.1].Stops t.Trucks[s.1] 0 0 s.2)) (fun u => y.Trucks[s.1].Stops.length - u.1) (0, s.2, 0, 0) ⟨by simp, by simp, by simp; omega, rfl⟩ ⟨rfl, rfl, rfl, rfl, rfl, rfl, rfl, rfl, rfl, rfl, rfl, rfl, rfl, trivial⟩ (fun _ h => h) ?_
    intro u ⟨hu1, hu2⟩
    refine GoC.seq ?_
    refine GoC.region ?_
    refine GoL.q (op_lss rfl rfl) ?_
    refine GoL.nil .next ?_
    refine GoC.seq ?_
    refine GoC.cond rfl (fun hc1 => ?_) (fun hc1 => ?_)
    · have hlt2 : u.1 < y.Trucks[s.1].Stops.length := by simpa using hc1
      refine GoC.skipTo .next ?_
      refine GoC.seq ?_
      refine GoC.block ?_
      refine GoC.seq ?_
      have hltn : u.1 < t.Trucks[s.1].length := by omega
      have hcc := hpo.t _ (List.getElem_mem hlt) _ (List.getElem_mem hlt2)
      refine GoC.openR (n := 2) q1.1 u.1 hlt2 (fun q3 hq3 => ?_)
      refine GoC.openR (n := 1) q2.1 u.1 hltn (fun q4 hq4 => ?_)
      have hn1 : u.2.2.2.toNat < x.Time.length := by omega
      refine GoC.openR (n := 1) p.t.1 u.2.2.2.toNat hn1 (fun q5 hq5 => ?_)
      have hn2 : 1 + y.Trucks[s.1].Stops[u.1].Sat.toNat < x.Time[u.2.2.2.toNat].length := by rw [hx.r]; omega
      refine GoC.openR (n := 1) q5.1 (1 + y.Trucks[s.1].Stops[u.1].Sat.toNat) hn2 (fun q6 hq6 => ?_)
      have htm := tm_eq hn1 hn2 (Int.toNat_of_nonneg hu2.1).symm (ns_eq hx hcc)
      have hns0 : 0 ≤ ns y.Trucks[s.1].Stops[u.1].Sat := by rw [ns_eq hx hcc]; omega
      have hns1 : ns y.Trucks[s.1].Stops[u.1].Sat < x.Time.length := by rw [ns_eq hx hcc]; omega
      refine GoC.region ?_
      refine GoL.q (op_move rfl) ?_
      refine GoL.q (op_indexR rfl rfl rfl (by first | assumption | omega)) ?_
      refine GoL.q (op_loadEA rfl rfl) ?_
      refine GoL.x (op_alloc) ?_
      rintro _ _ _ ⟨b13, rfl, rfl, rfl⟩
      refine GoL.q (op_assign rfl) ?_
      refine GoL.y0 (op_store rfl rfl rfl rfl (by simp [Value.oneCell']) (Nat.le_of_ble_eq_true rfl) rfl) ?_
      rintro _ _ _ ⟨rfl, rfl, rfl⟩
      refine GoL.nil .next ?_
      refine GoC.seq ?_
      refine GoC.region ?_
      refine GoL.q (op_fieldAddr rfl) ?_
      refine GoL.q (op_load rfl rfl) ?_
      refine GoL.q (op_move rfl) ?_
      refine GoL.q (op_indexR rfl rfl rfl hltm) ?_
      refine GoL.q (op_loadE rfl rfl) ?_
      refine GoL.q (op_move rfl) ?_
      refine GoL.q (op_indexR rfl rfl rfl hltn) ?_
      refine GoL.q (op_loadE rfl rfl) ?_
      refine GoL.q (op_assign rfl) ?_
      refine GoL.nil .next ?_
      refine GoC.seq ?_
      refine GoC.draw 28 [] [0, 1, 2, 3, 4, 5, 6, 7, 8, 9, 10, 11, 12, 13, 14, 15, 16, 17, 18, 19, 20, 21, 22, 23, 24, 25, 26, 27] (by kernel_rfl) Pr_mixed ?_
      refine Can.q rfl (op_move rfl) ?_
      refine Can.q rfl (op_move rfl) ?_
      apply Can.and (x := 56) (l1 := [2, 3, 4]) rfl rfl rfl rfl rfl rfl rfl rfl rfl (Wn.none rfl)
      · intro hg2 r' k'
        refine Can.q rfl (op_move rfl) ?_ (hw := Wn.some rfl rfl rfl hg2)
        refine Can.q rfl (op_move rfl) ?_ (hw := Wn.some rfl rfl rfl hg2)
        refine Can.q rfl (op_geq rfl rfl) ?_ (hw := Wn.some rfl rfl rfl hg2)
        exact k' _ (Le.part (k := 3) rfl rfl rfl)
      refine Can.q rfl (op_move rfl) ?_
      apply Can.and (x := 72) (l1 := [7, 8, 9, 10, 11, 12, 13, 14, 15, 16, 17, 18, 19, 20]) rfl rfl rfl rfl rfl rfl rfl rfl rfl (Wn.none rfl)
      · intro hg3 r' k'
        refine Can.q rfl (op_move rfl) ?_ (hw := Wn.some rfl rfl rfl hg3)
        refine Can.q rfl (op_move rfl) ?_ (hw := Wn.some rfl rfl rfl hg3)
        refine Can.q rfl (op_sub rfl rfl) ?_ (hw := Wn.some rfl rfl rfl hg3)
        refine Can.q rfl (op_fieldAddr rfl) ?_ (hw := Wn.some rfl rfl rfl hg3)
        refine Can.q rfl (op_load rfl rfl) ?_ (hw := Wn.some rfl rfl rfl hg3)
        refine Can.q rfl (op_move rfl) ?_ (hw := Wn.some rfl rfl rfl hg3)
        refine Can.q rfl (op_indexR rfl rfl (Int.toNat_of_nonneg hu2.1).symm hn1) ?_ (hw := Wn.some rfl rfl rfl hg3)
        refine Can.q rfl (op_loadE rfl rfl) ?_ (hw := Wn.some rfl rfl rfl hg3)
        refine Can.q rfl (op_fieldAddr rfl) ?_ (hw := Wn.some rfl rfl rfl hg3)
        refine Can.q rfl (op_load rfl rfl) ?_ (hw := Wn.some rfl rfl rfl hg3)
        refine Can.q rfl (op_add rfl rfl) ?_ (hw := Wn.some rfl rfl rfl hg3)
        refine Can.q rfl (op_indexR rfl rfl (ns_eq hx hcc) hn2) ?_ (hw := Wn.some rfl rfl rfl hg3)
        refine Can.q rfl (op_loadE rfl rfl) ?_ (hw := Wn.some rfl rfl rfl hg3)
        refine Can.q rfl (op_geq rfl rfl) ?_ (hw := Wn.some rfl rfl rfl hg3)
        exact k' _ (Le.part (k := 14) rfl rfl rfl)
      refine Can.q rfl (op_move rfl) ?_
      apply Can.and (x := 78) (l1 := [23, 24, 25, 26]) rfl rfl rfl rfl rfl rfl rfl rfl rfl (Wn.none rfl)
      · intro hg4 r' k'
        refine Can.q rfl (op_move rfl) ?_ (hw := Wn.some rfl rfl rfl hg4)
        refine Can.q rfl (op_fieldAddr rfl) ?_ (hw := Wn.some rfl rfl rfl hg4)
        refine Can.q rfl (op_load rfl rfl) ?_ (hw := Wn.some rfl rfl rfl hg4)
        refine Can.q rfl (op_leq rfl rfl) ?_ (hw := Wn.some rfl rfl rfl hg4)
        exact k' _ (Le.part (k := 4) rfl rfl rfl)
      refine Can.nil rfl ?_
      refine GoL.q (op_assign rfl) ?_
      refine GoL.nil .next ?_
      refine GoC.sub (E' := [(39, _), (7, _), (10, _), (11, _), (31, _), (3, _), (4, _), (5, _), (29, _), (30, _), (8, _), (37, _), (38, _), (13, _), (14, _)]) ⟨rfl, rfl, rfl, rfl, rfl, rfl, rfl, rfl, rfl, rfl, rfl, rfl, rfl, rfl, rfl, trivial⟩ ?_
      refine GoC.draw 5 [] [0, 1, 2, 3, 4] (by kernel_rfl) Pr_mixed ?_
      refine Can.q rfl (op_move rfl) ?_
      refine Can.q rfl (op_fieldAddr rfl) ?_
      refine Can.q rfl (op_load rfl rfl) ?_
      refine Can.q rfl (op_add rfl rfl) ?_
      refine Can.q rfl (op_assign rfl) ?_
      refine Can.nil rfl ?_
      refine GoL.q (op_assign rfl) ?_
      refine GoL.nil (.blockNormal (.next)) ?_
      refine GoC.region ?_
      refine GoL.q (op_inc rfl (by omega)) ?_
      refine GoL.q (op_move rfl) ?_
      exact GoL.again (u.1 + 1, _, t.Trucks[s.1][u.1], ns y.Trucks[s.1].Stops[u.1].Sat) ⟨by omega, hns0, hns1, by have h5 := hu2.2.2; rw [List.drop_eq_getElem_cons hlt2, List.drop_eq_getElem_cons hltn, canTL, ← htm] at h5; exact h5⟩ (by simp only; omega) ⟨rfl, rfl, rfl, rfl, rfl, rfl, rfl, rfl, rfl, rfl, rfl, rfl, rfl, trivial⟩
    · have hge2 : y.Trucks[s.1].Stops.length ≤ u.1 := by simpa using hc1
      refine GoC.exit (.thenExit (.thenExit (.blockSame (.next)))) ?_
      have hn1 : u.2.2.2.toNat < x.Time.length := by omega
      refine GoC.openR (n := 1) p.t.1 u.2.2.2.toNat hn1 (fun q5 hq5 => ?_)
      have hn2 : 0 < x.Time[u.2.2.2.toNat].length := by rw [hx.r]; omega
      refine GoC.openR (n := 1) q5.1 0 hn2 (fun q6 hq6 => ?_)
      have htm := tm_eq hn1 hn2 (Int.toNat_of_nonneg hu2.1).symm (rfl : (0 : Int) = ((0 : Nat) : Int))
      have hcan : canTL x y.Trucks[s.1].Stops t.Trucks[s.1] 0 0 s.2 = u.2 := by have h5 := hu2.2.2; rw [List.drop_of_length_le hge2] at h5; exact h5.symm
      refine GoC.draw 21 [] [0, 1, 2, 3, 4, 5, 6, 7, 8, 9, 10, 11, 12, 13, 14, 15, 16, 17, 18, 19, 20] (by kernel_rfl) Pr_mixed ?_
      refine Can.q rfl (op_move rfl) ?_
      refine Can.q rfl (op_move rfl) ?_
      apply Can.and (x := 90) (l1 := [2, 3, 4, 5]) rfl rfl rfl rfl rfl rfl rfl rfl rfl (Wn.none rfl)
      · intro hg5 r' k'
        refine Can.q rfl (op_move rfl) ?_ (hw := Wn.some rfl rfl rfl hg5)
        refine Can.q rfl (op_fieldAddr rfl) ?_ (hw := Wn.some rfl rfl rfl hg5)
        refine Can.q rfl (op_load rfl rfl) ?_ (hw := Wn.some rfl rfl rfl hg5)
        refine Can.q rfl (op_leq rfl rfl) ?_ (hw := Wn.some rfl rfl rfl hg5)
        exact k' _ (Le.part (k := 4) rfl rfl rfl)
      refine Can.q rfl (op_move rfl) ?_
      apply Can.and (x := 104) (l1 := [8, 9, 10, 11, 12, 13, 14, 15, 16, 17, 18, 19]) rfl rfl rfl rfl rfl rfl rfl rfl rfl (Wn.none rfl)
      · intro hg6 r' k'
        refine Can.q rfl (op_move rfl) ?_ (hw := Wn.some rfl rfl rfl hg6)
        refine Can.q rfl (op_fieldAddr rfl) ?_ (hw := Wn.some rfl rfl rfl hg6)
        refine Can.q rfl (op_load rfl rfl) ?_ (hw := Wn.some rfl rfl rfl hg6)
        refine Can.q rfl (op_move rfl) ?_ (hw := Wn.some rfl rfl rfl hg6)
        refine Can.q rfl (op_indexR rfl rfl (Int.toNat_of_nonneg hu2.1).symm hn1) ?_ (hw := Wn.some rfl rfl rfl hg6)
        refine Can.q rfl (op_loadE rfl rfl) ?_ (hw := Wn.some rfl rfl rfl hg6)
        refine Can.q rfl (op_indexR rfl rfl (k := 0) rfl hn2) ?_ (hw := Wn.some rfl rfl rfl hg6)
        refine Can.q rfl (op_loadE rfl rfl) ?_ (hw := Wn.some rfl rfl rfl hg6)
        refine Can.q rfl (op_add rfl rfl) ?_ (hw := Wn.some rfl rfl rfl hg6)
        refine Can.q rfl (op_fieldAddr rfl) ?_ (hw := Wn.some rfl rfl rfl hg6)
        refine Can.q rfl (op_load rfl rfl) ?_ (hw := Wn.some rfl rfl rfl hg6)
        refine Can.q rfl (op_leq rfl rfl) ?_ (hw := Wn.some rfl rfl rfl hg6)
        exact k' _ (Le.part (k := 12) rfl rfl rfl)
      refine Can.nil rfl ?_
      refine GoL.q (op_assign rfl) ?_
      refine GoL.nil (.blockNormal (.next)) ?_
      refine GoC.region ?_
      refine GoL.q (op_inc rfl (by omega)) ?_
      refine GoL.q (op_move rfl) ?_
      exact GoL.again (s.1 + 1, _) ⟨by omega, by rw [List.drop_eq_getElem_cons hlt, List.drop_eq_getElem_cons hltm, canT, hcan, canEnd, ← htm] at hs2; exact hs2⟩ (by simp only; omega) ⟨rfl, rfl, rfl, rfl, rfl, rfl, rfl, trivial⟩
  · have hge : y.Trucks.length ≤ s.1 := by simpa using hc0
    refine GoC.exit (.thenExit (.thenExit (.blockSame (.next)))) ?_
    refine GoC.seq ?_
    refine GoC.seq ?_
    refine GoC.region ?_
    refine GoL.q (op_move rfl) ?_
    refine GoL.q (op_not rfl) ?_
    refine GoL.nil .next ?_
    refine GoC.cond rfl (fun hc7 => ?_) (fun hc7 => ?_)
    · have hno := hc7
      refine GoC.seq ?_
      refine GoC.region ?_
      refine GoL.q (op_assign rfl) ?_
      refine GoL.nil .next ?_
      refine GoC.ret (.thenRet (.here)) ?_
      refine done1 rfl rfl ?_
      intro w' hw
      have e : canF x y t = false := if_pos (by rw [← hs2, List.drop_of_length_le hge]; exact hno)
      exact ⟨by rw [e], hw.keep⟩
    · have hno := hc7
      refine GoC.skipTo .next ?_
      refine GoC.seq ?_
      refine GoC.seq ?_
      refine GoC.region ?_
      refine GoL.q (op_fieldAddr rfl) ?_
      refine GoL.q (op_load rfl rfl) ?_
      refine GoL.q (op_len rfl) ?_
      refine GoL.q (op_move rfl) ?_
      refine GoL.nil .next ?_
      refine GoC.block ?_
      have hcan0 : canK x y.Trucks t.Trucks y.Bikes t.Bikes s.2 = canF x y t := by
        have e : canT x y.Trucks t.Trucks true = s.2 := by rw [← hs2, List.drop_of_length_le hge, canT]
        exact ((if_neg (Bool.eq_false_iff.1 (by rw [e]; exact hno))).trans (by rw [e])).symm
      refine GoC.loop (σ := Nat × Bool) (fun v => [(112, .int .i64 (v.1 : Int)), (7, .bool v.2)]) [(3, _), (4, _), (5, _), (110, _), (111, _)] (fun v => _) (fun v => _) (fun v => v.1 ≤ y.Bikes.length ∧ canK x y.Trucks t.Trucks (y.Bikes.drop v.1) (t.Bikes.drop v.1) v.2 = canF x y t) (fun v => y.Bikes.length - v.1) (0, s.2) ⟨by simp, hcan0⟩ ⟨rfl, rfl, rfl, rfl, rfl, rfl, rfl, trivial⟩ (fun _ h => h) ?_
      intro v ⟨hv1, hv2⟩
      refine GoC.seq ?_
      refine GoC.region ?_
      refine GoL.q (op_lss rfl rfl) ?_
      refine GoL.nil .next ?_
      refine GoC.seq ?_
      refine GoC.cond rfl (fun hc8 => ?_) (fun hc8 => ?_)
      · have hlt3 : v.1 < y.Bikes.length := by simpa using hc8
        refine GoC.skipTo .next ?_
        refine GoC.seq ?_
        refine GoC.block ?_
        refine GoC.seq ?_
        have hltm : v.1 < t.Bikes.length := by omega
        have hbs := (hpo.b _ (List.getElem_mem hlt3)).1
        refine GoC.openR (n := 2) r.b.1 v.1 hlt3 (fun q1 hq => ?_)
        refine GoC.openR (n := 3) q.b.1 v.1 hltm (fun q2 hq2 => ?_)
        have hlen := hfit.lb v.1 hlt3 hltm
        have hn4 : y.Bikes[v.1].Sat.toNat < x.Sats.length := by omega
        refine GoC.openR (n := 2) p.s.1 y.Bikes[v.1].Sat.toNat hn4 (fun q7 hq7 => ?_)
        have hho : x.Sats[y.Bikes[v.1].Sat.toNat].Hold = holdOf x y.Bikes[v.1].Sat := by rw [holdOf, getD_lt _ hn4]
        have hns0 : 0 ≤ ns y.Bikes[v.1].Sat := by rw [ns_eq hx hbs]; omega
        have hns1 : ns y.Bikes[v.1].Sat < x.Time.length := by rw [ns_eq hx hbs]; omega
        refine GoC.region ?_
        refine GoL.q (op_move rfl) ?_
        refine GoL.q (op_indexR rfl rfl rfl (by first | assumption | omega)) ?_
        refine GoL.q (op_loadEA rfl rfl) ?_
        refine GoL.x (op_alloc) ?_
        rintro _ _ _ ⟨b16, rfl, rfl, rfl⟩
        refine GoL.q (op_assign rfl) ?_
        refine GoL.y0 (op_store rfl rfl rfl rfl (by simp [Value.oneCell']) (Nat.le_of_ble_eq_true rfl) rfl) ?_
        rintro _ _ _ ⟨rfl, rfl, rfl⟩
        refine GoL.nil .next ?_
        refine GoC.seq ?_
        refine GoC.region ?_
        refine GoL.q (op_fieldAddr rfl) ?_
        refine GoL.q (op_load rfl rfl) ?_
        refine GoL.q (op_move rfl) ?_
        refine GoL.q (op_indexR rfl rfl rfl hltm) ?_
        refine GoL.q (op_loadEA rfl rfl) ?_
        refine GoL.x (op_alloc) ?_
        rintro _ _ _ ⟨b17, rfl, rfl, rfl⟩
        refine GoL.y0 (op_store rfl rfl rfl rfl (by simp [Value.oneCell']) (Nat.le_of_ble_eq_true rfl) rfl) ?_
        rintro _ _ _ ⟨rfl, rfl, rfl⟩
        refine GoL.nil .next ?_
        refine GoC.seq ?_
        refine GoC.region ?_
        refine GoL.q (op_move rfl) ?_
        refine GoL.q (op_move rfl) ?_
        apply GoL.and (m := 3) (x := 126) rfl rfl rfl rfl rfl rfl rfl rfl (Wn.none rfl)
        · intro hg9
          refine GoL.q (op_fieldAddr rfl) ?_ (hg := Wn.some rfl rfl rfl hg9)
          refine GoL.q (op_load rfl rfl) ?_ (hg := Wn.some rfl rfl rfl hg9)
          refine GoL.q (op_geq rfl rfl) ?_ (hg := Wn.some rfl rfl rfl hg9)
          exact GoL.part (k := 3) rfl rfl rfl
        refine GoL.q (op_move rfl) ?_
        apply GoL.and (m := 5) (x := 133) rfl rfl rfl rfl rfl rfl rfl rfl (Wn.none rfl)
        · intro hg10
          refine GoL.q (op_fieldAddr rfl) ?_ (hg := Wn.some rfl rfl rfl hg10)
          refine GoL.q (op_load rfl rfl) ?_ (hg := Wn.some rfl rfl rfl hg10)
          refine GoL.q (op_fieldAddr rfl) ?_ (hg := Wn.some rfl rfl rfl hg10)
          refine GoL.q (op_load rfl rfl) ?_ (hg := Wn.some rfl rfl rfl hg10)
          refine GoL.q (op_leq rfl rfl) ?_ (hg := Wn.some rfl rfl rfl hg10)
          exact GoL.part (k := 5) rfl rfl rfl
        refine GoL.q (op_assign rfl) ?_
        refine GoL.nil .next ?_
        refine GoC.seq ?_
        refine GoC.seq ?_
        refine GoC.region ?_
        refine GoL.q (op_fieldAddr rfl) ?_
        refine GoL.q (op_load rfl rfl) ?_
        refine GoL.q (op_len rfl) ?_
        refine GoL.q (op_move rfl) ?_
        refine GoL.nil .next ?_
        refine GoC.block ?_
        refine GoC.loop (σ := Nat × Bool) (fun a => [(138, .int .i64 (a.1 : Int)), (7, .bool a.2)]) [(112, _), (3, _), (4, _), (5, _), (110, _), (111, _), (16, _), (17, _), (136, _), (137, _)] (fun a => _) (fun a => _) (fun a => a.1 ≤ y.Trucks.length ∧ canRT x y.Bikes[v.1].Sat t.Bikes[v.1].Out (y.Trucks.drop a.1) (t.Trucks.drop a.1) a.2 = canRT x y.Bikes[v.1].Sat t.Bikes[v.1].Out y.Trucks t.Trucks ((v.2 && decide (0 ≤ t.Bikes[v.1].Out)) && decide (t.Bikes[v.1].Out ≤ x.End))) (fun a => y.Trucks.length - a.1) (0, _) ⟨by simp, rfl⟩ ⟨rfl, rfl, rfl, rfl, rfl, rfl, rfl, rfl, rfl, rfl, rfl, rfl, trivial⟩ (fun _ h => h) ?_
        intro a ⟨ha1, ha2⟩
        refine GoC.seq ?_
        refine GoC.region ?_
        refine GoL.q (op_lss rfl rfl) ?_
        refine GoL.nil .next ?_
        refine GoC.seq ?_
        refine GoC.cond rfl (fun hc11 => ?_) (fun hc11 => ?_)
        · have hlt4 : a.1 < y.Trucks.length := by simpa using hc11
          refine GoC.skipTo .next ?_
          refine GoC.seq ?_
          refine GoC.block ?_
          refine GoC.seq ?_
          have hltc : a.1 < t.Trucks.length := by omega
          refine GoC.openR (n := 1) r.t.1 a.1 hlt4 (fun q3 hq3 => ?_)
          refine GoC.openR (n := 1) q.t.1 a.1 hltc (fun q4 hq4 => ?_)
          have hlen4 := hfit.lt a.1 hlt4 hltc
          refine GoC.region ?_
          refine GoL.q (op_move rfl) ?_
          refine GoL.q (op_indexR rfl rfl rfl (by first | assumption | omega)) ?_
          refine GoL.q (op_loadEA rfl rfl) ?_
          refine GoL.x (op_alloc) ?_
          rintro _ _ _ ⟨b19, rfl, rfl, rfl⟩
          refine GoL.q (op_assign rfl) ?_
          refine GoL.y0 (op_store rfl rfl rfl rfl (by simp [Value.oneCell']) (Nat.le_of_ble_eq_true rfl) rfl) ?_
          rintro _ _ _ ⟨rfl, rfl, rfl⟩
          refine GoL.nil .next ?_
          refine GoC.seq ?_
          refine GoC.region ?_
          refine GoL.q (op_fieldAddr rfl) ?_
          refine GoL.q (op_load rfl rfl) ?_
          refine GoL.q (op_len rfl) ?_
          refine GoL.q (op_move rfl) ?_
          refine GoL.nil .next ?_
          refine GoC.block ?_
          refine GoC.loop (σ := Nat × Bool) (fun b => [(146, .int .i64 (b.1 : Int)), (7, .bool b.2)]) [(138, _), (112, _), (3, _), (4, _), (5, _), (110, _), (111, _), (16, _), (17, _), (136, _), (137, _), (18, _), (144, _), (145, _)] (fun b => _) (fun b => _) (fun b => b.1 ≤ y.Trucks[a.1].Stops.length ∧ canRL x y.Bikes[v.1].Sat t.Bikes[v.1].Out (y.Trucks[a.1].Stops.drop b.1) (t.Trucks[a.1].drop b.1) b.2 = canRL x y.Bikes[v.1].Sat t.Bikes[v.1].Out y.Trucks[a.1].Stops t.Trucks[a.1] a.2) (fun b => y.Trucks[a.1].Stops.length - b.1) (0, a.2) ⟨by simp, rfl⟩ ⟨rfl, rfl, rfl, rfl, rfl, rfl, rfl, rfl, rfl, rfl, rfl, rfl, rfl, rfl, rfl, rfl, trivial⟩ (fun _ h => h) ?_
          intro b ⟨hb1, hb2⟩
          refine GoC.seq ?_
          refine GoC.region ?_
          refine GoL.q (op_lss rfl rfl) ?_
          refine GoL.nil .next ?_
          refine GoC.seq ?_
          refine GoC.cond rfl (fun hc12 => ?_) (fun hc12 => ?_)
          · have hlt5 : b.1 < y.Trucks[a.1].Stops.length := by simpa using hc12
            refine GoC.skipTo .next ?_
            refine GoC.seq ?_
            refine GoC.block ?_
            refine GoC.seq ?_
            have hltd : b.1 < t.Trucks[a.1].length := by omega
            refine GoC.openR (n := 2) q3.1 b.1 hlt5 (fun q5 hq5 => ?_)
            refine GoC.openR (n := 1) q4.1 b.1 hltd (fun q6 hq6 => ?_)
            refine GoC.region ?_
            refine GoL.q (op_move rfl) ?_
            refine GoL.q (op_indexR rfl rfl rfl (by first | assumption | omega)) ?_
            refine GoL.q (op_loadEA rfl rfl) ?_
            refine GoL.x (op_alloc) ?_
            rintro _ _ _ ⟨b21, rfl, rfl, rfl⟩
            refine GoL.q (op_assign rfl) ?_
            refine GoL.y0 (op_store rfl rfl rfl rfl (by simp [Value.oneCell']) (Nat.le_of_ble_eq_true rfl) rfl) ?_
            rintro _ _ _ ⟨rfl, rfl, rfl⟩
            refine GoL.nil .next ?_
            refine GoC.draw 29 [] [0, 1, 2, 3, 4, 5, 6, 7, 8, 9, 10, 11, 12, 13, 14, 15, 16, 17, 18, 19, 20, 21, 22, 23, 24, 25, 26, 27, 28] (by kernel_rfl) Pr_mixed ?_
            refine Can.q rfl (op_move rfl) ?_
            refine Can.q rfl (op_move rfl) ?_
            apply Can.and (x := 178) (l1 := [2, 3, 4, 5, 6, 7, 8, 9, 10, 11, 12, 13, 14, 15, 16, 17, 18, 19, 20, 21, 22, 23, 24, 25, 26, 27]) rfl rfl rfl rfl rfl rfl rfl rfl rfl (Wn.none rfl)
            · intro hg13 r' k'
              refine Can.q rfl (op_fieldAddr rfl) ?_ (hw := Wn.some rfl rfl rfl hg13)
              refine Can.q rfl (op_load rfl rfl) ?_ (hw := Wn.some rfl rfl rfl hg13)
              refine Can.q rfl (op_fieldAddr rfl) ?_ (hw := Wn.some rfl rfl rfl hg13)
              refine Can.q rfl (op_load rfl rfl) ?_ (hw := Wn.some rfl rfl rfl hg13)
              refine Can.q rfl (op_neq rfl rfl) ?_ (hw := Wn.some rfl rfl rfl hg13)
              refine Can.q rfl (op_move rfl) ?_ (hw := Wn.some rfl rfl rfl hg13)
              apply Can.or (x := 177) (l1 := [8, 9, 10, 11, 12, 13, 14, 15, 16, 17, 18, 19, 20, 21, 22, 23, 24, 25, 26]) rfl rfl rfl rfl rfl rfl rfl rfl rfl (Wn.some rfl rfl rfl hg13)
              · intro hg14 r' k'
                refine Can.q rfl (op_fieldAddr rfl) ?_ (hw := Wn.some rfl rfl rfl hg14)
                refine Can.q rfl (op_load rfl rfl) ?_ (hw := Wn.some rfl rfl rfl hg14)
                refine Can.q rfl (op_fieldAddr rfl) ?_ (hw := Wn.some rfl rfl rfl hg14)
                refine Can.q rfl (op_load rfl rfl) ?_ (hw := Wn.some rfl rfl rfl hg14)
                refine Can.q rfl (op_move rfl) ?_ (hw := Wn.some rfl rfl rfl hg14)
                refine Can.q rfl (op_indexR rfl rfl rfl hltc) ?_ (hw := Wn.some rfl rfl rfl hg14)
                refine Can.q rfl (op_loadE rfl rfl) ?_ (hw := Wn.some rfl rfl rfl hg14)
                refine Can.q rfl (op_move rfl) ?_ (hw := Wn.some rfl rfl rfl hg14)
                refine Can.q rfl (op_indexR rfl rfl rfl hltd) ?_ (hw := Wn.some rfl rfl rfl hg14)
                refine Can.q rfl (op_loadE rfl rfl) ?_ (hw := Wn.some rfl rfl rfl hg14)
                refine Can.q rfl (op_fieldAddr rfl) ?_ (hw := Wn.some rfl rfl rfl hg14)
                refine Can.q rfl (op_load rfl rfl) ?_ (hw := Wn.some rfl rfl rfl hg14)
                refine Can.q rfl (op_fieldAddr rfl) ?_ (hw := Wn.some rfl rfl rfl hg14)
                refine Can.q rfl (op_load rfl rfl) ?_ (hw := Wn.some rfl rfl rfl hg14)
                refine Can.q rfl (op_indexR rfl rfl (Int.toNat_of_nonneg hbs.1).symm hn4) ?_ (hw := Wn.some rfl rfl rfl hg14)
                refine Can.q rfl (op_fieldAddrE rfl) ?_ (hw := Wn.some rfl rfl rfl hg14)
                refine Can.q rfl (op_loadF rfl rfl) ?_ (hw := Wn.some rfl rfl rfl hg14)
                refine Can.q rfl (op_add rfl rfl) ?_ (hw := Wn.some rfl rfl rfl hg14)
                refine Can.q rfl (op_geq rfl rfl) ?_ (hw := Wn.some rfl rfl rfl hg14)
                exact k' _ (Le.part (k := 19) rfl rfl rfl)
              exact k' _ (Le.part (k := 7) rfl rfl rfl)
            refine Can.nil rfl ?_
            refine GoL.q (op_assign rfl) ?_
            refine GoL.nil (.blockNormal (.next)) ?_
            refine GoC.region ?_
            refine GoL.q (op_inc rfl (by omega)) ?_
            refine GoL.q (op_move rfl) ?_
            exact GoL.again (b.1 + 1, _) ⟨by omega, by rw [List.drop_eq_getElem_cons hlt5, List.drop_eq_getElem_cons hltd, canRL, ← hho] at hb2; exact hb2⟩ (by simp only; omega) ⟨rfl, rfl, rfl, rfl, rfl, rfl, rfl, rfl, rfl, rfl, rfl, rfl, rfl, rfl, rfl, rfl, trivial⟩
          · have hge5 : y.Trucks[a.1].Stops.length ≤ b.1 := by simpa using hc12
            refine GoC.exit (.thenExit (.thenExit (.blockSame (.blockNormal (.next))))) ?_
            refine GoC.region ?_
            refine GoL.q (op_inc rfl (by omega)) ?_
            refine GoL.q (op_move rfl) ?_
            exact GoL.again (a.1 + 1, b.2) ⟨by omega, by rw [List.drop_of_length_le hge5, canRL] at hb2; rw [List.drop_eq_getElem_cons hlt4, List.drop_eq_getElem_cons hltc, canRT, ← hb2] at ha2; exact ha2⟩ (by simp only; omega) ⟨rfl, rfl, rfl, rfl, rfl, rfl, rfl, rfl, rfl, rfl, rfl, rfl, trivial⟩
        · have hge4 : y.Trucks.length ≤ a.1 := by simpa using hc11
          refine GoC.exit (.thenExit (.thenExit (.blockSame (.next)))) ?_
          refine GoC.seq ?_
          refine GoC.draw 6 [] [0, 1, 2, 3, 4, 5] (by kernel_rfl) Pr_mixed ?_
          refine Can.q rfl (op_fieldAddr rfl) ?_
          refine Can.q rfl (op_load rfl rfl) ?_
          refine Can.q rfl (op_fieldAddr rfl) ?_
          refine Can.q rfl (op_load rfl rfl) ?_
          refine Can.q rfl (op_add rfl rfl) ?_
          refine Can.q rfl (op_assign rfl) ?_
          refine Can.nil rfl ?_
          refine GoL.q (op_assign rfl) ?_
          refine GoL.nil .next ?_
          refine GoC.seq ?_
          refine GoC.seq ?_
          refine GoC.region ?_
          refine GoL.q (op_fieldAddr rfl) ?_
          refine GoL.q (op_load rfl rfl) ?_
          refine GoL.q (op_len rfl) ?_
          refine GoL.q (op_move rfl) ?_
          refine GoL.nil .next ?_
          refine GoC.block ?_
          refine GoC.loop (σ := Nat × Bool × Int × Int) (fun z => [(190, .int .i64 (z.1 : Int)), (7, .bool z.2.1), (22, .int .i64 z.2.2.1), (23, .int .i64 z.2.2.2)]) [(112, _), (3, _), (4, _), (5, _), (110, _), (111, _), (16, _), (17, _), (188, _), (189, _)] (fun z => _) (fun z => _) (fun z => z.1 ≤ y.Bikes[v.1].Stops.length ∧ (0 ≤ z.2.2.2 ∧ z.2.2.2 < x.Time.length ∧ canBL x (y.Bikes[v.1].Stops.drop z.1) (t.Bikes[v.1].Starts.drop z.1) z.2.2.1 z.2.2.2 z.2.1 = canBL x y.Bikes[v.1].Stops t.Bikes[v.1].Starts t.Bikes[v.1].Out (ns y.Bikes[v.1].Sat) (canRT x y.Bikes[v.1].Sat t.Bikes[v.1].Out y.Trucks t.Trucks ((v.2 && decide (0 ≤ t.Bikes[v.1].Out)) && decide (t.Bikes[v.1].Out ≤ x.End))))) (fun z => y.Bikes[v.1].Stops.length - z.1) (0, a.2, t.Bikes[v.1].Out, ns y.Bikes[v.1].Sat) ⟨by simp, hns0, hns1, by rw [List.drop_of_length_le hge4, canRT] at ha2; rw [← ha2]; rfl⟩ ⟨rfl, rfl, rfl, rfl, rfl, rfl, rfl, rfl, rfl, rfl, rfl, rfl, rfl, rfl, trivial⟩ (fun _ h => h) ?_
          intro z ⟨hz1, hz2⟩
          refine GoC.seq ?_
          refine GoC.region ?_
          refine GoL.q (op_lss rfl rfl) ?_
          refine GoL.nil .next ?_
          refine GoC.seq ?_
          refine GoC.cond rfl (fun hc15 => ?_) (fun hc15 => ?_)
          · have hlt6 : z.1 < y.Bikes[v.1].Stops.length := by simpa using hc15
            refine GoC.skipTo .next ?_
            refine GoC.seq ?_
            refine GoC.block ?_
            refine GoC.seq ?_
            have hlte : z.1 < t.Bikes[v.1].Starts.length := by omega
            have hcc := (hpo.b _ (List.getElem_mem hlt3)).2 _ (List.getElem_mem hlt6)
            refine GoC.openR (n := 1) q1.2.1 z.1 hlt6 (fun q3 hq3 => ?_)
            refine GoC.openR (n := 1) q2.2.1.1 z.1 hlte (fun q4 hq4 => ?_)
            have hn1 : z.2.2.2.toNat < x.Time.length := by omega
            refine GoC.openR (n := 1) p.t.1 z.2.2.2.toNat hn1 (fun q5 hq5 => ?_)
            have hn2 : 1 + x.Sats.length + y.Bikes[v.1].Stops[z.1].toNat < x.Time[z.2.2.2.toNat].length := by rw [hx.r]; omega
            refine GoC.openR (n := 1) q5.1 (1 + x.Sats.length + y.Bikes[v.1].Stops[z.1].toNat) hn2 (fun q6 hq6 => ?_)
            have hn5 : y.Bikes[v.1].Stops[z.1].toNat < x.Customers.length := by omega
            refine GoC.openR (n := 4) p.u.1 y.Bikes[v.1].Stops[z.1].toNat hn5 (fun q8 hq8 => ?_)
            have htm := tm_eq hn1 hn2 (Int.toNat_of_nonneg hz2.1).symm (nc_eq hx hcc)
            have hcu : x.Customers[y.Bikes[v.1].Stops[z.1].toNat] = custOf x y.Bikes[v.1].Stops[z.1] := (getD_lt _ hn5).symm
            have hnc0 : 0 ≤ nc x y.Bikes[v.1].Stops[z.1] := by rw [nc_eq hx hcc]; omega
            have hnc1 : nc x y.Bikes[v.1].Stops[z.1] < x.Time.length := by rw [nc_eq hx hcc]; omega
            refine GoC.region ?_
            refine GoL.q (op_move rfl) ?_
            refine GoL.q (op_indexR rfl rfl rfl (by first | assumption | omega)) ?_
            refine GoL.q (op_loadE rfl rfl) ?_
            refine GoL.q (op_assign rfl) ?_
            refine GoL.q (op_assign rfl) ?_
            refine GoL.nil .next ?_
            refine GoC.seq ?_
            refine GoC.draw 12 [10] [0, 1, 2, 3, 4, 5, 6, 7, 8, 9, 10, 11] (by kernel_rfl) Pr_mixed ?_
            refine Can.q rfl (op_fieldAddr rfl) ?_
            refine Can.q rfl (op_load rfl rfl) ?_
            refine Can.q rfl (op_move rfl) ?_
            refine Can.q rfl (op_indexR rfl rfl rfl hlte) ?_
            refine Can.q rfl (op_loadE rfl rfl) ?_
            refine Can.q rfl (op_fieldAddr rfl) ?_
            refine Can.q rfl (op_load rfl rfl) ?_
            refine Can.q rfl (op_move rfl) ?_
            refine Can.q rfl (op_indexR rfl rfl (Int.toNat_of_nonneg hcc.1).symm hn5) ?_
            refine Can.q rfl (op_loadEA rfl rfl) ?_
            refine Can.x rfl (op_alloc) ?_
            rintro _ _ _ ⟨b27, rfl, rfl, rfl⟩
            refine Can.q rfl (op_assign rfl) ?_
            refine Can.nil rfl ?_
            refine GoL.y0 (op_store rfl rfl rfl rfl (by simp [Value.oneCell']) (Nat.le_of_ble_eq_true rfl) rfl) ?_
            rintro _ _ _ ⟨rfl, rfl, rfl⟩
            refine GoL.nil .next ?_
            refine GoC.sub (E' := [(190, _), (7, _), (22, _), (23, _), (112, _), (3, _), (4, _), (5, _), (110, _), (111, _), (16, _), (17, _), (188, _), (189, _), (25, _), (27, _), (26, _)]) ⟨rfl, rfl, rfl, rfl, rfl, rfl, rfl, rfl, rfl, rfl, rfl, rfl, rfl, rfl, rfl, rfl, rfl, trivial⟩ ?_
            refine GoC.seq ?_
            refine GoC.draw 35 [] [0, 1, 2, 3, 4, 5, 6, 7, 8, 9, 10, 11, 12, 13, 14, 15, 16, 17, 18, 19, 20, 21, 22, 23, 24, 25, 26, 27, 28, 29, 30, 31, 32, 33, 34] (by kernel_rfl) Pr_mixed ?_
            refine Can.q rfl (op_move rfl) ?_
            refine Can.q rfl (op_move rfl) ?_
            apply Can.and (x := 210) (l1 := [2, 3, 4, 5]) rfl rfl rfl rfl rfl rfl rfl rfl rfl (Wn.none rfl)
            · intro hg16 r' k'
              refine Can.q rfl (op_move rfl) ?_ (hw := Wn.some rfl rfl rfl hg16)
              refine Can.q rfl (op_fieldAddr rfl) ?_ (hw := Wn.some rfl rfl rfl hg16)
              refine Can.q rfl (op_load rfl rfl) ?_ (hw := Wn.some rfl rfl rfl hg16)
              refine Can.q rfl (op_geq rfl rfl) ?_ (hw := Wn.some rfl rfl rfl hg16)
              exact k' _ (Le.part (k := 4) rfl rfl rfl)
            refine Can.q rfl (op_move rfl) ?_
            apply Can.and (x := 216) (l1 := [8, 9, 10, 11]) rfl rfl rfl rfl rfl rfl rfl rfl rfl (Wn.none rfl)
            · intro hg17 r' k'
              refine Can.q rfl (op_move rfl) ?_ (hw := Wn.some rfl rfl rfl hg17)
              refine Can.q rfl (op_fieldAddr rfl) ?_ (hw := Wn.some rfl rfl rfl hg17)
              refine Can.q rfl (op_load rfl rfl) ?_ (hw := Wn.some rfl rfl rfl hg17)
              refine Can.q rfl (op_leq rfl rfl) ?_ (hw := Wn.some rfl rfl rfl hg17)
              exact k' _ (Le.part (k := 4) rfl rfl rfl)
            refine Can.q rfl (op_move rfl) ?_
            apply Can.and (x := 222) (l1 := [14, 15, 16, 17]) rfl rfl rfl rfl rfl rfl rfl rfl rfl (Wn.none rfl)
            · intro hg18 r' k'
              refine Can.q rfl (op_move rfl) ?_ (hw := Wn.some rfl rfl rfl hg18)
              refine Can.q rfl (op_fieldAddr rfl) ?_ (hw := Wn.some rfl rfl rfl hg18)
              refine Can.q rfl (op_load rfl rfl) ?_ (hw := Wn.some rfl rfl rfl hg18)
              refine Can.q rfl (op_leq rfl rfl) ?_ (hw := Wn.some rfl rfl rfl hg18)
              exact k' _ (Le.part (k := 4) rfl rfl rfl)
            refine Can.q rfl (op_move rfl) ?_
            apply Can.and (x := 238) (l1 := [20, 21, 22, 23, 24, 25, 26, 27, 28, 29, 30, 31, 32, 33]) rfl rfl rfl rfl rfl rfl rfl rfl rfl (Wn.none rfl)
            · intro hg19 r' k'
              refine Can.q rfl (op_move rfl) ?_ (hw := Wn.some rfl rfl rfl hg19)
              refine Can.q rfl (op_move rfl) ?_ (hw := Wn.some rfl rfl rfl hg19)
              refine Can.q rfl (op_sub rfl rfl) ?_ (hw := Wn.some rfl rfl rfl hg19)
              refine Can.q rfl (op_fieldAddr rfl) ?_ (hw := Wn.some rfl rfl rfl hg19)
              refine Can.q rfl (op_load rfl rfl) ?_ (hw := Wn.some rfl rfl rfl hg19)
              refine Can.q rfl (op_move rfl) ?_ (hw := Wn.some rfl rfl rfl hg19)
              refine Can.q rfl (op_indexR rfl rfl (Int.toNat_of_nonneg hz2.1).symm hn1) ?_ (hw := Wn.some rfl rfl rfl hg19)
              refine Can.q rfl (op_loadE rfl rfl) ?_ (hw := Wn.some rfl rfl rfl hg19)
              refine Can.q rfl (op_loadA rfl rfl rfl) ?_ (hw := Wn.some rfl rfl rfl hg19)
              refine Can.q rfl (op_move rfl) ?_ (hw := Wn.some rfl rfl rfl hg19)
              refine Can.p rfl (op_callP rfl fun w _ => at11_spec x p _ w) ?_ (hw := Wn.some rfl rfl rfl hg19)
              refine Can.q rfl (op_indexR rfl rfl (nc_eq hx hcc) hn2) ?_ (hw := Wn.some rfl rfl rfl hg19)
              refine Can.q rfl (op_loadE rfl rfl) ?_ (hw := Wn.some rfl rfl rfl hg19)
              refine Can.q rfl (op_geq rfl rfl) ?_ (hw := Wn.some rfl rfl rfl hg19)
              exact k' _ (Le.part (k := 14) rfl rfl rfl)
            refine Can.nil rfl ?_
            refine GoL.q (op_assign rfl) ?_
            refine GoL.nil .next ?_
            refine GoC.seq ?_
            refine GoC.seq ?_
            refine GoC.region ?_
            refine GoL.q (op_move rfl) ?_
            refine GoL.q (op_not rfl) ?_
            refine GoL.nil .next ?_
            refine GoC.cond rfl (fun hc20 => ?_) (fun hc20 => ?_)
            · have hok := hc20
              refine GoC.seq ?_
              refine GoC.region ?_
              refine GoL.q (op_assign rfl) ?_
              refine GoL.nil .next ?_
              refine GoC.sub (E' := [(190, _), (7, _), (22, _), (23, _), (112, _), (3, _), (4, _), (5, _), (110, _), (111, _), (16, _), (17, _), (188, _), (189, _), (25, _), (27, _), (26, _), (6, _)]) ⟨rfl, rfl, rfl, rfl, rfl, rfl, rfl, rfl, rfl, rfl, rfl, rfl, rfl, rfl, rfl, rfl, rfl, rfl, trivial⟩ ?_
              refine GoC.ret (.thenRet (.blockRet (.thenRet (.thenRet (.blockRet (.thenRet (.blockRet (.thenRet (.thenRet (.blockRet (.thenRet (.here)))))))))))) ?_
              refine done1 rfl rfl ?_
              intro w' hw
              have e1 : canBL x y.Bikes[v.1].Stops t.Bikes[v.1].Starts t.Bikes[v.1].Out (ns y.Bikes[v.1].Sat) (canRT x y.Bikes[v.1].Sat t.Bikes[v.1].Out y.Trucks t.Trucks ((v.2 && decide (0 ≤ t.Bikes[v.1].Out)) && decide (t.Bikes[v.1].Out ≤ x.End))) = none := by have h5 := hz2.2.2; rw [List.drop_eq_getElem_cons hlt6, List.drop_eq_getElem_cons hlte, canBL] at h5; refine h5.symm.trans (if_pos ?_); rw [canC, ← htm, ← hcu]; exact hok
              have e : canF x y t = false := by rw [← hv2, List.drop_eq_getElem_cons hlt3, List.drop_eq_getElem_cons hltm, canK, e1]
              exact ⟨by rw [e], hw.keep⟩
            · have hok := hc20
              refine GoC.skipTo .next ?_
              refine GoC.draw 7 [] [0, 1, 2, 3, 4, 5, 6] (by kernel_rfl) Pr_mixed ?_
              refine Can.q rfl (op_move rfl) ?_
              refine Can.q rfl (op_fieldAddr rfl) ?_
              refine Can.q rfl (op_load rfl rfl) ?_
              refine Can.q rfl (op_add rfl rfl) ?_
              refine Can.q rfl (op_loadA rfl rfl rfl) ?_
              refine Can.q rfl (op_move rfl) ?_
              refine Can.p rfl (op_callP rfl fun w _ => at11_spec x p _ w) ?_
              refine Can.nil rfl ?_
              refine GoL.q (op_assign rfl) ?_
              refine GoL.q (op_assign rfl) ?_
              refine GoL.nil (.blockNormal (.next)) ?_
              refine GoC.sub (E' := [(190, _), (7, _), (22, _), (23, _), (112, _), (3, _), (4, _), (5, _), (110, _), (111, _), (16, _), (17, _), (188, _), (189, _)]) ⟨rfl, rfl, rfl, rfl, rfl, rfl, rfl, rfl, rfl, rfl, rfl, rfl, rfl, rfl, trivial⟩ ?_
              refine GoC.region ?_
              refine GoL.q (op_inc rfl (by omega)) ?_
              refine GoL.q (op_move rfl) ?_
              exact GoL.again (z.1 + 1, _, w64 (t.Bikes[v.1].Starts[z.1] + x.Customers[y.Bikes[v.1].Stops[z.1].toNat].Stay), nc x y.Bikes[v.1].Stops[z.1]) ⟨by omega, hnc0, hnc1, by have h5 := hz2.2.2; rw [List.drop_eq_getElem_cons hlt6, List.drop_eq_getElem_cons hlte, canBL] at h5; rw [canC, ← htm, ← hcu] at h5; exact (if_neg (Bool.eq_false_iff.1 hok)).symm.trans h5⟩ (by simp only; omega) ⟨rfl, rfl, rfl, rfl, rfl, rfl, rfl, rfl, rfl, rfl, rfl, rfl, rfl, rfl, trivial⟩
          · have hge6 : y.Bikes[v.1].Stops.length ≤ z.1 := by simpa using hc15
            refine GoC.exit (.thenExit (.thenExit (.blockSame (.next)))) ?_
            have hn1 : z.2.2.2.toNat < x.Time.length := by omega
            refine GoC.openR (n := 1) p.t.1 z.2.2.2.toNat hn1 (fun q5 hq5 => ?_)
            have hn2 : 1 + y.Bikes[v.1].Sat.toNat < x.Time[z.2.2.2.toNat].length := by rw [hx.r]; omega
            refine GoC.openR (n := 1) q5.1 (1 + y.Bikes[v.1].Sat.toNat) hn2 (fun q6 hq6 => ?_)
            have htm := tm_eq hn1 hn2 (Int.toNat_of_nonneg hz2.1).symm (ns_eq hx hbs)
            have hcan : canBL x y.Bikes[v.1].Stops t.Bikes[v.1].Starts t.Bikes[v.1].Out (ns y.Bikes[v.1].Sat) (canRT x y.Bikes[v.1].Sat t.Bikes[v.1].Out y.Trucks t.Trucks ((v.2 && decide (0 ≤ t.Bikes[v.1].Out)) && decide (t.Bikes[v.1].Out ≤ x.End))) = some z.2 := by have h5 := hz2.2.2; rw [List.drop_of_length_le hge6] at h5; exact h5.symm
            refine GoC.draw 31 [] [0, 1, 2, 3, 4, 5, 6, 7, 8, 9, 10, 11, 12, 13, 14, 15, 16, 17, 18, 19, 20, 21, 22, 23, 24, 25, 26, 27, 28, 29, 30] (by kernel_rfl) Pr_mixed ?_
            refine Can.q rfl (op_move rfl) ?_
            refine Can.q rfl (op_move rfl) ?_
            apply Can.and (x := 256) (l1 := [2, 3, 4, 5, 6]) rfl rfl rfl rfl rfl rfl rfl rfl rfl (Wn.none rfl)
            · intro hg21 r' k'
              refine Can.q rfl (op_fieldAddr rfl) ?_ (hw := Wn.some rfl rfl rfl hg21)
              refine Can.q rfl (op_load rfl rfl) ?_ (hw := Wn.some rfl rfl rfl hg21)
              refine Can.q rfl (op_fieldAddr rfl) ?_ (hw := Wn.some rfl rfl rfl hg21)
              refine Can.q rfl (op_load rfl rfl) ?_ (hw := Wn.some rfl rfl rfl hg21)
              refine Can.q rfl (op_leq rfl rfl) ?_ (hw := Wn.some rfl rfl rfl hg21)
              exact k' _ (Le.part (k := 5) rfl rfl rfl)
            refine Can.q rfl (op_move rfl) ?_
            apply Can.and (x := 262) (l1 := [9, 10, 11, 12]) rfl rfl rfl rfl rfl rfl rfl rfl rfl (Wn.none rfl)
            · intro hg22 r' k'
              refine Can.q rfl (op_fieldAddr rfl) ?_ (hw := Wn.some rfl rfl rfl hg22)
              refine Can.q rfl (op_load rfl rfl) ?_ (hw := Wn.some rfl rfl rfl hg22)
              refine Can.q rfl (op_move rfl) ?_ (hw := Wn.some rfl rfl rfl hg22)
              refine Can.q rfl (op_geq rfl rfl) ?_ (hw := Wn.some rfl rfl rfl hg22)
              exact k' _ (Le.part (k := 4) rfl rfl rfl)
            refine Can.q rfl (op_move rfl) ?_
            apply Can.and (x := 279) (l1 := [15, 16, 17, 18, 19, 20, 21, 22, 23, 24, 25, 26, 27, 28, 29]) rfl rfl rfl rfl rfl rfl rfl rfl rfl (Wn.none rfl)
            · intro hg23 r' k'
              refine Can.q rfl (op_fieldAddr rfl) ?_ (hw := Wn.some rfl rfl rfl hg23)
              refine Can.q rfl (op_load rfl rfl) ?_ (hw := Wn.some rfl rfl rfl hg23)
              refine Can.q rfl (op_move rfl) ?_ (hw := Wn.some rfl rfl rfl hg23)
              refine Can.q rfl (op_sub rfl rfl) ?_ (hw := Wn.some rfl rfl rfl hg23)
              refine Can.q rfl (op_fieldAddr rfl) ?_ (hw := Wn.some rfl rfl rfl hg23)
              refine Can.q rfl (op_load rfl rfl) ?_ (hw := Wn.some rfl rfl rfl hg23)
              refine Can.q rfl (op_move rfl) ?_ (hw := Wn.some rfl rfl rfl hg23)
              refine Can.q rfl (op_indexR rfl rfl (Int.toNat_of_nonneg hz2.1).symm hn1) ?_ (hw := Wn.some rfl rfl rfl hg23)
              refine Can.q rfl (op_loadE rfl rfl) ?_ (hw := Wn.some rfl rfl rfl hg23)
              refine Can.q rfl (op_fieldAddr rfl) ?_ (hw := Wn.some rfl rfl rfl hg23)
              refine Can.q rfl (op_load rfl rfl) ?_ (hw := Wn.some rfl rfl rfl hg23)
              refine Can.q rfl (op_add rfl rfl) ?_ (hw := Wn.some rfl rfl rfl hg23)
              refine Can.q rfl (op_indexR rfl rfl (ns_eq hx hbs) hn2) ?_ (hw := Wn.some rfl rfl rfl hg23)
              refine Can.q rfl (op_loadE rfl rfl) ?_ (hw := Wn.some rfl rfl rfl hg23)
              refine Can.q rfl (op_geq rfl rfl) ?_ (hw := Wn.some rfl rfl rfl hg23)
              exact k' _ (Le.part (k := 15) rfl rfl rfl)
            refine Can.nil rfl ?_
            refine GoL.q (op_assign rfl) ?_
            refine GoL.nil (.blockNormal (.next)) ?_
            refine GoC.region ?_
            refine GoL.q (op_inc rfl (by omega)) ?_
            refine GoL.q (op_move rfl) ?_
            exact GoL.again (v.1 + 1, _) ⟨by omega, by rw [List.drop_eq_getElem_cons hlt3, List.drop_eq_getElem_cons hltm, canK, hcan] at hv2; dsimp only at hv2; rw [canBack, ← htm] at hv2; exact hv2⟩ (by simp only; omega) ⟨rfl, rfl, rfl, rfl, rfl, rfl, rfl, trivial⟩
      · have hge3 : y.Bikes.length ≤ v.1 := by simpa using hc8
        refine GoC.exit (.thenExit (.thenExit (.blockSame (.next)))) ?_
        refine GoC.seq ?_
        refine GoC.region ?_
        refine GoL.q (op_move rfl) ?_
        refine GoL.q (op_assign rfl) ?_
        refine GoL.nil .next ?_
        refine GoC.ret .here ?_
        refine done1 rfl rfl ?_
        intro w' hw
        have e : canF x y t = v.2 := by rw [← hv2, List.drop_of_length_le hge3, canK]
        exact ⟨by rw [e], hw.keep⟩
end Go.Proofs.Ytdeacehacndopaa
