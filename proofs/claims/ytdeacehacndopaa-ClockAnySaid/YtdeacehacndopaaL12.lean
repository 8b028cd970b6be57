/- Graphs; what must be ahead of what. Copies; slices with three bounds; clones. The soonest times: Late; the drafter of what must be ahead of what. No conditions beyond those that each theorem names. -/
import Derived.Test.YtdeacehacndopaaL11
import Derived.Test.YtdeacehacndopaaL5
namespace Go.Proofs.Ytdeacehacndopaa
open Go.RowKit
structure SSt where
  f : Nat
  p : List Item
  h : Hdr
  inn : List Int
  out : Row Int
  b : Nat

set_option maxRecDepth 20000 in
theorem graphCheck_spec (n : Int) (l : List Arc) (a : Option Addr) (c : Nat) (hl : l.length ≤ 9223372036854775806) (sh : Nat → Prop) (w : World) (h : Holds ⟨0, w, [], sh⟩ [] [ro tArc a c l] w) :
    Calls Pr fn_graph_Graph_Check #[.agg #[.int .i64 n, .slice a l.length c]] w fun e w' => e = .returned (.int .i64 (graphC n l)) ∧ Ext w w' := by
  refine Calls.of_go (args := [_]) fn_graph_Graph_Check_f rfl rfl rfl h ?_
  refine GoC.seq ?_
  refine GoC.region ?_
  refine GoL.x (op_box rfl rfl) ?_
  rintro _ _ _ ⟨b1, rfl, rfl, rfl⟩
  refine GoL.q (op_assign rfl) ?_
  refine GoL.nil .next ?_
  refine GoC.seq ?_
  refine GoC.seq ?_
  refine GoC.region ?_
  refine GoL.q (op_fieldAddr rfl) ?_
  refine GoL.q (op_load rfl rfl) ?_
  refine GoL.q (op_lss rfl rfl) ?_
  refine GoL.q (op_move rfl) ?_
  apply GoL.or (m := 3) (x := 11) rfl rfl rfl rfl rfl rfl rfl rfl (Wn.none rfl)
  · intro hg0
    refine GoL.q (op_fieldAddr rfl) ?_ (hg := Wn.some rfl rfl rfl hg0)
    refine GoL.q (op_load rfl rfl) ?_ (hg := Wn.some rfl rfl rfl hg0)
    refine GoL.q (op_gtr rfl rfl) ?_ (hg := Wn.some rfl rfl rfl hg0)
    exact GoL.part (k := 3) rfl rfl rfl
  refine GoL.q (op_move rfl) ?_
  apply GoL.or (m := 4) (x := 17) rfl rfl rfl rfl rfl rfl rfl rfl (Wn.none rfl)
  · intro hg1
    refine GoL.q (op_fieldAddr rfl) ?_ (hg := Wn.some rfl rfl rfl hg1)
    refine GoL.q (op_load rfl rfl) ?_ (hg := Wn.some rfl rfl rfl hg1)
    refine GoL.q (op_len rfl) ?_ (hg := Wn.some rfl rfl rfl hg1)
    refine GoL.q (op_gtr rfl rfl) ?_ (hg := Wn.some rfl rfl rfl hg1)
    exact GoL.part (k := 4) rfl rfl rfl
  refine GoL.nil .next ?_
  refine GoC.cond rfl (fun hc2 => ?_) (fun hc2 => ?_)
  · have hcs := hc2
    refine GoC.seq ?_
    refine GoC.region ?_
    refine GoL.q (op_assign rfl) ?_
    refine GoL.nil .next ?_
    refine GoC.ret (.thenRet (.here)) ?_
    refine done1 rfl rfl ?_
    intro w' hw
    exact ⟨by rw [graphC, if_pos hcs], hw.keep⟩
  · have hcs := hc2
    refine GoC.skipTo .next ?_
    refine GoC.seq ?_
    refine GoC.seq ?_
    refine GoC.region ?_
    refine GoL.q (op_fieldAddr rfl) ?_
    refine GoL.q (op_load rfl rfl) ?_
    refine GoL.q (op_len rfl) ?_
    refine GoL.q (op_move rfl) ?_
    refine GoL.nil .next ?_
    refine GoC.block ?_
    refine GoC.loop (σ := Nat) (fun s => [(22, .int .i64 (s : Int))]) [(1, _), (20, _), (21, _)] (fun s => _) (fun s => _) (fun s => s ≤ l.length ∧ arcsC n (l.drop s) = arcsC n l) (fun s => l.length - s) 0 ⟨by simp, rfl⟩ ⟨rfl, rfl, rfl, rfl, trivial⟩ (fun _ h => h) ?_
    intro s ⟨hs1, hs2⟩
    refine GoC.seq ?_
    refine GoC.region ?_
    refine GoL.q (op_lss rfl rfl) ?_
    refine GoL.nil .next ?_
    refine GoC.seq ?_
    refine GoC.cond rfl (fun hc3 => ?_) (fun hc3 => ?_)
    · have hlt : s < l.length := by simpa using hc3
      refine GoC.skipTo .next ?_
      refine GoC.seq ?_
      refine GoC.block ?_
      refine GoC.seq ?_
      refine GoC.openR (n := 3) a s hlt (fun _ hq => ?_)
      refine GoC.region ?_
      refine GoL.q (op_indexR rfl rfl rfl (by first | assumption | omega)) ?_
      refine GoL.q (op_loadEA rfl rfl) ?_
      refine GoL.x (op_alloc) ?_
      rintro _ _ _ ⟨b4, rfl, rfl, rfl⟩
      refine GoL.y0 (op_store (cs' := [.int .i64 l[s].From, .int .i64 l[s].To, .int .i64 l[s].Weight]) rfl rfl rfl rfl (by simp [Value.oneCell']) (Nat.le_of_ble_eq_true rfl) rfl) ?_
      rintro _ _ _ ⟨rfl, rfl, rfl⟩
      refine GoL.nil .next ?_
      refine GoC.seq ?_
      refine GoC.region ?_
      refine GoL.q (op_loadA rfl rfl rfl) ?_
      refine GoL.q (op_fieldAddr rfl) ?_
      refine GoL.q (op_load rfl rfl) ?_
      refine GoL.p (op_callP rfl fun w _ => ghas_spec n _ (.slice a l.length c) rfl w) ?_
      refine GoL.q (op_not rfl) ?_
      refine GoL.q (op_move rfl) ?_
      apply GoL.or (m := 5) (x := 36) rfl rfl rfl rfl rfl rfl rfl rfl (Wn.none rfl)
      · intro hg4
        refine GoL.q (op_loadA rfl rfl rfl) ?_ (hg := Wn.some rfl rfl rfl hg4)
        refine GoL.q (op_fieldAddr rfl) ?_ (hg := Wn.some rfl rfl rfl hg4)
        refine GoL.q (op_load rfl rfl) ?_ (hg := Wn.some rfl rfl rfl hg4)
        refine GoL.p (op_callP rfl fun w _ => ghas_spec n _ (.slice a l.length c) rfl w) ?_ (hg := Wn.some rfl rfl rfl hg4)
        refine GoL.q (op_not rfl) ?_ (hg := Wn.some rfl rfl rfl hg4)
        exact GoL.part (k := 5) rfl rfl rfl
      refine GoL.q (op_move rfl) ?_
      apply GoL.or (m := 3) (x := 41) rfl rfl rfl rfl rfl rfl rfl rfl (Wn.none rfl)
      · intro hg5
        refine GoL.q (op_fieldAddr rfl) ?_ (hg := Wn.some rfl rfl rfl hg5)
        refine GoL.q (op_load rfl rfl) ?_ (hg := Wn.some rfl rfl rfl hg5)
        refine GoL.q (op_lss rfl rfl) ?_ (hg := Wn.some rfl rfl rfl hg5)
        exact GoL.part (k := 3) rfl rfl rfl
      refine GoL.q (op_move rfl) ?_
      apply GoL.or (m := 3) (x := 46) rfl rfl rfl rfl rfl rfl rfl rfl (Wn.none rfl)
      · intro hg6
        refine GoL.q (op_fieldAddr rfl) ?_ (hg := Wn.some rfl rfl rfl hg6)
        refine GoL.q (op_load rfl rfl) ?_ (hg := Wn.some rfl rfl rfl hg6)
        refine GoL.q (op_gtr rfl rfl) ?_ (hg := Wn.some rfl rfl rfl hg6)
        exact GoL.part (k := 3) rfl rfl rfl
      refine GoL.nil .next ?_
      refine GoC.cond rfl (fun hc7 => ?_) (fun hc7 => ?_)
      · have hbad : arcBad n l[s] = true := hc7
        refine GoC.seq ?_
        refine GoC.region ?_
        refine GoL.q (op_assign rfl) ?_
        refine GoL.nil .next ?_
        refine GoC.ret (.blockRet (.thenRet (.thenRet (.blockRet (.thenRet (.here)))))) ?_
        refine done1 rfl rfl ?_
        intro w' hw
        exact ⟨by rw [graphC, if_neg (Bool.eq_false_iff.1 hcs), ← hs2, List.drop_eq_getElem_cons hlt, arcsC, if_pos hbad], hw.keep⟩
      · have hbad : arcBad n l[s] = false := hc7
        refine GoC.skipTo (.blockNormal (.next)) ?_
        refine GoC.region ?_
        refine GoL.q (op_inc rfl (by omega)) ?_
        refine GoL.q (op_move rfl) ?_
        exact GoL.again (s + 1) ⟨by omega, by have h5 := hs2; rw [List.drop_eq_getElem_cons hlt, arcsC, if_neg (Bool.eq_false_iff.1 hbad)] at h5; exact h5⟩ (by omega) ⟨rfl, rfl, rfl, rfl, trivial⟩
    · have hge : l.length ≤ s := by simpa using hc3
      refine GoC.exit (.thenExit (.thenExit (.blockSame (.next)))) ?_
      refine GoC.seq ?_
      refine GoC.region ?_
      refine GoL.q (op_assign rfl) ?_
      refine GoL.nil .next ?_
      refine GoC.ret .here ?_
      refine done1 rfl rfl ?_
      intro w' hw
      exact ⟨by rw [graphC, if_neg (Bool.eq_false_iff.1 hcs), ← hs2, List.drop_of_length_le hge, arcsC], hw.keep⟩
set_option maxRecDepth 20000 in
theorem out_spec (n i : Int) (l : List Arc) (a : Option Addr) (c : Nat) (hl : l.length ≤ 1000000000000) (sh : Nat → Prop) (w : World) (h : Holds ⟨0, w, [], sh⟩ [] [ro tArc a c l] w) :
    Calls Pr fn_graph_Graph_Out #[.agg #[.int .i64 n, .slice a l.length c], .int .i64 i] w fun e w' => ∃ g : { g : Row Int // g.l = outG i l 0 }, e = .returned (.slice g.1.a g.1.l.length g.1.c) ∧ Holds ⟨0, w, [], sh⟩ [own 3 t64 g.1.a g.1.c g.1.l] [] w' := by
  refine Calls.of_go (args := [_, _]) fn_graph_Graph_Out_f rfl rfl rfl h ?_
  refine GoC.seq ?_
  refine GoC.region ?_
  refine GoL.x (op_box rfl rfl) ?_
  rintro _ _ _ ⟨b2, rfl, rfl, rfl⟩
  refine GoL.q (op_assign rfl) ?_
  refine GoL.nil .next ?_
  refine GoC.seq ?_
  refine GoC.region ?_
  refine GoL.q (op_assign rfl) ?_
  refine GoL.nil .next ?_
  refine GoC.seq ?_
  refine GoC.seq ?_
  refine GoC.region ?_
  refine GoL.q (op_fieldAddr rfl) ?_
  refine GoL.q (op_load rfl rfl) ?_
  refine GoL.q (op_len rfl) ?_
  refine GoL.q (op_move rfl) ?_
  refine GoL.nil .next ?_
  refine GoC.block ?_
  refine GoC.ownNil 3 t64 ?_
  refine GoC.loop (σ := Nat × Row Int) (fun s => [(11, .int .i64 (s.1 : Int)), (5, .slice s.2.a s.2.l.length s.2.c)]) [(1, _), (9, _), (10, _)] (fun s => [own 3 t64 s.2.a s.2.c s.2.l, cel b2 ty_graph_Graph [.int .i64 n, .slice a l.length c]]) (fun s => _) (fun s => s.1 ≤ l.length ∧ (s.2.l.length ≤ s.1 ∧ s.2.l ++ outG i (l.drop s.1) s.1 = outG i l 0)) (fun s => l.length - s.1) (0, ⟨none, 0, []⟩) ⟨by simp, by simp, rfl⟩ ⟨rfl, rfl, rfl, rfl, rfl, trivial⟩ (fun _ h => h) ?_
  intro s ⟨hs1, hs2⟩
  refine GoC.seq ?_
  refine GoC.region ?_
  refine GoL.q (op_lss rfl rfl) ?_
  refine GoL.nil .next ?_
  refine GoC.seq ?_
  refine GoC.cond rfl (fun hc0 => ?_) (fun hc0 => ?_)
  · have hlt : s.1 < l.length := by simpa using hc0
    refine GoC.skipTo .next ?_
    refine GoC.seq ?_
    refine GoC.block ?_
    refine GoC.seq ?_
    refine GoC.openR (n := 3) a s.1 hlt (fun _ hq => ?_)
    refine GoC.region ?_
    refine GoL.q (op_move rfl) ?_
    refine GoL.q (op_indexR rfl rfl rfl (by first | assumption | omega)) ?_
    refine GoL.q (op_loadEA rfl rfl) ?_
    refine GoL.x (op_alloc) ?_
    rintro _ _ _ ⟨b7, rfl, rfl, rfl⟩
    refine GoL.q (op_assign rfl) ?_
    refine GoL.y0 (op_store (cs' := [.int .i64 l[s.1].From, .int .i64 l[s.1].To, .int .i64 l[s.1].Weight]) rfl rfl rfl rfl (by simp [Value.oneCell']) (Nat.le_of_ble_eq_true rfl) rfl) ?_
    rintro _ _ _ ⟨rfl, rfl, rfl⟩
    refine GoL.nil .next ?_
    refine GoC.seq ?_
    refine GoC.region ?_
    refine GoL.q (op_fieldAddr rfl) ?_
    refine GoL.q (op_load rfl rfl) ?_
    refine GoL.q (op_move rfl) ?_
    refine GoL.q (op_eql rfl rfl) ?_
    refine GoL.nil .next ?_
    refine GoC.cond rfl (fun hc1 => ?_) (fun hc1 => ?_)
    · have heq : decide (l[s.1].From = i) = true := hc1
      refine GoC.region ?_
      refine GoL.q (op_move rfl) ?_
      refine GoL.q (op_move rfl) ?_
      refine GoL.x (op_buildSlice1 rfl rfl rfl) ?_
      rintro _ _ _ ⟨b22, rfl, rfl, rfl⟩
      refine GoL.y (op_append1 (((s.1 : Nat) : Int)) rfl rfl (by rfl) (by intro _ _ _; exact ⟨rfl, w64_id (by omega)⟩) (by have := hs2.1; omega)) ?_
      rintro _ _ _ ⟨a23, c23, rfl, rfl, rfl⟩
      refine GoL.q (op_assign rfl) ?_
      refine GoL.nil (.blockNormal (.next)) ?_
      refine GoC.region ?_
      refine GoL.q (op_inc rfl (by omega)) ?_
      refine GoL.q (op_move rfl) ?_
      exact GoL.again (s.1 + 1, ⟨a23, c23, s.2.l ++ [((s.1 : Nat) : Int)]⟩) ⟨by omega, by simp only [List.length_append, List.length_singleton]; have := hs2.1; omega, by have h5 := hs2.2; rw [List.drop_eq_getElem_cons hlt, outG, if_pos heq] at h5; simp only [List.append_assoc, List.singleton_append]; exact h5⟩ (by simp only; omega) ⟨rfl, rfl, rfl, rfl, rfl, trivial⟩
    · have heq : decide (l[s.1].From = i) = false := hc1
      refine GoC.skipTo (.blockNormal (.next)) ?_
      refine GoC.region ?_
      refine GoL.q (op_inc rfl (by omega)) ?_
      refine GoL.q (op_move rfl) ?_
      exact GoL.again (s.1 + 1, s.2) ⟨by omega, by show s.2.l.length ≤ s.1 + 1; have := hs2.1; omega, by have h5 := hs2.2; rw [List.drop_eq_getElem_cons hlt, outG, if_neg (Bool.eq_false_iff.1 heq)] at h5; exact h5⟩ (by simp only; omega) ⟨rfl, rfl, rfl, rfl, rfl, trivial⟩
  · have hge : l.length ≤ s.1 := by simpa using hc0
    refine GoC.exit (.thenExit (.thenExit (.blockSame (.next)))) ?_
    refine GoC.seq ?_
    refine GoC.region ?_
    refine GoL.q (op_move rfl) ?_
    refine GoL.q (op_assign rfl) ?_
    refine GoL.nil .next ?_
    refine GoC.ret .here ?_
    refine done1 rfl rfl ?_
    intro w' hw
    have he : s.2.l = outG i l 0 := by have h5 := hs2.2; rw [List.drop_of_length_le hge, outG, List.append_nil] at h5; exact h5
    exact ⟨⟨s.2, he⟩, rfl, Holds.only (W' := [own 3 t64 s.2.a s.2.c s.2.l]) hw.n⟩
set_option maxRecDepth 20000 in
theorem indexFar_spec (l : List Int) (a : Option Addr) (c : Nat) (hl : l.length ≤ 9223372036854775806) (sh : Nat → Prop) (w : World) (h : Holds ⟨0, w, [], sh⟩ [] [ro t64 a c l] w) :
    Calls Pr fn_slices_IndexFunc_s_int64_int64 #[.slice a l.length c, .func (.func fn_order_Late_c1) #[] #[]] w fun e w' => e = .returned (.int .i64 (idxFar l 0)) ∧ Ext w w' := by
  refine Calls.of_go (args := [_, _]) fn_slices_IndexFunc_s_int64_int64_f rfl rfl rfl h ?_
  refine GoC.seq ?_
  refine GoC.region ?_
  refine GoL.q (op_assign rfl) ?_
  refine GoL.nil .next ?_
  refine GoC.seq ?_
  refine GoC.seq ?_
  refine GoC.region ?_
  refine GoL.q (op_move rfl) ?_
  refine GoL.q (op_len rfl) ?_
  refine GoL.q (op_move rfl) ?_
  refine GoL.nil .next ?_
  refine GoC.block ?_
  refine GoC.loop (σ := Nat) (fun s => [(8, .int .i64 (s : Int))]) [(0, _), (1, _), (7, _)] (fun s => _) (fun s => _) (fun s => s ≤ l.length ∧ idxFar (l.drop s) (s : Int) = idxFar l 0) (fun s => l.length - s) 0 ⟨by simp, rfl⟩ ⟨rfl, rfl, rfl, rfl, trivial⟩ (fun _ h => h) ?_
  intro s ⟨hs1, hs2⟩
  refine GoC.seq ?_
  refine GoC.region ?_
  refine GoL.q (op_lss rfl rfl) ?_
  refine GoL.nil .next ?_
  refine GoC.seq ?_
  refine GoC.cond rfl (fun hc0 => ?_) (fun hc0 => ?_)
  · have hlt : s < l.length := by simpa using hc0
    refine GoC.skipTo .next ?_
    refine GoC.seq ?_
    refine GoC.block ?_
    refine GoC.seq ?_
    refine GoC.region ?_
    refine GoL.q (op_move rfl) ?_
    refine GoL.q (op_assign rfl) ?_
    refine GoL.nil .next ?_
    refine GoC.seq ?_
    refine GoC.openR (n := 1) a s hlt (fun _ hq => ?_)
    refine GoC.region ?_
    refine GoL.q (op_move rfl) ?_
    refine GoL.q (op_move rfl) ?_
    refine GoL.q (op_move rfl) ?_
    refine GoL.q (op_indexR rfl rfl rfl (by first | assumption | omega)) ?_
    refine GoL.q (op_loadE rfl rfl) ?_
    refine GoL.p (op_cValP rfl rfl fun w _ => late1_spec _ w) ?_
    refine GoL.nil .next ?_
    refine GoC.cond rfl (fun hc1 => ?_) (fun hc1 => ?_)
    · have hb : farBad l[s] = true := hc1
      refine GoC.seq ?_
      refine GoC.region ?_
      refine GoL.q (op_move rfl) ?_
      refine GoL.q (op_assign rfl) ?_
      refine GoL.nil .next ?_
      refine GoC.ret (.blockRet (.thenRet (.thenRet (.blockRet (.thenRet (.here)))))) ?_
      refine done1 rfl rfl ?_
      intro w' hw
      exact ⟨by rw [← hs2, List.drop_eq_getElem_cons hlt, idxFar, if_pos hb], hw.keep⟩
    · have hb : farBad l[s] = false := hc1
      refine GoC.skipTo (.blockNormal (.next)) ?_
      refine GoC.region ?_
      refine GoL.q (op_inc rfl (by omega)) ?_
      refine GoL.q (op_move rfl) ?_
      exact GoL.again (s + 1) ⟨by omega, by have h5 := hs2; rw [List.drop_eq_getElem_cons hlt, idxFar, if_neg (Bool.eq_false_iff.1 hb)] at h5; exact h5⟩ (by omega) ⟨rfl, rfl, rfl, rfl, trivial⟩
  · have hge : l.length ≤ s := by simpa using hc0
    refine GoC.exit (.thenExit (.thenExit (.blockSame (.next)))) ?_
    refine GoC.seq ?_
    refine GoC.region ?_
    refine GoL.q (op_assign rfl) ?_
    refine GoL.nil .next ?_
    refine GoC.ret .here ?_
    refine done1 rfl rfl ?_
    intro w' hw
    exact ⟨by rw [← hs2, List.drop_of_length_le hge]; rfl, hw.keep⟩
set_option maxRecDepth 20000 in
theorem containsFar_spec (l : List Int) (a : Option Addr) (c : Nat) (hl : l.length ≤ 9223372036854775806) (sh : Nat → Prop) (w : World) (h : Holds ⟨0, w, [], sh⟩ [] [ro t64 a c l] w) :
    Calls Pr fn_slices_ContainsFunc_s_int64_int64 #[.slice a l.length c, .func (.func fn_order_Late_c1) #[] #[]] w fun e w' => e = .returned (.bool (decide (0 ≤ idxFar l 0))) ∧ Ext w w' := by
  refine Calls.of_go (args := [_, _]) fn_slices_ContainsFunc_s_int64_int64_f rfl rfl rfl h ?_
  refine GoC.seq ?_
  refine GoC.region ?_
  refine GoL.q (op_assign rfl) ?_
  refine GoL.nil .next ?_
  refine GoC.seq ?_
  refine GoC.region ?_
  refine GoL.q (op_move rfl) ?_
  refine GoL.q (op_move rfl) ?_
  refine GoL.p (op_callV rfl (fun sh w h => indexFar_spec l a c hl sh w h)) ?_
  refine GoL.q (op_geq rfl rfl) ?_
  refine GoL.q (op_assign rfl) ?_
  refine GoL.nil .next ?_
  refine GoC.ret .here ?_
  refine done1 rfl rfl ?_
  intro w' hw
  exact ⟨rfl, hw.keep⟩
set_option maxRecDepth 20000 in
theorem sort_spec (n : Int) (l : List Arc) (a : Option Addr) (c : Nat) (hl : l.length ≤ 1000000000000) (sh : Nat → Prop) (w : World) (h : Holds ⟨0, w, [], sh⟩ [] [ro tArc a c l] w) :
    Calls Pr fn_order_Sort #[.agg #[.int .i64 n, .slice a l.length c]] w fun e w' => ∃ g : { g : Row Int // g.l = (sortF n l).1 }, e = .returned (.tuple #[.slice g.1.a g.1.l.length g.1.c, .bool (sortF n l).2]) ∧ Holds ⟨0, w, [], sh⟩ [own 3 t64 g.1.a g.1.c g.1.l] [] w' := by
  refine Calls.of_go (args := [_]) fn_order_Sort_f rfl rfl rfl h ?_
  refine GoC.seq ?_
  refine GoC.region ?_
  refine GoL.x (op_box rfl rfl) ?_
  rintro _ _ _ ⟨b1, rfl, rfl, rfl⟩
  refine GoL.q (op_assign rfl) ?_
  refine GoL.q (op_assign rfl) ?_
  refine GoL.nil .next ?_
  refine GoC.seq ?_
  refine GoC.seq ?_
  refine GoC.region ?_
  refine GoL.q (op_loadA rfl rfl rfl) ?_
  refine GoL.p (op_callV (vs := [.agg #[.int .i64 n, .slice a l.length c]]) rfl (fun sh w h => graphCheck_spec n l a c (by omega) sh w h)) ?_
  refine GoL.q (op_neq rfl rfl) ?_
  refine GoL.nil .next ?_
  refine GoC.cond rfl (fun hc0 => ?_) (fun hc0 => ?_)
  · have hgc : (!decide (graphC n l = 0)) = true := hc0
    refine GoC.seq ?_
    refine GoC.region ?_
    refine GoL.q (op_assign rfl) ?_
    refine GoL.q (op_assign rfl) ?_
    refine GoL.nil .next ?_
    refine GoC.ret (.thenRet (.here)) ?_
    refine done2 rfl rfl rfl ?_
    intro w' hw
    have hf : sortF n l = ([], false) := by unfold sortF; exact if_pos hgc
    exact ⟨⟨⟨none, 0, []⟩, by rw [hf]⟩, by show Ending.returned (.tuple #[.slice none 0 0, .bool false]) = .returned (.tuple #[.slice none 0 0, .bool (sortF n l).2]); rw [hf], (hw.n.drop (List.nil_sublist _) (by simp)).ownNil 3 t64⟩
  · have hgc : (!decide (graphC n l = 0)) = false := hc0
    have hg := graphC_ok (n := n) (l := l) (by simpa using hgc)
    refine GoC.skipTo .next ?_
    refine GoC.seq ?_
    refine GoC.region ?_
    refine GoL.q (op_fieldAddr rfl) ?_
    refine GoL.q (op_load rfl rfl) ?_
    refine GoL.x (op_make (ty := t64) (0 : Int) (fun _ _ => ⟨rfl, rfl⟩) (show evalE _ _ = some (.int .i64 ((n.toNat : Nat) : Int)) by rw [Int.toNat_of_nonneg hg.1.1]; rfl) (by omega) (by simp only [maxLen]; omega)) ?_
    rintro _ _ _ ⟨b21, rfl, rfl, rfl⟩
    refine GoL.q (op_assign rfl) ?_
    refine GoL.nil .next ?_
    refine GoC.seq ?_
    refine GoC.seq ?_
    refine GoC.region ?_
    refine GoL.q (op_fieldAddr rfl) ?_
    refine GoL.q (op_load rfl rfl) ?_
    refine GoL.q (op_len rfl) ?_
    refine GoL.q (op_move rfl) ?_
    refine GoL.nil .next ?_
    refine GoC.block ?_
    refine GoC.loop (σ := Nat × List Int) (fun s => [(25, .int .i64 (s.1 : Int))]) [(1, _), (4, _), (23, _), (24, _)] (fun s => [own 3 t64 (some ⟨b21, 0, none⟩) n.toNat s.2, cel b1 ty_graph_Graph [.int .i64 n, .slice a l.length c]]) (fun s => _) (fun s => s.1 ≤ l.length ∧ (s.2.length = n.toNat ∧ (∀ v ∈ s.2, 0 ≤ v ∧ v ≤ s.1) ∧ (l.drop s.1).foldl (fun d a => addAt d a.To 1) s.2 = inG n.toNat l)) (fun s => l.length - s.1) (0, List.replicate n.toNat 0) ⟨by simp, by simp, by simp, rfl⟩ ⟨rfl, rfl, rfl, rfl, rfl, trivial⟩ (fun _ h => h) ?_
    intro s ⟨hs1, hs2⟩
    refine GoC.seq ?_
    refine GoC.region ?_
    refine GoL.q (op_lss rfl rfl) ?_
    refine GoL.nil .next ?_
    refine GoC.seq ?_
    refine GoC.cond rfl (fun hc1 => ?_) (fun hc1 => ?_)
    · have hlt : s.1 < l.length := by simpa using hc1
      refine GoC.skipTo .next ?_
      refine GoC.seq ?_
      refine GoC.block ?_
      refine GoC.seq ?_
      refine GoC.openR (n := 3) a s.1 hlt (fun _ hq => ?_)
      refine GoC.region ?_
      refine GoL.q (op_indexR rfl rfl rfl (by first | assumption | omega)) ?_
      refine GoL.q (op_loadEA rfl rfl) ?_
      refine GoL.x (op_alloc) ?_
      rintro _ _ _ ⟨b6, rfl, rfl, rfl⟩
      refine GoL.y0 (op_store (cs' := [.int .i64 l[s.1].From, .int .i64 l[s.1].To, .int .i64 l[s.1].Weight]) rfl rfl rfl rfl (by simp [Value.oneCell']) (Nat.le_of_ble_eq_true rfl) rfl) ?_
      rintro _ _ _ ⟨rfl, rfl, rfl⟩
      refine GoL.nil .next ?_
      have hal := hg.2.2 _ (List.getElem_mem hlt)
      have hil : l[s.1].To.toNat < s.2.length := by rw [hs2.1]; omega
      refine GoC.region ?_
      refine GoL.q (op_move rfl) ?_
      refine GoL.q (op_fieldAddr rfl) ?_
      refine GoL.q (op_load rfl rfl) ?_
      refine GoL.q (op_indexO rfl rfl (Int.toNat_of_nonneg hal.2.1.1).symm hil (by first | rfl | omega | (simp only [List.length_set] <;> omega))) ?_
      refine GoL.q (op_loadO rfl (by intro _ _ _ _ h; exact h.1) (by first | assumption | omega) rfl) ?_
      refine GoL.q (op_add rfl rfl) ?_
      refine GoL.q (op_indexO rfl rfl (Int.toNat_of_nonneg hal.2.1.1).symm hil (by first | rfl | omega | (simp only [List.length_set] <;> omega))) ?_
      refine GoL.y0 (op_storeO (xv := w64 (s.2[l[s.1].To.toNat] + 1)) rfl rfl hil (by intro _ _; exact ⟨rfl, w64_w64 _⟩)) ?_
      rintro _ _ _ ⟨rfl, rfl, rfl⟩
      refine GoL.nil (.blockNormal (.next)) ?_
      refine GoC.region ?_
      refine GoL.q (op_inc rfl (by omega)) ?_
      refine GoL.q (op_move rfl) ?_
      exact GoL.again (s.1 + 1, s.2.set l[s.1].To.toNat (w64 (s.2[l[s.1].To.toNat] + 1))) ⟨by omega, by simpa using hs2.1, fun v hv => by have h6 := addAt_lo (n := n) (a := l[s.1].To) hs2.2.1 hil (by omega) (by omega) v (by rw [addAt, getD_lt _ hil]; exact hv); simp only; omega, by have h5 := hs2.2.2; rw [List.drop_eq_getElem_cons hlt, List.foldl_cons, addAt, getD_lt _ hil] at h5; exact h5⟩ (by simp only; omega) ⟨rfl, rfl, rfl, rfl, rfl, trivial⟩
    · have hge : l.length ≤ s.1 := by simpa using hc1
      refine GoC.exit (.thenExit (.thenExit (.blockSame (.next)))) ?_
      refine GoC.seq ?_
      refine GoC.region ?_
      refine GoL.x (op_callF (γ := Nat) (vs := []) (v := fun bp => .pointer (some ⟨bp, 0, none⟩)) (W1 := fun bp => [cel bp ty_pile_Pile [.slice none 0 0]]) (R1 := fun _ => []) (Ra := []) rfl (fun sh w h => new4_spec sh w)) ?_
      rintro _ _ _ ⟨bp, rfl, rfl, rfl⟩
      refine GoL.q (op_assign rfl) ?_
      refine GoL.nil .next ?_
      refine GoC.seq ?_
      refine GoC.seq ?_
      have hin : s.2 = inG n.toNat l := by rw [← hs2.2.2, List.drop_of_length_le hge]; rfl
      have hil2 := hs2.1
      refine GoC.region ?_
      refine GoL.q (op_move rfl) ?_
      refine GoL.q (op_len rfl) ?_
      refine GoL.q (op_move rfl) ?_
      refine GoL.nil .next ?_
      refine GoC.block ?_
      refine GoC.ownNil ty_pile_Item tItem ?_
      refine GoC.arrange [cel bp ty_pile_Pile [.slice none 0 0], own ty_pile_Item tItem none 0 [], own 3 t64 (some ⟨b21, 0, none⟩) n.toNat s.2, cel b1 ty_graph_Graph [.int .i64 n, .slice a l.length c]] ?_
      refine GoC.loop (σ := Nat × List Item × Hdr) (fun v => [(40, .int .i64 (v.1 : Int))]) [(1, _), (4, _), (7, _), (38, _), (39, _)] (fun v => [cel bp ty_pile_Pile [.slice v.2.2.1 v.2.1.length v.2.2.2], own ty_pile_Item tItem v.2.2.1 v.2.2.2 v.2.1, own 3 t64 (some ⟨b21, 0, none⟩) n.toNat s.2, cel b1 ty_graph_Graph [.int .i64 n, .slice a l.length c]]) (fun v => _) (fun v => v.1 ≤ s.2.length ∧ (v.2.1.length ≤ v.1 ∧ ItIn n v.2.1 ∧ pile0 (s.2.drop v.1) v.1 v.2.1 = pile0 s.2 0 [])) (fun v => s.2.length - v.1) (0, [], (none, 0)) ⟨by simp, by simp, (fun q hq => by simp at hq), rfl⟩ ⟨rfl, rfl, rfl, rfl, rfl, rfl, trivial⟩ (fun _ h => h) ?_
      intro v ⟨hv1, hv2⟩
      refine GoC.seq ?_
      refine GoC.region ?_
      refine GoL.q (op_lss rfl rfl) ?_
      refine GoL.nil .next ?_
      refine GoC.seq ?_
      refine GoC.cond rfl (fun hc2 => ?_) (fun hc2 => ?_)
      · have hlt1 : v.1 < s.2.length := by rw [hil2]; have := of_decide_eq_true hc2; omega
        refine GoC.skipTo .next ?_
        refine GoC.seq ?_
        refine GoC.block ?_
        refine GoC.seq ?_
        refine GoC.region ?_
        refine GoL.q (op_move rfl) ?_
        refine GoL.q (op_indexO rfl rfl rfl (by first | assumption | omega) (by first | rfl | omega | (simp only [List.length_set] <;> omega))) ?_
        refine GoL.q (op_loadO rfl (by intro _ _ _ _ h; exact h.1) (by first | assumption | omega) rfl) ?_
        refine GoL.q (op_assign rfl) ?_
        refine GoL.q (op_assign rfl) ?_
        refine GoL.nil .next ?_
        refine GoC.seq ?_
        refine GoC.region ?_
        refine GoL.q (op_move rfl) ?_
        refine GoL.q (op_eql rfl rfl) ?_
        refine GoL.nil .next ?_
        refine GoC.cond rfl (fun hc3 => ?_) (fun hc3 => ?_)
        · have hz : decide (s.2[v.1] = 0) = true := hc3
          have hjw : w64 ((v.1 : Nat) : Int) = ((v.1 : Nat) : Int) := w64_id (by omega)
          refine GoC.region ?_
          refine GoL.q (op_move rfl) ?_
          refine GoL.q (op_move rfl) ?_
          refine GoL.q (op_move rfl) ?_
          refine GoL.q (op_build1 ([.int .i64 ((v.1 : Nat) : Int), .int .i64 ((v.1 : Nat) : Int)]) rfl rfl) ?_
          refine GoL.y (op_callM (γ := Hdr) (vs := [.pointer (some ⟨bp, 0, none⟩), .agg #[.int .i64 ((v.1 : Nat) : Int), .int .i64 ((v.1 : Nat) : Int)]]) (v := fun _ => .tuple #[]) (Wa := [cel bp ty_pile_Pile [.slice v.2.2.1 v.2.1.length v.2.2.2], own ty_pile_Item tItem v.2.2.1 v.2.2.2 v.2.1]) (W1 := fun g => [cel bp ty_pile_Pile [.slice g.1 (putI v.2.1 ⟨((v.1 : Nat) : Int), ((v.1 : Nat) : Int)⟩).length g.2], own ty_pile_Item tItem g.1 g.2 (putI v.2.1 ⟨((v.1 : Nat) : Int), ((v.1 : Nat) : Int)⟩)]) (R1 := fun _ => []) (Ra := []) rfl (fun sh w h => put4_spec v.2.1 ⟨((v.1 : Nat) : Int), ((v.1 : Nat) : Int)⟩ v.2.2.1 v.2.2.2 bp ⟨hjw, hjw⟩ (by omega) sh w h)) ?_
          rintro _ _ _ ⟨g51, rfl, rfl, rfl⟩
          refine GoL.nil (.blockNormal (.next)) ?_
          refine GoC.region ?_
          refine GoL.q (op_inc rfl (by omega)) ?_
          refine GoL.q (op_move rfl) ?_
          exact GoL.again (v.1 + 1, putI v.2.1 ⟨((v.1 : Nat) : Int), ((v.1 : Nat) : Int)⟩, g51) ⟨by omega, by simp only [putI_len]; have := hv2.1; omega, hv2.2.1.put (by omega) hg.1.2, by have h5 := hv2.2.2; rw [List.drop_eq_getElem_cons hlt1, pile0, if_pos hz] at h5; exact h5⟩ (by simp only; omega) ⟨rfl, rfl, rfl, rfl, rfl, rfl, trivial⟩
        · have hz : decide (s.2[v.1] = 0) = false := hc3
          refine GoC.skipTo (.blockNormal (.next)) ?_
          refine GoC.region ?_
          refine GoL.q (op_inc rfl (by omega)) ?_
          refine GoL.q (op_move rfl) ?_
          exact GoL.again (v.1 + 1, v.2) ⟨by omega, by show v.2.1.length ≤ v.1 + 1; have := hv2.1; omega, hv2.2.1, by have h5 := hv2.2.2; rw [List.drop_eq_getElem_cons hlt1, pile0, if_neg (Bool.eq_false_iff.1 hz)] at h5; exact h5⟩ (by simp only; omega) ⟨rfl, rfl, rfl, rfl, rfl, rfl, trivial⟩
      · have hge1 : s.2.length ≤ v.1 := by rw [hil2]; have := of_decide_eq_false hc2; omega
        refine GoC.exit (.thenExit (.thenExit (.blockSame (.next)))) ?_
        refine GoC.seq ?_
        refine GoC.region ?_
        refine GoL.q (op_assign rfl) ?_
        refine GoL.nil .next ?_
        refine GoC.seq ?_
        refine GoC.seq ?_
        have hpv : v.2.1 = pile0 s.2 0 [] := by rw [← hv2.2.2, List.drop_of_length_le hge1]; rfl
        have hvl := hv2.1
        refine GoC.region ?_
        refine GoL.q (op_move rfl) ?_
        refine GoL.y (op_callM (γ := Unit) (vs := [.pointer (some ⟨bp, 0, none⟩)]) (v := fun _ => .tuple #[.agg #[.int .i64 (if v.2.1.length = 0 then ⟨0, 0⟩ else (takeI v.2.1).1 : Item).Key, .int .i64 (if v.2.1.length = 0 then ⟨0, 0⟩ else (takeI v.2.1).1 : Item).ID], .bool (!decide ((v.2.1.length : Int) = 0))]) (Wa := [cel bp ty_pile_Pile [.slice v.2.2.1 v.2.1.length v.2.2.2], own ty_pile_Item tItem v.2.2.1 v.2.2.2 v.2.1]) (W1 := fun _ => [cel bp ty_pile_Pile [.slice v.2.2.1 (if v.2.1.length = 0 then v.2.1 else (takeI v.2.1).2).length v.2.2.2], own ty_pile_Item tItem v.2.2.1 v.2.2.2 (if v.2.1.length = 0 then v.2.1 else (takeI v.2.1).2)]) (R1 := fun _ => []) (Ra := []) rfl (fun sh w h => take4_spec v.2.1 v.2.2.1 v.2.2.2 bp (by omega) sh w h)) ?_
        rintro _ _ _ ⟨_, rfl, rfl, rfl⟩
        refine GoL.q (op_move rfl) ?_
        refine GoL.q (op_extract rfl rfl) ?_
        refine GoL.q (op_extract rfl rfl) ?_
        refine GoL.x (op_alloc) ?_
        rintro _ _ _ ⟨b11, rfl, rfl, rfl⟩
        refine GoL.y0 (op_store (cs' := [.int .i64 (if v.2.1.length = 0 then ⟨0, 0⟩ else (takeI v.2.1).1 : Item).Key, .int .i64 (if v.2.1.length = 0 then ⟨0, 0⟩ else (takeI v.2.1).1 : Item).ID]) rfl rfl rfl rfl (by simp [Value.oneCell']) (Nat.le_of_ble_eq_true rfl) rfl) ?_
        rintro _ _ _ ⟨rfl, rfl, rfl⟩
        refine GoL.q (op_assign rfl) ?_
        refine GoL.nil .next ?_
        refine GoC.block ?_
        refine GoC.ownNil 3 t64 ?_
        refine GoC.arrange [cel b11 ty_pile_Item [.int .i64 (if v.2.1.length = 0 then ⟨0, 0⟩ else (takeI v.2.1).1 : Item).Key, .int .i64 (if v.2.1.length = 0 then ⟨0, 0⟩ else (takeI v.2.1).1 : Item).ID], cel bp ty_pile_Pile [.slice v.2.2.1 (if v.2.1.length = 0 then v.2.1 else (takeI v.2.1).2).length v.2.2.2], own ty_pile_Item tItem v.2.2.1 v.2.2.2 (if v.2.1.length = 0 then v.2.1 else (takeI v.2.1).2), own 3 t64 (some ⟨b21, 0, none⟩) n.toNat s.2, own 3 t64 none 0 [], cel b1 ty_graph_Graph [.int .i64 n, .slice a l.length c]] ?_
        refine GoC.loop (σ := SSt) (fun s => [(11, .pointer (some ⟨s.b, 0, none⟩)), (12, .bool (!decide ((s.p.length : Int) = 0))), (10, .slice s.out.a s.out.l.length s.out.c)]) [(1, _), (4, _), (7, _)] (fun s => [cel s.b ty_pile_Item [.int .i64 (if s.p.length = 0 then ⟨0, 0⟩ else (takeI s.p).1 : Item).Key, .int .i64 (if s.p.length = 0 then ⟨0, 0⟩ else (takeI s.p).1 : Item).ID], cel bp ty_pile_Pile [.slice s.h.1 (if s.p.length = 0 then s.p else (takeI s.p).2).length s.h.2], own ty_pile_Item tItem s.h.1 s.h.2 (if s.p.length = 0 then s.p else (takeI s.p).2), own 3 t64 (some ⟨b21, 0, none⟩) n.toNat s.inn, own 3 t64 s.out.a s.out.c s.out.l, cel b1 ty_graph_Graph [.int .i64 n, .slice a l.length c]]) (fun s => _) (fun s => SI n (20000 * ((n.toNat : Int) - s.f)) s.f s.inn s.p ∧ s.f ≤ n.toNat ∧ s.out.l.length + s.f ≤ n.toNat ∧ sortL l s.f (s.p, s.inn, s.out.l) = sortS n l) (fun s => s.f) ⟨n.toNat, v.2.1, v.2.2, s.2, ⟨none, 0, []⟩, b11⟩ ⟨⟨by simp only; omega, fun q hq => by have := hs2.2.1 q hq; simp only; omega, by simp only; have h5 := pile0_len s.2 0 []; rw [← hpv] at h5; have h6 : ([] : List Item).length = 0 := rfl; omega, hv2.2.1⟩, Nat.le_refl _, by simp, by simp only; rw [hpv, hin]; rfl⟩ ⟨rfl, rfl, rfl, rfl, rfl, rfl, trivial⟩ (fun _ h => h) ?_
        intro s ⟨hs1, hs2, hs3, hs4⟩
        refine GoC.seq ?_
        refine GoC.seq ?_
        refine GoC.region ?_
        refine GoL.q (op_move rfl) ?_
        refine GoL.nil .next ?_
        refine GoC.cond rfl (fun hc4 => ?_) (fun hc4 => ?_)
        · have hne : ¬ s.p.length = 0 := by have h5 := hc4; simp at h5; simp [h5]
          have hx : (if s.p.length = 0 then ⟨0, 0⟩ else (takeI s.p).1 : Item) = (takeI s.p).1 := if_neg hne
          have hr : (if s.p.length = 0 then s.p else (takeI s.p).2) = (takeI s.p).2 := if_neg hne
          rw [hx, hr]
          refine GoC.skipTo .next ?_
          refine GoC.seq ?_
          refine GoC.block ?_
          refine GoC.seq ?_
          refine GoC.region ?_
          refine GoL.q (op_move rfl) ?_
          refine GoL.q (op_fieldAddr rfl) ?_
          refine GoL.q (op_load rfl rfl) ?_
          refine GoL.x (op_buildSlice1 rfl rfl rfl) ?_
          rintro _ _ _ ⟨b67, rfl, rfl, rfl⟩
          refine GoL.y (op_append1 ((takeI s.p).1.ID) rfl rfl (by rfl) (by intro _ _ _; exact ⟨rfl, (hs1.it _ (mem_takeI (by omega)).1).2.2⟩) (by omega)) ?_
          rintro _ _ _ ⟨a68, c68, rfl, rfl, rfl⟩
          refine GoL.q (op_assign rfl) ?_
          refine GoL.nil .next ?_
          refine GoC.seq ?_
          have hsp := hs1.mu
          refine GoC.region ?_
          refine GoL.q (op_loadA rfl rfl rfl) ?_
          refine GoL.q (op_fieldAddr rfl) ?_
          refine GoL.q (op_load rfl rfl) ?_
          refine GoL.x (op_callF (vs := [.agg #[.int .i64 n, .slice a l.length c], .int .i64 (takeI s.p).1.ID]) rfl (fun sh w h => out_spec n (takeI s.p).1.ID l a c hl sh w h)) ?_
          rintro _ _ _ ⟨ks, rfl, rfl, rfl⟩
          refine GoL.q (op_len rfl) ?_
          refine GoL.q (op_move rfl) ?_
          refine GoL.nil .next ?_
          refine GoC.block ?_
          refine GoC.only [own 3 t64 ks.1.a ks.1.c ks.1.l, own 3 t64 a68 c68 (s.out.l ++ [(takeI s.p).1.ID]), cel s.b ty_pile_Item [.int .i64 (takeI s.p).1.Key, .int .i64 (takeI s.p).1.ID], cel bp ty_pile_Pile [.slice s.h.1 (takeI s.p).2.length s.h.2], own ty_pile_Item tItem s.h.1 s.h.2 (takeI s.p).2, own 3 t64 (some ⟨b21, 0, none⟩) n.toNat s.inn, cel b1 ty_graph_Graph [.int .i64 n, .slice a l.length c]] ?_
          have hkl0 : ks.1.l.length ≤ l.length := by rw [ks.2]; exact outG_len
          refine GoC.loop (σ := Nat × List Int × List Item × Hdr) (fun u => [(74, .int .i64 (u.1 : Int))]) [(11, _), (10, _), (1, _), (4, _), (7, _), (72, _), (73, _)] (fun u => [own 3 t64 ks.1.a ks.1.c ks.1.l, own 3 t64 a68 c68 (s.out.l ++ [(takeI s.p).1.ID]), cel s.b ty_pile_Item [.int .i64 (takeI s.p).1.Key, .int .i64 (takeI s.p).1.ID], cel bp ty_pile_Pile [.slice u.2.2.2.1 u.2.2.1.length u.2.2.2.2], own ty_pile_Item tItem u.2.2.2.1 u.2.2.2.2 u.2.2.1, own 3 t64 (some ⟨b21, 0, none⟩) n.toNat u.2.1, cel b1 ty_graph_Graph [.int .i64 n, .slice a l.length c]]) (fun u => _) (fun u => u.1 ≤ ks.1.l.length ∧ (SI n ((20000 * ((n.toNat : Int) - s.f)) + u.1) (s.f - 1) u.2.1 u.2.2.1 ∧ (ks.1.l.drop u.1).foldl (sStep l) (u.2.1, u.2.2.1) = ks.1.l.foldl (sStep l) (s.inn, (takeI s.p).2))) (fun u => ks.1.l.length - u.1) (0, s.inn, (takeI s.p).2, s.h) ⟨by simp, ⟨hs1.len, fun q hq => by have := hs1.lo q hq; simp only; omega, by have h5 := takeI_len s.p; simp only; omega, fun q hq => hs1.it q ((mem_takeI (by omega)).2 q hq)⟩, rfl⟩ ⟨rfl, rfl, rfl, rfl, rfl, rfl, rfl, rfl, trivial⟩ (fun _ h => h) ?_
          intro u ⟨hu1, hu2⟩
          refine GoC.seq ?_
          refine GoC.region ?_
          refine GoL.q (op_lss rfl rfl) ?_
          refine GoL.nil .next ?_
          refine GoC.seq ?_
          refine GoC.cond rfl (fun hc5 => ?_) (fun hc5 => ?_)
          · have hlt3 : u.1 < ks.1.l.length := by simpa using hc5
            refine GoC.skipTo .next ?_
            refine GoC.seq ?_
            refine GoC.block ?_
            refine GoC.seq ?_
            skip
            refine GoC.region ?_
            refine GoL.q (op_indexO rfl rfl rfl (by first | assumption | omega) (by first | rfl | omega | (simp only [List.length_set] <;> omega))) ?_
            refine GoL.q (op_loadO rfl (by intro _ _ _ _ h; exact h.1) (by first | assumption | omega) rfl) ?_
            refine GoL.q (op_assign rfl) ?_
            refine GoL.nil .next ?_
            refine GoC.seq ?_
            have hk0 : 0 ≤ ks.1.l[u.1] ∧ ks.1.l[u.1] < l.length := by have h5 := outG_mem (i := (takeI s.p).1.ID) (l := l) (k := 0) ks.1.l[u.1] ((congrArg (fun L => ks.1.l[u.1] ∈ L) ks.2).mp (List.getElem_mem hlt3)); omega
            have hkl : ks.1.l[u.1].toNat < l.length := by omega
            refine GoC.openR (n := 3) a ks.1.l[u.1].toNat hkl (fun _ hq => ?_)
            have hj0 := (hg.2.2 _ (List.getElem_mem hkl)).2.1
            have hul : u.2.1.length = n.toNat := by have := hu2.1.len; omega
            have hjl : l[ks.1.l[u.1].toNat].To.toNat < u.2.1.length := by have := hu2.1.len; omega
            have hjl2 : l[ks.1.l[u.1].toNat].To.toNat < (u.2.1.set l[ks.1.l[u.1].toNat].To.toNat (w64 (u.2.1[l[ks.1.l[u.1].toNat].To.toNat] - 1))).length := by rw [List.length_set]; exact hjl
            have haa : arcAt l ks.1.l[u.1] = l[ks.1.l[u.1].toNat] := getD_lt _ hkl
            have hsb : (u.2.1.set l[ks.1.l[u.1].toNat].To.toNat (w64 (u.2.1[l[ks.1.l[u.1].toNat].To.toNat] - 1))) = subAt u.2.1 l[ks.1.l[u.1].toNat].To := by rw [subAt, getD_lt _ hjl]
            have hjw : w64 l[ks.1.l[u.1].toNat].To = l[ks.1.l[u.1].toNat].To := hq.2.1
            have hst := hu2.1.step (j := l[ks.1.l[u.1].toNat].To) hg.1.2 (by omega) hj0
            refine GoC.region ?_
            refine GoL.q (op_fieldAddr rfl) ?_
            refine GoL.q (op_load rfl rfl) ?_
            refine GoL.q (op_move rfl) ?_
            refine GoL.q (op_indexR rfl rfl (Int.toNat_of_nonneg hk0.1).symm hkl) ?_
            refine GoL.q (op_fieldAddrE rfl) ?_
            refine GoL.q (op_loadF rfl rfl) ?_
            refine GoL.q (op_assign rfl) ?_
            refine GoL.nil .next ?_
            refine GoC.seq ?_
            refine GoC.region ?_
            refine GoL.q (op_move rfl) ?_
            refine GoL.q (op_move rfl) ?_
            refine GoL.q (op_indexO rfl rfl (Int.toNat_of_nonneg hj0.1).symm hjl (by first | rfl | omega | (simp only [List.length_set] <;> omega))) ?_
            refine GoL.q (op_loadO rfl (by intro _ _ _ _ h; exact h.1) (by first | assumption | omega) rfl) ?_
            refine GoL.q (op_sub rfl rfl) ?_
            refine GoL.q (op_indexO rfl rfl (Int.toNat_of_nonneg hj0.1).symm hjl (by first | rfl | omega | (simp only [List.length_set] <;> omega))) ?_
            refine GoL.y0 (op_storeO (xv := w64 (u.2.1[l[ks.1.l[u.1].toNat].To.toNat] - 1)) rfl rfl hjl (by intro _ _; exact ⟨rfl, w64_w64 _⟩)) ?_
            rintro _ _ _ ⟨rfl, rfl, rfl⟩
            refine GoL.nil .next ?_
            refine GoC.seq ?_
            refine GoC.region ?_
            refine GoL.q (op_move rfl) ?_
            refine GoL.q (op_move rfl) ?_
            refine GoL.q (op_indexO rfl rfl (Int.toNat_of_nonneg hj0.1).symm hjl2 (by first | rfl | omega | (simp only [List.length_set] <;> omega))) ?_
            refine GoL.q (op_loadO rfl (by intro _ _ _ _ h; exact h.1) (by first | assumption | omega) rfl) ?_
            refine GoL.q (op_eql rfl rfl) ?_
            refine GoL.nil .next ?_
            refine GoC.sub (E' := [(74, _), (11, _), (10, _), (1, _), (4, _), (7, _), (72, _), (73, _), (15, _), (94, _)]) ⟨rfl, rfl, rfl, rfl, rfl, rfl, rfl, rfl, rfl, rfl, trivial⟩ ?_
            refine GoC.cond rfl (fun hc6 => ?_) (fun hc6 => ?_)
            · have hz : decide ((u.2.1.set l[ks.1.l[u.1].toNat].To.toNat (w64 (u.2.1[l[ks.1.l[u.1].toNat].To.toNat] - 1)))[l[ks.1.l[u.1].toNat].To.toNat]'hjl2 = 0) = true := hc6
              have hpl := hu2.1.mu
              refine GoC.region ?_
              refine GoL.q (op_move rfl) ?_
              refine GoL.q (op_move rfl) ?_
              refine GoL.q (op_move rfl) ?_
              refine GoL.q (op_build1 ([.int .i64 l[ks.1.l[u.1].toNat].To, .int .i64 l[ks.1.l[u.1].toNat].To]) rfl rfl) ?_
              refine GoL.y (op_callM (γ := Hdr) (vs := [.pointer (some ⟨bp, 0, none⟩), .agg #[.int .i64 l[ks.1.l[u.1].toNat].To, .int .i64 l[ks.1.l[u.1].toNat].To]]) (v := fun _ => .tuple #[]) (Wa := [cel bp ty_pile_Pile [.slice u.2.2.2.1 u.2.2.1.length u.2.2.2.2], own ty_pile_Item tItem u.2.2.2.1 u.2.2.2.2 u.2.2.1]) (W1 := fun g => [cel bp ty_pile_Pile [.slice g.1 (putI u.2.2.1 ⟨l[ks.1.l[u.1].toNat].To, l[ks.1.l[u.1].toNat].To⟩).length g.2], own ty_pile_Item tItem g.1 g.2 (putI u.2.2.1 ⟨l[ks.1.l[u.1].toNat].To, l[ks.1.l[u.1].toNat].To⟩)]) (R1 := fun _ => []) (Ra := []) rfl (fun sh w h => put4_spec u.2.2.1 ⟨l[ks.1.l[u.1].toNat].To, l[ks.1.l[u.1].toNat].To⟩ u.2.2.2.1 u.2.2.2.2 bp ⟨hjw, hjw⟩ (by omega) sh w h)) ?_
              rintro _ _ _ ⟨g99, rfl, rfl, rfl⟩
              refine GoL.nil (.blockNormal (.next)) ?_
              refine GoC.region ?_
              refine GoL.q (op_inc rfl (by omega)) ?_
              refine GoL.q (op_move rfl) ?_
              exact GoL.again (u.1 + 1, (u.2.1.set l[ks.1.l[u.1].toNat].To.toNat (w64 (u.2.1[l[ks.1.l[u.1].toNat].To.toNat] - 1))), putI u.2.2.1 ⟨l[ks.1.l[u.1].toNat].To, l[ks.1.l[u.1].toNat].To⟩, g99) ⟨by omega, by have h5 := hst; rw [← hsb, getD_lt _ hjl2, if_pos hz] at h5; exact h5.mono (by first | omega | (simp only; omega)), by have h5 := hu2.2; rw [List.drop_eq_getElem_cons hlt3, List.foldl_cons, sStep, haa, ← hsb, getD_lt _ hjl2, if_pos hz] at h5; exact h5⟩ (by simp only; omega) ⟨rfl, rfl, rfl, rfl, rfl, rfl, rfl, rfl, trivial⟩
            · have hz : decide ((u.2.1.set l[ks.1.l[u.1].toNat].To.toNat (w64 (u.2.1[l[ks.1.l[u.1].toNat].To.toNat] - 1)))[l[ks.1.l[u.1].toNat].To.toNat]'hjl2 = 0) = false := hc6
              refine GoC.skipTo (.blockNormal (.next)) ?_
              refine GoC.region ?_
              refine GoL.q (op_inc rfl (by omega)) ?_
              refine GoL.q (op_move rfl) ?_
              exact GoL.again (u.1 + 1, (u.2.1.set l[ks.1.l[u.1].toNat].To.toNat (w64 (u.2.1[l[ks.1.l[u.1].toNat].To.toNat] - 1))), u.2.2.1, u.2.2.2) ⟨by omega, by have h5 := hst; rw [← hsb, getD_lt _ hjl2, if_neg (Bool.eq_false_iff.1 hz)] at h5; exact h5.mono (by first | omega | (simp only; omega)), by have h5 := hu2.2; rw [List.drop_eq_getElem_cons hlt3, List.foldl_cons, sStep, haa, ← hsb, getD_lt _ hjl2, if_neg (Bool.eq_false_iff.1 hz)] at h5; exact h5⟩ (by simp only; omega) ⟨rfl, rfl, rfl, rfl, rfl, rfl, rfl, rfl, trivial⟩
          · have hge3 : ks.1.l.length ≤ u.1 := by simpa using hc5
            refine GoC.exit (.thenExit (.thenExit (.blockSame (.blockNormal (.next))))) ?_
            refine GoC.seq ?_
            refine GoC.seq ?_
            have huf : (u.2.1, u.2.2.1) = ks.1.l.foldl (sStep l) (s.inn, (takeI s.p).2) := by rw [← hu2.2, List.drop_of_length_le hge3]; rfl
            have hpl := hu2.1.mu
            refine GoC.region ?_
            refine GoL.q (op_loadA rfl rfl rfl) ?_
            refine GoL.nil .next ?_
            refine GoC.region ?_
            refine GoL.x (op_alloc) ?_
            rintro _ _ _ ⟨b11, rfl, rfl, rfl⟩
            refine GoL.y0 (op_store (cs' := [.int .i64 (takeI s.p).1.Key, .int .i64 (takeI s.p).1.ID]) rfl rfl rfl rfl (by simp [Value.oneCell']) (Nat.le_of_ble_eq_true rfl) rfl) ?_
            rintro _ _ _ ⟨rfl, rfl, rfl⟩
            refine GoL.nil .next ?_
            refine GoC.region ?_
            refine GoL.q (op_move rfl) ?_
            refine GoL.y (op_callM (γ := Unit) (vs := [.pointer (some ⟨bp, 0, none⟩)]) (v := fun _ => .tuple #[.agg #[.int .i64 (if u.2.2.1.length = 0 then ⟨0, 0⟩ else (takeI u.2.2.1).1 : Item).Key, .int .i64 (if u.2.2.1.length = 0 then ⟨0, 0⟩ else (takeI u.2.2.1).1 : Item).ID], .bool (!decide ((u.2.2.1.length : Int) = 0))]) (Wa := [cel bp ty_pile_Pile [.slice u.2.2.2.1 u.2.2.1.length u.2.2.2.2], own ty_pile_Item tItem u.2.2.2.1 u.2.2.2.2 u.2.2.1]) (W1 := fun _ => [cel bp ty_pile_Pile [.slice u.2.2.2.1 (if u.2.2.1.length = 0 then u.2.2.1 else (takeI u.2.2.1).2).length u.2.2.2.2], own ty_pile_Item tItem u.2.2.2.1 u.2.2.2.2 (if u.2.2.1.length = 0 then u.2.2.1 else (takeI u.2.2.1).2)]) (R1 := fun _ => []) (Ra := []) rfl (fun sh w h => take4_spec u.2.2.1 u.2.2.2.1 u.2.2.2.2 bp (by omega) sh w h)) ?_
            rintro _ _ _ ⟨_, rfl, rfl, rfl⟩
            refine GoL.q (op_move rfl) ?_
            refine GoL.q (op_extract rfl rfl) ?_
            refine GoL.q (op_extract rfl rfl) ?_
            refine GoL.y0 (op_store (cs' := [.int .i64 (if u.2.2.1.length = 0 then ⟨0, 0⟩ else (takeI u.2.2.1).1 : Item).Key, .int .i64 (if u.2.2.1.length = 0 then ⟨0, 0⟩ else (takeI u.2.2.1).1 : Item).ID]) rfl rfl rfl rfl (by simp [Value.oneCell']) (Nat.le_of_ble_eq_true rfl) rfl) ?_
            rintro _ _ _ ⟨rfl, rfl, rfl⟩
            refine GoL.q (op_assign rfl) ?_
            exact GoL.again ⟨s.f - 1, u.2.2.1, u.2.2.2, u.2.1, ⟨a68, c68, s.out.l ++ [(takeI s.p).1.ID]⟩, b11⟩ ⟨hu2.1.mono (by have := ks.2 ▸ outG_len (i := (takeI s.p).1.ID) (l := l) (k := 0); simp only; omega), by simp only; omega, by simp only [List.length_append, List.length_singleton]; omega, by have h5 := hs4; rw [show s.f = (s.f - 1) + 1 by omega, sortL, if_neg hne, ← ks.2, ← huf] at h5; exact h5⟩ (by simp only; omega) ⟨rfl, rfl, rfl, rfl, rfl, rfl, trivial⟩
        · have hen : s.p.length = 0 := by have h5 := hc4; simp at h5; simp [h5]
          refine GoC.exit (.thenExit (.thenExit (.blockSame (.next)))) ?_
          refine GoC.seq ?_
          refine GoC.seq ?_
          have hed : sortS n l = (s.p, s.inn, s.out.l) := by rw [← hs4]; exact sortL_done hen
          refine GoC.region ?_
          refine GoL.q (op_move rfl) ?_
          refine GoL.q (op_len rfl) ?_
          refine GoL.q (op_fieldAddr rfl) ?_
          refine GoL.q (op_load rfl rfl) ?_
          refine GoL.q (op_lss rfl rfl) ?_
          refine GoL.nil .next ?_
          refine GoC.cond rfl (fun hc7 => ?_) (fun hc7 => ?_)
          · have hsh := hc7
            refine GoC.seq ?_
            refine GoC.region ?_
            refine GoL.q (op_assign rfl) ?_
            refine GoL.q (op_assign rfl) ?_
            refine GoL.nil .next ?_
            refine GoC.ret (.thenRet (.here)) ?_
            refine done2 rfl rfl rfl ?_
            intro w' hw
            have hf : sortF n l = ([], false) := by unfold sortF; rw [if_neg (Bool.eq_false_iff.1 hgc), if_pos (by rw [hed]; exact hsh)]
            exact ⟨⟨⟨none, 0, []⟩, by rw [hf]⟩, by show Ending.returned (.tuple #[.slice none 0 0, .bool false]) = .returned (.tuple #[.slice none 0 0, .bool (sortF n l).2]); rw [hf], (hw.n.drop (List.nil_sublist _) (by simp)).ownNil 3 t64⟩
          · have hsh := hc7
            refine GoC.skipTo .next ?_
            refine GoC.seq ?_
            refine GoC.region ?_
            refine GoL.q (op_move rfl) ?_
            refine GoL.q (op_assign rfl) ?_
            refine GoL.q (op_assign rfl) ?_
            refine GoL.nil .next ?_
            refine GoC.ret .here ?_
            refine done2 rfl rfl rfl ?_
            intro w' hw
            have hf : sortF n l = (s.out.l, true) := by unfold sortF; rw [if_neg (Bool.eq_false_iff.1 hgc), if_neg (by rw [hed]; exact Bool.eq_false_iff.1 hsh), hed]
            exact ⟨⟨s.out, by rw [hf]⟩, by show Ending.returned (.tuple #[.slice s.out.a s.out.l.length s.out.c, .bool true]) = .returned (.tuple #[.slice s.out.a s.out.l.length s.out.c, .bool (sortF n l).2]); rw [hf], Holds.only (W' := [own 3 t64 s.out.a s.out.c s.out.l]) hw.n⟩
end Go.Proofs.Ytdeacehacndopaa

namespace Go.Proofs.Ytdeacehacndopaa
open Go.RowKit

section
variable {P : Program} {C : Cx} {E : Env} {W W' : List Ent} {R R' : List RF} {Q : Exit → Act → World → Prop} {ops : Array Oper}
variable {d : Option Tmp} {x y z : Operand} {t t' u e : TypeId} {pos : String} {aft : Array Edge} {gd : Option (Nat × Bool)}

/-- a copy of a shared row of numbers over one's own of as many -/
theorem op_copyEq {T : TypeId} {kk : IntKind} {a1 a2 : Option Addr} {c c1 c2 c3 m b : Nat} {zs : List Value} {l fr : List Int} [hw : HasOwn a1 W T (tI kk) c l] [hr : HasRo a2 R (tI kk) c2 fr] [ht : TSl P t T] [hi : TInfo P T 1 b zs] [hu : Upd (own T (tI kk) a1 c l) (own T (tI kk) a1 c fr) W W']
    (hx : evalE E x = some (.slice a1 m c1)) (hm : m = l.length) (hy : evalE E y = some (.slice a2 fr.length c3)) (hl : l.length = fr.length) :
    OpY P C E W R ⟨d, .call ⟨.builtin .copy, #[x, y], #[t, t']⟩, u, pos, aft, gd⟩ (fun v W'' R' => v = .int .i64 fr.length ∧ W'' = W' ∧ R' = R) := by
  intro a w hs
  obtain ⟨sh0, hm0⟩ := hs.mem
  have hown := hm0.own _ hw.mem
  obtain ⟨ho, hwr⟩ := own_ints hown
  obtain ⟨i, z, h1, h2, h3, h4, h5⟩ := hi.ex
  have hsz : (P.info? T).map (·.size) = some 1 := by rw [h1]; simp [h3]
  subst hm
  have hro := hm0.facts _ hr.mem
  have hfw : ∀ v ∈ fr, kk.wrap v = v := by
    intro v hv
    obtain ⟨j, hj⟩ := List.mem_iff_getElem?.1 hv
    obtain ⟨_, _, _, _, _, _, hrep⟩ := hro.2.2.2 j v hj
    exact hrep.2
  simp only [execOp, resolve]
  simp [hs.fr.eval hx, hs.fr.eval hy, invoke, builtin]
  rcases Nat.eq_zero_or_pos l.length with h0 | h0
  · have hl0 : l = [] := List.eq_nil_of_length_eq_zero h0
    have hf0 : fr = [] := List.eq_nil_of_length_eq_zero (by omega)
    subst hl0; subst hf0
    have hr0 := run_copy_none (P := P) w t t' u T a1 a2 0 c1 0 c3 ht.un hsz (by simp)
    simp only [List.length_nil] at hr0 ⊢
    simp [hr0, ResX, goInt]
    refine ⟨_, _, ⟨rfl, rfl⟩, ?_⟩
    exact hs.mem.upd (e := own T (tI kk) a1 c []) (e' := own T (tI kk) a1 c []) (Keep.refl _ _) (fun sh hm => hm.own _ hw.mem) (by cases a1 <;> simp [own]) (fun b hb => .inl hb)
  · obtain ⟨g, rfl⟩ := own_some hown h0
    obtain ⟨g2, o2, _, rfl, _, _, _⟩ := hro.2.2.2 0 fr[0] (List.getElem?_eq_getElem (by omega))
    rcases ho.2 with ⟨h6, _⟩ | ⟨g', cap, cur, hv, hb0, hg, hn, hcm, hcs, htake⟩
    · simp at h6
    · simp only [Value.slice.injEq, Option.some.injEq, Addr.mk.injEq, and_true, true_and] at hv
      obtain ⟨rfl, rfl⟩ := hv
      obtain ⟨cur, rfl⟩ : ∃ q : List Value, cur = q.toArray := ⟨cur.toList, by simp⟩
      simp only [List.size_toArray, Nat.mul_one] at hcs
      rw [Nat.mul_one, List.toList_toArray] at htake
      have hrun := run_copy_cells (P := P) w t t' u T g 0 l.length c1 ⟨g2, o2, none⟩ fr.length c3 (fr.map (.int kk)) ht.un hsz (by simp [hl])
        (fun j v hj => by
          rw [List.getElem?_map] at hj
          cases hfj : fr[j]? with
          | none => rw [hfj] at hj; cases hj
          | some q =>
            rw [hfj] at hj
            simp only [Option.map_some, Option.some.injEq] at hj
            subst hj
            obtain ⟨g3, o3, cs, h6, _, h7, h8⟩ := hro.2.2.2 j q hfj
            simp only [Option.some.injEq, Addr.mk.injEq, and_true] at h6
            obtain ⟨rfl, rfl⟩ := h6
            have h9 := h7 0 (.int kk q) (by rw [h8.1]; rfl)
            rw [Addr.add_lit]
            have : (tI kk).n = 1 := rfl
            rw [this, Nat.mul_one] at h9
            simpa using h9)
        (fun j hj => by rw [cell_of_cel hg, List.getElem?_eq_getElem (by simp at hj; omega)]; rfl) (fun j _ => by simp [World.frozen?, hg]) (by simp [Value.oneCell'])
      simp [hrun, ResX, goInt]
      refine ⟨_, _, ⟨rfl, rfl⟩, hs.mem.upd (e := own T (tI kk) (some ⟨g, 0, none⟩) c l) (e' := own T (tI kk) (some ⟨g, 0, none⟩) c fr) ((setCells_keep g _ _ _).mono (by simp [own])) (fun sh hm => ?_) (by simp [own]) (fun b hb => .inl hb)⟩
      have hrow := setCells_row g (fr.map (.int kk)) 0 w cur T hg (by simp; omega)
      refine ints_own ⟨by simp, .inr ⟨g, c, _, rfl, Nat.zero_le _, hrow, by omega, hcm, by simp; omega, ?_⟩⟩ hfw
      rw [Nat.mul_one, List.toList_toArray]
      simp only [List.take_zero, List.nil_append, Nat.zero_add, List.length_map]
      rw [List.take_append_of_le_length (by simp), List.take_of_length_le (by simp)]

/-- the beginning of a shared slice, with no room behind it -/
theorem op_slice3 {α : Type} {ty : RTy α} {a' : Option Addr} {c n : Nat} {ag : Bool} {l : List α} {hi mx : Operand} {kk k2 : IntKind} (j : Nat) [hw : HasRo a' R ty c l] [ht : TSl P t e] [hz : TSz P e n ag]
    (hx : evalE E x = some (.slice a' l.length c)) (hhi : evalE E hi = some (.int kk (j : Int))) (hmx : evalE E mx = some (.int k2 (j : Int))) (hj : j ≤ l.length) :
    OpX P C E W R ⟨d, .slice t x none (some hi) (some mx), u, pos, aft, gd⟩ (fun v W' R' => ∃ a2, v = .slice a2 (l.take j).length j ∧ W' = W ∧ R' = ro ty a2 j (l.take j) :: R) := by
  intro a w hs
  obtain ⟨sh0, hm0⟩ := hs.mem
  have h1 := (hm0.facts _ hw.mem).1
  have e1 : ∀ (kk : IntKind) (p q : Nat) (cd : BoundsCode), p ≤ q → (Instr.sliceBound (.int kk (p : Int)) q cd).run P w = .ok p w := by
    intro kk p q cd hpq
    have : (0 : Int) ≤ p ∧ (p : Int) ≤ q := by omega
    simp [Instr.sliceBound, asIntOf, this, hpq]
  have hadd : ∀ q : Addr, q.add 0 = q := fun q => by unfold Addr.add; rw [if_pos rfl]
  have hrun : (Instr.sliceAt t (.slice a' l.length c) none (some (a.eval hi)) (some (a.eval mx))).run P w = .ok (.slice a' j j) w := by
    simp [Instr.sliceAt, Instr.slice, run_under ht.un, Instr.sliceBounds, hs.fr.eval hhi, hs.fr.eval hmx, e1 k2 j c _ (Nat.le_trans hj h1), e1 kk j j _ (Nat.le_refl _), hz.sz]
    intro _
    cases a' <;> simp [hadd]
  have hlen : (l.take j).length = j := by simp; omega
  simp only [execOp, hs.fr.eval hx, Option.map_none, Option.map_some]
  simp only [hlen]
  simp [hrun, ResX]
  refine ⟨_, _, ⟨rfl, rfl⟩, hs.mem.more (r := ro ty a' j (l.take j)) fun sh hm => ?_, Keep.refl _ _⟩
  obtain ⟨h2, h3, h4, h5⟩ := hm.facts _ hw.mem
  refine ⟨by omega, by omega, fun h0 => ?_, fun k q hq => ?_⟩
  · have := h4 h0; omega
  · rw [List.getElem?_take] at hq
    split at hq
    · exact h5 k q hq
    · cases hq

/-- an append to a row of one's own, of what one can read -/
theorem append_ownA {α : Type} {T : TypeId} {ty : RTy α} {a' : Option Addr} {c m c2 size bytes : Nat} {q2 : Addr} {zcs : List Value} {l ls : List α} {news : List Value} {w : World} (hw : own T ty a' c l ∈ W) [ht : TSl P t T] [hi : TInfo P T size bytes zcs] (hz : zcs.length = size)
    (hh : Holds C W R w) (hn : ty.n = size) (h0 : 0 < size) (hnews : news.length = m * size) (hcell' : ∀ (j : Nat) v, news[j]? = some v → w.cell? (q2.add j) = some v) (h1 : ∀ v ∈ news, v.oneCell' = true) (hls : ls.length = m)
    (hrep : ∀ sh, HoldsAt sh C W R w → ∀ (i : Nat) x, ls[i]? = some x → ty.rep sh w (slot ty news i) x) (hb : (l.length + m) * bytes ≤ 140737488355328) (hmx : l.length + m ≤ maxLen) :
    ∃ a2 c3 w', (Builtin.append_ #[t, t] u #[.slice a' l.length c, .slice (some q2) m c2]).run P w = .ok (.slice a2 (l.length + m) c3) w' ∧
      ∀ W', Upd (own T ty a' c l) (own T ty a2 c3 (l ++ ls)) W W' → Holds C W' R w' := by
  obtain ⟨i, z, hi1, hi2, hi3, hi4, hi5⟩ := hi.ex
  obtain ⟨sh0, hm0⟩ := hh
  obtain ⟨xs, ho, hreps⟩ := hm0.own _ hw
  subst hn
  have hzs : z.cells.size = ty.n := by rw [hi5]; simpa using hz
  obtain ⟨v', w', hr, ho', hg, hnil⟩ := run_append_own (P := P) w 0 t u T i z ty.n bytes ht.un hi1 hi2 hi3 hi4 hzs h0 _ l.length xs ho q2 m c2 news hnews hcell' h1 hmx hb (Nat.zero_le _)
  have hform : ∃ a2 c3, v' = .slice a2 (l.length + m) c3 ∧ ∀ b ∈ a2.toList.map (·.block), b ∈ a'.toList.map (·.block) ∨ w.heap.size ≤ b := by
    rcases ho'.2 with ⟨rfl, hlm⟩ | ⟨g, cap, cur, rfl, _, hgg, _⟩
    · exact ⟨none, 0, by rw [hlm], by simp⟩
    · refine ⟨_, _, rfl, fun b hb => ?_⟩
      simp at hb
      subst hb
      rcases ho.2 with ⟨h2, h3⟩ | ⟨g', cap', cur', hv, hg'0, hg', hnc, hcm, hcs, htake⟩
      · right
        have ho2 : w.ownsRow w.heap.size T ty.n (.slice a' l.length c) l.length xs := ⟨ho.1, .inl ⟨h2, h3⟩⟩
        obtain ⟨v2, w2, hr2, ho2', _⟩ := run_append_own (P := P) w w.heap.size t u T i z ty.n bytes ht.un hi1 hi2 hi3 hi4 hzs h0 _ l.length xs ho2 q2 m c2 news hnews hcell' h1 hmx hb (Nat.le_refl _)
        rw [hr] at hr2
        simp only [Result.ok.injEq] at hr2
        obtain ⟨rfl, rfl⟩ := hr2
        rcases ho2'.2 with ⟨h4, _⟩ | ⟨g4, _, _, h4, h5, _⟩
        · simp at h4
        · simp only [Value.slice.injEq, Option.some.injEq, Addr.mk.injEq, and_true] at h4
          rw [h4.1]; exact h5
      · simp only [Value.slice.injEq, true_and] at hv
        obtain ⟨rfl, rfl⟩ := hv
        by_cases hroom : l.length + m ≤ c
        · left
          have hr2 := run_append_room (P := P) w t u T i ht.un hi1 g' l.length c cur' hg' q2 m c2 news (by rw [hi3]; exact hnews) hcell' h1 hroom (by rw [hi3, hnews, hcs, ← Nat.add_mul]; exact Nat.mul_le_mul_right _ hroom)
          rw [hr] at hr2
          simp only [Result.ok.injEq, Value.slice.injEq, Option.some.injEq, Addr.mk.injEq, and_true] at hr2
          simp [hr2.1.1]
        · right
          have hr2 := run_append_grow (P := P) w t u T i z ht.un hi1 hi2 ⟨g', 0, none⟩ l.length c xs (by rw [hi3]; exact ho.1) (ho.cells (g := g') rfl) q2 m c2 news (by rw [hi3]; exact hnews) hcell' (by omega) (by simp only [maxLen] at hmx; omega) (by rw [hi4]; exact growslice_fits (by omega) hb)
          rw [hr] at hr2
          simp only [Result.ok.injEq, Value.slice.injEq, Option.some.injEq, Addr.mk.injEq, and_true] at hr2
          rw [hr2.1.1]; exact Nat.le_refl _
  obtain ⟨a2, c3, rfl, hblk⟩ := hform
  refine ⟨a2, c3, w', hr, fun W' hu => ?_⟩
  have hfp : ∀ k, k < w.heap.size → k ∉ (own T ty a' c l).fp → w'.heap[k]? = w.heap[k]? := fun k hk hne => hg.block k hk (fun e => hne (by
    cases a' with
    | none => simp [Value.ownBlock] at e
    | some q => simp [Value.ownBlock] at e; simp [own, e]))
  refine Holds.upd (e := own T ty a' c l) (e' := own T ty a2 c3 (l ++ ls)) ⟨sh0, hm0⟩ ⟨hg.os, hg.tape, hg.output, hg.size, hfp⟩ (fun sh hm => ?_) ?_ hblk
  · have hkeep : ∀ b, sh b → w'.heap[b]? = w.heap[b]? := fun b hb => hfp b (hm.shlt b hb) fun hbe => hm.sep b (List.mem_flatMap.2 ⟨_, hw, hbe⟩) hb
    obtain ⟨ys, hoy, hrepy⟩ := hm.own _ hw
    have hyx := ownsRow_inj ho hoy
    subst hyx
    refine ⟨xs ++ news, by simpa only [List.length_append, hls] using ho', fun k x hx => ?_⟩
    have hxl : xs.length = l.length * ty.n := ho.1
    by_cases hk : k < l.length
    · rw [List.getElem?_append_left hk] at hx
      have hkn : k * ty.n + ty.n ≤ l.length * ty.n := by
        have := Nat.mul_le_mul_right ty.n hk
        rwa [Nat.succ_mul] at this
      have : slot ty (xs ++ news) k = slot ty xs k := by
        simp only [slot]
        rw [List.drop_append_of_le_length (by omega), List.take_append_of_le_length (by rw [List.length_drop]; omega)]
      rw [this]
      exact ty.loc _ _ _ _ _ _ (hrepy k x hx) (fun _ h => h) hkeep
    · rw [List.getElem?_append_right (by omega)] at hx
      have : slot ty (xs ++ news) k = slot ty news (k - l.length) := by
        simp only [slot]
        have : k * ty.n = xs.length + (k - l.length) * ty.n := by rw [hxl, ← Nat.add_mul]; congr 1; omega
        rw [this, List.drop_append, List.drop_eq_nil_of_le (by omega), List.nil_append, Nat.add_sub_cancel_left]
      rw [this]
      exact ty.loc _ _ _ _ _ _ (hrep sh hm _ x hx) (fun _ h => h) hkeep
  · cases a2 <;> simp [own]


/-- the cells of a shared slice, one behind the other -/
theorem sliceRep.news {α : Type} {ty : RTy α} {sh : Nat → Prop} {w : World} {a : Option Addr} {c : Nat} : ∀ {ls : List α} {g o : Nat}, (∀ (i : Nat) x, ls[i]? = some x → ∃ cs, cellsAt w ⟨g, o + i * ty.n, none⟩ cs ∧ ty.rep sh w cs x) →
    ∃ news, news.length = ls.length * ty.n ∧ cellsAt w ⟨g, o, none⟩ news ∧ (∀ v ∈ news, v.oneCell' = true) ∧ ∀ (i : Nat) x, ls[i]? = some x → ty.rep sh w (slot ty news i) x
  | [], g, o, _ => ⟨[], by simp, fun j v hj => by simp at hj, by simp, fun i x hx => by simp at hx⟩
  | x :: ls, g, o, h => by
    obtain ⟨cs, h1, h2⟩ := h 0 x rfl
    have hl := ty.len _ _ _ _ h2
    obtain ⟨news, k1, k2, k3, k4⟩ := sliceRep.news (ls := ls) (g := g) (o := o + ty.n) (a := a) (c := c) (fun i y hy => by
      obtain ⟨cs', h3, h4⟩ := h (i + 1) y (by simpa using hy)
      refine ⟨cs', ?_, h4⟩
      rw [Nat.succ_mul] at h3
      rwa [show o + ty.n + i * ty.n = o + (i * ty.n + ty.n) by omega])
    refine ⟨cs ++ news, by simp only [List.length_append, k1, hl, List.length_cons, Nat.succ_mul]; omega, fun j v hj => ?_, fun v hv => ?_, fun i y hy => ?_⟩
    · by_cases hj2 : j < cs.length
      · rw [List.getElem?_append_left hj2] at hj
        have := h1 j v hj
        simpa using this
      · rw [List.getElem?_append_right (by omega)] at hj
        have := k2 (j - cs.length) v hj
        rwa [show o + ty.n + (j - cs.length) = o + j by omega] at this
    · rcases List.mem_append.1 hv with hv | hv
      · exact ty.one _ _ _ _ h2 v hv
      · exact k3 v hv
    · cases i with
      | zero =>
        simp at hy; subst hy
        have : slot ty (cs ++ news) 0 = cs := by
          simp only [slot, Nat.zero_mul, List.drop_zero]
          rw [List.take_append_of_le_length (by omega), List.take_of_length_le (by omega)]
        rw [this]; exact h2
      | succ i =>
        have : slot ty (cs ++ news) (i + 1) = slot ty news i := by
          simp only [slot, Nat.succ_mul]
          rw [List.drop_append, List.drop_eq_nil_of_le (by omega), List.nil_append]
          congr 2
          omega
        rw [this]
        exact k4 i y (by simpa using hy)

/-- an append of a shared slice to a row of one's own -/
theorem op_appendS {α : Type} {T : TypeId} {ty : RTy α} {a' : Option Addr} {q2 : Addr} {c m c2 size bytes : Nat} {zcs : List Value} {l ls : List α} {WN : Option Addr → Nat → List Ent} [hw : HasOwn a' W T ty c l] [hr : HasRo (some q2) R ty c2 ls] [ht : TSl P t T] [hi : TInfo P T size bytes zcs] [hW : ∀ a2 c3, Upd (own T ty a' c l) (own T ty a2 c3 (l ++ ls)) W (WN a2 c3)]
    (hx : evalE E x = some (.slice a' m c)) (hy : evalE E y = some (.slice (some q2) ls.length c2)) (hm : m = l.length) (hl : l.length + ls.length ≤ 1000000000000) (hz : zcs.length = size := by rfl) (hn : ty.n = size := by rfl) (h0 : Nat.blt 0 size = true := by rfl) (hb : Nat.ble bytes 100 = true := by rfl) :
    OpY P C E W R ⟨d, .call ⟨.builtin .append, #[x, y], #[t, t]⟩, u, pos, aft, gd⟩ (fun v W' R' => ∃ a2 c3, v = .slice a2 (l ++ ls).length c3 ∧ W' = WN a2 c3 ∧ R' = R) := by
  intro a w hs
  have h0' : 0 < size := by simp [Nat.blt] at h0; omega
  have hb' : bytes ≤ 100 := Nat.le_of_ble_eq_true hb
  obtain ⟨sh0, hm0⟩ := hs.mem
  have hro := hm0.facts _ hr.mem
  have key : ∃ news : List Value, news.length = ls.length * ty.n ∧ (∀ (j : Nat) v, news[j]? = some v → w.cell? (q2.add j) = some v) ∧ (∀ v ∈ news, v.oneCell' = true) ∧ ∀ sh, HoldsAt sh C W R w → ∀ (i : Nat) x, ls[i]? = some x → ty.rep sh w (slot ty news i) x := by
    cases hls : ls with
    | nil => exact ⟨[], by simp, fun j v hj => by simp at hj, by simp, fun sh _ i x hx => by simp at hx⟩
    | cons y ls' =>
      rw [← hls]
      obtain ⟨g, o, cs0, hq, _, _, _⟩ := hro.2.2.2 0 y (by rw [hls]; rfl)
      simp only [Option.some.injEq] at hq
      subst hq
      obtain ⟨news, k1, k2, k3, _⟩ := sliceRep.news (ty := ty) (sh := sh0) (w := w) (a := none) (c := 0) (ls := ls) (g := g) (o := o) (fun i x hx => by
        obtain ⟨g', o', cs, h6, _, h7, h8⟩ := hro.2.2.2 i x hx
        simp only [Option.some.injEq, Addr.mk.injEq, and_true] at h6
        obtain ⟨rfl, rfl⟩ := h6
        exact ⟨cs, h7, h8⟩)
      refine ⟨news, k1, fun j v hj => by rw [Addr.add_lit]; exact k2 j v hj, k3, fun sh hm i x hx => ?_⟩
      obtain ⟨news', k1', k2', _, k4'⟩ := sliceRep.news (ty := ty) (sh := sh) (w := w) (a := none) (c := 0) (ls := ls) (g := g) (o := o) (fun i x hx => by
        obtain ⟨g', o', cs, h6, _, h7, h8⟩ := (hm.facts _ hr.mem).2.2.2 i x hx
        simp only [Option.some.injEq, Addr.mk.injEq, and_true] at h6
        obtain ⟨rfl, rfl⟩ := h6
        exact ⟨cs, h7, h8⟩)
      have : news = news' := by
        refine List.ext_getElem? fun j => ?_
        by_cases hj : j < news.length
        · have e1 := k2 j news[j] (by simp [hj])
          have e2 := k2' j (news'[j]'(by omega)) (by simp)
          rw [e1] at e2
          simp only [Option.some.injEq] at e2
          rw [List.getElem?_eq_getElem hj, List.getElem?_eq_getElem (by omega), e2]
        · rw [List.getElem?_eq_none (by omega), List.getElem?_eq_none (by omega)]
      subst this
      exact k4' i x hx
  obtain ⟨news, k1, k2, k3, k4⟩ := key
  subst hm
  obtain ⟨a2, c3, w', hr2, hu⟩ := append_ownA (P := P) (u := u) (t := t) (ty := ty) (ls := ls) (m := ls.length) (c2 := c2) (q2 := q2) (news := news) hw.mem hz hs.mem hn h0' (by rw [k1, hn]) k2 k3 rfl k4 (by
      calc (l.length + ls.length) * bytes ≤ 1000000000000 * 100 := Nat.mul_le_mul hl hb'
        _ ≤ _ := by omega) (by simp only [maxLen]; omega)
  simp only [execOp, resolve]
  simp [hs.fr.eval hx, hs.fr.eval hy, invoke, builtin, hr2, ResX]
  exact ⟨_, _, ⟨_, _, ⟨rfl, rfl⟩, rfl, rfl⟩, hu _ (hW a2 c3)⟩
end
end Go.Proofs.Ytdeacehacndopaa

namespace Go.Proofs.Ytdeacehacndopaa
open Go.RowKit
/-- so many rows of none -/
theorem Holds.grpNils {C : Cx} {W : List Ent} {R : List RF} {w : World} {α : Type} (T : TypeId) (ty : RTy α) : ∀ (n : Nat), Holds C W R w → Holds C (Ytdeacehacndopaa.grp ((List.replicate n (⟨none, 0, []⟩ : Row α)).map (inr T ty)) :: W) R w
  | 0, h => h.grpNil
  | n + 1, h => by
    have h1 := (Holds.grpNils T ty n h).ownNil T ty
    have h2 := h1.pushEnd (f := inr T ty) (l := List.replicate n (⟨none, 0, []⟩ : Row α)) ⟨none, 0, []⟩
    rwa [← List.replicate_succ'] at h2
theorem GoC.grpNils {P : Program} {C : Cx} {E : Env} {W : List Ent} {R : List RF} {Q : Exit → Act → World → Prop} {c : Code} {α : Type} (T : TypeId) (ty : RTy α) (n : Nat) (h : GoC P C E (grp ((List.replicate n (⟨none, 0, []⟩ : Row α)).map (inr T ty)) :: W) R c Q) : GoC P C E W R c Q :=
  GoC.mem (fun _ hw => hw.grpNils T ty n) h

set_option maxRecDepth 20000 in
theorem late_spec (n : Int) (l : List Arc) (a : Option Addr) (c : Nat) (fr : List Int) (af : Option Addr) (cf : Nat) (hl : l.length ≤ 1000000000000) (hfl : fr.length ≤ 1000000000000) (sh : Nat → Prop) (w : World) (h : Holds ⟨0, w, [], sh⟩ [] [ro tArc a c l, ro t64 af cf fr] w) :
    Calls Pr fn_order_Late #[.agg #[.int .i64 n, .slice a l.length c], .slice af fr.length cf] w fun e w' => ∃ g : { g : Row Int // g.l = (lateF n l fr).1 }, e = .returned (.tuple #[.slice g.1.a g.1.l.length g.1.c, .int .i64 (lateF n l fr).2]) ∧ Holds ⟨0, w, [], sh⟩ [own ty_i64 t64 g.1.a g.1.c g.1.l] [] w' := by
  refine Calls.of_go (args := [_, _]) fn_order_Late_f rfl rfl rfl h ?_
  refine GoC.seq ?_
  refine GoC.region ?_
  refine GoL.x (op_box rfl rfl) ?_
  rintro _ _ _ ⟨b2, rfl, rfl, rfl⟩
  refine GoL.q (op_assign rfl) ?_
  refine GoL.q (op_assign rfl) ?_
  refine GoL.nil .next ?_
  refine GoC.seq ?_
  refine GoC.seq ?_
  refine GoC.region ?_
  refine GoL.q (op_move rfl) ?_
  refine GoL.q (op_len rfl) ?_
  refine GoL.q (op_fieldAddr rfl) ?_
  refine GoL.q (op_load rfl rfl) ?_
  refine GoL.q (op_neq rfl rfl) ?_
  refine GoL.nil .next ?_
  refine GoC.cond rfl (fun hc0 => ?_) (fun hc0 => ?_)
  · have hk1 := hc0
    refine GoC.seq ?_
    refine GoC.region ?_
    refine GoL.q (op_assign rfl) ?_
    refine GoL.q (op_assign rfl) ?_
    refine GoL.nil .next ?_
    refine GoC.ret (.thenRet (.here)) ?_
    refine done2 rfl rfl rfl ?_
    intro w' hw
    have hf : lateF n l fr = ([], 4) := by unfold lateF; exact if_pos hk1
    exact ⟨⟨⟨none, 0, []⟩, by rw [hf]⟩, by show Ending.returned (.tuple #[.slice none 0 0, .int .i64 (4)]) = .returned (.tuple #[.slice none 0 0, .int .i64 (lateF n l fr).2]); rw [hf], (hw.n.drop (List.nil_sublist _) (by simp)).ownNil ty_i64 t64⟩
  · have hk1 := hc0
    have hfn : (fr.length : Int) = n := by simpa using hk1
    refine GoC.skipTo .next ?_
    refine GoC.seq ?_
    refine GoC.seq ?_
    refine GoC.region ?_
    refine GoL.q (op_loadA rfl rfl rfl) ?_
    refine GoL.p (op_callV (vs := [.agg #[.int .i64 n, .slice a l.length c]]) rfl (fun sh w h => graphCheck_spec n l a c (by omega) sh w h)) ?_
    refine GoL.q (op_assign rfl) ?_
    refine GoL.nil .next ?_
    refine GoC.seq ?_
    refine GoC.region ?_
    refine GoL.q (op_move rfl) ?_
    refine GoL.q (op_neq rfl rfl) ?_
    refine GoL.nil .next ?_
    refine GoC.cond rfl (fun hc1 => ?_) (fun hc1 => ?_)
    · have hk2 := hc1
      refine GoC.seq ?_
      refine GoC.region ?_
      refine GoL.q (op_move rfl) ?_
      refine GoL.q (op_assign rfl) ?_
      refine GoL.q (op_assign rfl) ?_
      refine GoL.nil .next ?_
      refine GoC.ret (.thenRet (.here)) ?_
      refine done2 rfl rfl rfl ?_
      intro w' hw
      have hf : lateF n l fr = ([], graphC n l) := by unfold lateF; rw [if_neg (Bool.eq_false_iff.1 hk1), if_pos hk2]
      exact ⟨⟨⟨none, 0, []⟩, by rw [hf]⟩, by show Ending.returned (.tuple #[.slice none 0 0, .int .i64 (graphC n l)]) = .returned (.tuple #[.slice none 0 0, .int .i64 (lateF n l fr).2]); rw [hf], (hw.n.drop (List.nil_sublist _) (by simp)).ownNil ty_i64 t64⟩
    · have hk2 := hc1
      have hgc : graphC n l = 0 := by simpa using hk2
      have hg := graphC_ok hgc
      refine GoC.skipTo .next ?_
      refine GoC.seq ?_
      refine GoC.seq ?_
      refine GoC.region ?_
      refine GoL.q (op_move rfl) ?_
      refine GoL.p (op_callV (vs := [.slice af fr.length cf, .func (.func fn_order_Late_c1) #[] #[]]) rfl (fun sh w h => containsFar_spec fr af cf (by omega) sh w h)) ?_
      refine GoL.nil .next ?_
      refine GoC.cond rfl (fun hc2 => ?_) (fun hc2 => ?_)
      · have hk3 := hc2
        refine GoC.seq ?_
        refine GoC.region ?_
        refine GoL.q (op_assign rfl) ?_
        refine GoL.q (op_assign rfl) ?_
        refine GoL.nil .next ?_
        refine GoC.ret (.thenRet (.here)) ?_
        refine done2 rfl rfl rfl ?_
        intro w' hw
        have hf : lateF n l fr = ([], 2) := by unfold lateF; rw [if_neg (Bool.eq_false_iff.1 hk1), if_neg (Bool.eq_false_iff.1 hk2), if_pos hk3]
        exact ⟨⟨⟨none, 0, []⟩, by rw [hf]⟩, by show Ending.returned (.tuple #[.slice none 0 0, .int .i64 (2)]) = .returned (.tuple #[.slice none 0 0, .int .i64 (lateF n l fr).2]); rw [hf], (hw.n.drop (List.nil_sublist _) (by simp)).ownNil ty_i64 t64⟩
      · have hk3 := hc2
        refine GoC.skipTo .next ?_
        refine GoC.seq ?_
        refine GoC.region ?_
        refine GoL.q (op_loadA rfl rfl rfl) ?_
        refine GoL.x (op_callF (vs := [.agg #[.int .i64 n, .slice a l.length c]]) rfl (fun sh w h => sort_spec n l a c hl sh w h)) ?_
        rintro _ _ _ ⟨g, rfl, rfl, rfl⟩
        refine GoL.q (op_move rfl) ?_
        refine GoL.q (op_extract rfl rfl) ?_
        refine GoL.q (op_extract rfl rfl) ?_
        refine GoL.q (op_assign rfl) ?_
        refine GoL.q (op_assign rfl) ?_
        refine GoL.nil .next ?_
        refine GoC.seq ?_
        refine GoC.seq ?_
        refine GoC.region ?_
        refine GoL.q (op_move rfl) ?_
        refine GoL.q (op_not rfl) ?_
        refine GoL.nil .next ?_
        refine GoC.cond rfl (fun hc3 => ?_) (fun hc3 => ?_)
        · have hk4 := hc3
          refine GoC.seq ?_
          refine GoC.region ?_
          refine GoL.q (op_assign rfl) ?_
          refine GoL.q (op_assign rfl) ?_
          refine GoL.nil .next ?_
          refine GoC.ret (.thenRet (.here)) ?_
          refine done2 rfl rfl rfl ?_
          intro w' hw
          have hf : lateF n l fr = ([], 7) := by unfold lateF; rw [if_neg (Bool.eq_false_iff.1 hk1), if_neg (Bool.eq_false_iff.1 hk2), if_neg (Bool.eq_false_iff.1 hk3), if_pos hk4]
          exact ⟨⟨⟨none, 0, []⟩, by rw [hf]⟩, by show Ending.returned (.tuple #[.slice none 0 0, .int .i64 (7)]) = .returned (.tuple #[.slice none 0 0, .int .i64 (lateF n l fr).2]); rw [hf], (hw.n.drop (List.nil_sublist _) (by simp)).ownNil ty_i64 t64⟩
        · have hk4 := hc3
          refine GoC.skipTo .next ?_
          refine GoC.seq ?_
          refine GoC.region ?_
          refine GoL.q (op_fieldAddr rfl) ?_
          refine GoL.q (op_load rfl rfl) ?_
          refine GoL.x (op_make (ty := t64) (0 : Int) (fun _ _ => ⟨rfl, rfl⟩) (show evalE _ _ = some (.int .i64 ((n.toNat : Nat) : Int)) by rw [Int.toNat_of_nonneg hg.1.1]; rfl) (by omega) (by simp only [maxLen]; omega)) ?_
          rintro _ _ _ ⟨b36, rfl, rfl, rfl⟩
          refine GoL.q (op_assign rfl) ?_
          refine GoL.nil .next ?_
          refine GoC.sub (E' := [(1, _), (2, _), (4, _), (5, _), (7, _), (9, _)]) ⟨rfl, rfl, rfl, rfl, rfl, rfl, trivial⟩ ?_
          refine GoC.seq ?_
          refine GoC.region ?_
          refine GoL.q (op_move rfl) ?_
          refine GoL.q (op_move rfl) ?_
          refine GoL.y (op_copyEq rfl (by simp) rfl (by simp only [List.length_replicate]; omega)) ?_
          rintro _ _ _ ⟨rfl, rfl, rfl⟩
          refine GoL.nil .next ?_
          refine GoC.seq ?_
          refine GoC.seq ?_
          refine GoC.region ?_
          refine GoL.q (op_move rfl) ?_
          refine GoL.q (op_len rfl) ?_
          refine GoL.q (op_move rfl) ?_
          refine GoL.nil .next ?_
          refine GoC.block ?_
          refine GoC.arrange [own ty_i64 t64 (some ⟨b36, 0, none⟩) n.toNat fr, own 3 t64 g.1.a g.1.c g.1.l, cel b2 ty_graph_Graph [.int .i64 n, .slice a l.length c]] ?_
          have hgl : g.1.l.length ≤ 9223372036854775806 := by have h5 := sortF_len (arcs := l) hgc; rw [← g.2] at h5; omega
          refine GoC.loop (σ := Nat × List Int) (fun u => [(42, .int .i64 (u.1 : Int))]) [(2, _), (9, _), (40, _), (41, _)] (fun u => [own ty_i64 t64 (some ⟨b36, 0, none⟩) n.toNat u.2, own 3 t64 g.1.a g.1.c g.1.l, cel b2 ty_graph_Graph [.int .i64 n, .slice a l.length c]]) (fun u => _) (fun u => u.1 ≤ g.1.l.length ∧ (u.2.length = n.toNat ∧ (g.1.l.drop u.1).foldl (fun o i => (outG i l 0).foldl (lateStep l i) o) u.2 = lateL l g.1.l fr)) (fun u => g.1.l.length - u.1) (0, fr) ⟨by simp, by simp only; omega, rfl⟩ ⟨rfl, rfl, rfl, rfl, rfl, trivial⟩ (fun _ h => h) ?_
          intro u ⟨hu1, hu2⟩
          refine GoC.seq ?_
          refine GoC.region ?_
          refine GoL.q (op_lss rfl rfl) ?_
          refine GoL.nil .next ?_
          refine GoC.seq ?_
          refine GoC.cond rfl (fun hc4 => ?_) (fun hc4 => ?_)
          · have hlt : u.1 < g.1.l.length := by simpa using hc4
            refine GoC.skipTo .next ?_
            refine GoC.seq ?_
            refine GoC.block ?_
            refine GoC.seq ?_
            refine GoC.region ?_
            refine GoL.q (op_indexO rfl rfl rfl (by first | assumption | omega) (by first | rfl | omega | (simp only [List.length_set] <;> omega))) ?_
            refine GoL.q (op_loadO rfl (by intro _ _ _ _ h; exact h.1) (by first | assumption | omega) rfl) ?_
            refine GoL.q (op_assign rfl) ?_
            refine GoL.nil .next ?_
            refine GoC.seq ?_
            refine GoC.region ?_
            refine GoL.q (op_loadA rfl rfl rfl) ?_
            refine GoL.q (op_move rfl) ?_
            refine GoL.x (op_callF (vs := [.agg #[.int .i64 n, .slice a l.length c], .int .i64 g.1.l[u.1]]) rfl (fun sh w h => out_spec n g.1.l[u.1] l a c hl sh w h)) ?_
            rintro _ _ _ ⟨ks, rfl, rfl, rfl⟩
            refine GoL.q (op_len rfl) ?_
            refine GoL.q (op_move rfl) ?_
            refine GoL.nil .next ?_
            refine GoC.block ?_
            refine GoC.arrange [own 3 t64 ks.1.a ks.1.c ks.1.l, own ty_i64 t64 (some ⟨b36, 0, none⟩) n.toNat u.2, own 3 t64 g.1.a g.1.c g.1.l, cel b2 ty_graph_Graph [.int .i64 n, .slice a l.length c]] ?_
            have hkn : ks.1.l.length ≤ 1000000000000 := by have h5 := outG_len (i := g.1.l[u.1]) (l := l) (k := 0); rw [← ks.2] at h5; omega
            refine GoC.loop (σ := Nat × List Int) (fun v => [(50, .int .i64 (v.1 : Int))]) [(42, _), (2, _), (9, _), (40, _), (41, _), (11, _), (48, _), (49, _)] (fun v => [own 3 t64 ks.1.a ks.1.c ks.1.l, own ty_i64 t64 (some ⟨b36, 0, none⟩) n.toNat v.2, own 3 t64 g.1.a g.1.c g.1.l, cel b2 ty_graph_Graph [.int .i64 n, .slice a l.length c]]) (fun v => _) (fun v => v.1 ≤ ks.1.l.length ∧ (v.2.length = n.toNat ∧ (ks.1.l.drop v.1).foldl (lateStep l g.1.l[u.1]) v.2 = ks.1.l.foldl (lateStep l g.1.l[u.1]) u.2)) (fun v => ks.1.l.length - v.1) (0, u.2) ⟨by simp, hu2.1, rfl⟩ ⟨rfl, rfl, rfl, rfl, rfl, rfl, rfl, rfl, rfl, trivial⟩ (fun _ h => h) ?_
            intro v ⟨hv1, hv2⟩
            refine GoC.seq ?_
            refine GoC.region ?_
            refine GoL.q (op_lss rfl rfl) ?_
            refine GoL.nil .next ?_
            refine GoC.seq ?_
            refine GoC.cond rfl (fun hc5 => ?_) (fun hc5 => ?_)
            · have hlt2 : v.1 < ks.1.l.length := by simpa using hc5
              refine GoC.skipTo .next ?_
              refine GoC.seq ?_
              refine GoC.block ?_
              refine GoC.seq ?_
              skip
              refine GoC.region ?_
              refine GoL.q (op_indexO rfl rfl rfl (by first | assumption | omega) (by first | rfl | omega | (simp only [List.length_set] <;> omega))) ?_
              refine GoL.q (op_loadO rfl (by intro _ _ _ _ h; exact h.1) (by first | assumption | omega) rfl) ?_
              refine GoL.q (op_assign rfl) ?_
              refine GoL.nil .next ?_
              refine GoC.seq ?_
              have hk0 : 0 ≤ ks.1.l[v.1] ∧ ks.1.l[v.1] < l.length := by have h5 := outG_mem (i := g.1.l[u.1]) (l := l) (k := 0) ks.1.l[v.1] ((congrArg (fun L => ks.1.l[v.1] ∈ L) ks.2).mp (List.getElem_mem hlt2)); omega
              have hkl : ks.1.l[v.1].toNat < l.length := by omega
              refine GoC.openR (n := 3) a ks.1.l[v.1].toNat hkl (fun _ hq => ?_)
              have hj0 := (hg.2.2 _ (List.getElem_mem hkl)).2.1
              have hjl : l[ks.1.l[v.1].toNat].To.toNat < v.2.length := by rw [hv2.1]; omega
              have haa : arcAt l ks.1.l[v.1] = l[ks.1.l[v.1].toNat] := getD_lt _ hkl
              have hi0 : 0 ≤ g.1.l[u.1] ∧ g.1.l[u.1] < n := sortF_in hgc _ ((congrArg (fun L => g.1.l[u.1] ∈ L) g.2).mp (List.getElem_mem hlt))
              have hil : g.1.l[u.1].toNat < v.2.length := by rw [hv2.1]; omega
              refine GoC.own64 (some ⟨b36, 0, none⟩) (fun hvw => ?_)
              have hls : v.2.set l[ks.1.l[v.1].toNat].To.toNat (max v.2[l[ks.1.l[v.1].toNat].To.toNat] (w64 (v.2[g.1.l[u.1].toNat] + l[ks.1.l[v.1].toNat].Weight))) = lateStep l g.1.l[u.1] v.2 ks.1.l[v.1] := by rw [lateStep, haa, getD_lt _ hjl, getD_lt _ hil]
              refine GoC.region ?_
              refine GoL.q (op_fieldAddr rfl) ?_
              refine GoL.q (op_load rfl rfl) ?_
              refine GoL.q (op_move rfl) ?_
              refine GoL.q (op_indexR rfl rfl (Int.toNat_of_nonneg hk0.1).symm hkl) ?_
              refine GoL.q (op_loadEA rfl rfl) ?_
              refine GoL.x (op_alloc) ?_
              rintro _ _ _ ⟨b14, rfl, rfl, rfl⟩
              refine GoL.y0 (op_store (cs' := [.int .i64 l[ks.1.l[v.1].toNat].From, .int .i64 l[ks.1.l[v.1].toNat].To, .int .i64 l[ks.1.l[v.1].toNat].Weight]) rfl rfl rfl rfl (by simp [Value.oneCell']) (Nat.le_of_ble_eq_true rfl) rfl) ?_
              rintro _ _ _ ⟨rfl, rfl, rfl⟩
              refine GoL.nil .next ?_
              refine GoC.draw 16 [] [0, 1, 2, 3, 4, 5, 6, 7, 8, 9, 10, 11, 12, 13, 14, 15] (by kernel_rfl) Pr_mixed ?_
              refine Can.q rfl (op_move rfl) ?_
              refine Can.q rfl (op_fieldAddr rfl) ?_
              refine Can.q rfl (op_load rfl rfl) ?_
              refine Can.q rfl (op_move rfl) ?_
              refine Can.q rfl (op_fieldAddr rfl) ?_
              refine Can.q rfl (op_load rfl rfl) ?_
              refine Can.q rfl (op_indexO rfl rfl (Int.toNat_of_nonneg hj0.1).symm hjl (by first | rfl | omega | (simp only [List.length_set] <;> omega))) ?_
              refine Can.q rfl (op_loadO rfl (by intro _ _ _ _ h; exact h.1) (by first | assumption | omega) rfl) ?_
              refine Can.q rfl (op_move rfl) ?_
              refine Can.q rfl (op_move rfl) ?_
              refine Can.q rfl (op_indexO rfl rfl (Int.toNat_of_nonneg hi0.1).symm hil (by first | rfl | omega | (simp only [List.length_set] <;> omega))) ?_
              refine Can.q rfl (op_loadO rfl (by intro _ _ _ _ h; exact h.1) (by first | assumption | omega) rfl) ?_
              refine Can.q rfl (op_fieldAddr rfl) ?_
              refine Can.q rfl (op_load rfl rfl) ?_
              refine Can.q rfl (op_add rfl rfl) ?_
              refine Can.q rfl (op_max rfl rfl) ?_
              refine Can.nil rfl ?_
              refine GoL.q (op_indexO rfl rfl (Int.toNat_of_nonneg hj0.1).symm hjl (by first | rfl | omega | (simp only [List.length_set] <;> omega))) ?_
              refine GoL.y0 (op_storeO (xv := (max v.2[l[ks.1.l[v.1].toNat].To.toNat] (w64 (v.2[g.1.l[u.1].toNat] + l[ks.1.l[v.1].toNat].Weight)))) rfl rfl hjl (by intro _ _; exact ⟨rfl, i64_max (hvw _ (List.getElem_mem hjl)) (w64_i _)⟩)) ?_
              rintro _ _ _ ⟨rfl, rfl, rfl⟩
              refine GoL.nil (.blockNormal (.next)) ?_
              refine GoC.sub (E' := [(50, _), (42, _), (2, _), (9, _), (40, _), (41, _), (11, _), (48, _), (49, _)]) ⟨rfl, rfl, rfl, rfl, rfl, rfl, rfl, rfl, rfl, trivial⟩ ?_
              refine GoC.region ?_
              refine GoL.q (op_inc rfl (by omega)) ?_
              refine GoL.q (op_move rfl) ?_
              exact GoL.again (v.1 + 1, v.2.set l[ks.1.l[v.1].toNat].To.toNat (max v.2[l[ks.1.l[v.1].toNat].To.toNat] (w64 (v.2[g.1.l[u.1].toNat] + l[ks.1.l[v.1].toNat].Weight)))) ⟨by omega, by simpa using hv2.1, by have h5 := hv2.2; rw [List.drop_eq_getElem_cons hlt2, List.foldl_cons, ← hls] at h5; exact h5⟩ (by simp only; omega) ⟨rfl, rfl, rfl, rfl, rfl, rfl, rfl, rfl, rfl, trivial⟩
            · have hge2 : ks.1.l.length ≤ v.1 := by simpa using hc5
              refine GoC.exit (.thenExit (.thenExit (.blockSame (.blockNormal (.next))))) ?_
              have hvf : v.2 = ks.1.l.foldl (lateStep l g.1.l[u.1]) u.2 := by rw [← hv2.2, List.drop_of_length_le hge2]; rfl
              refine GoC.region ?_
              refine GoL.q (op_inc rfl (by omega)) ?_
              refine GoL.q (op_move rfl) ?_
              exact GoL.again (u.1 + 1, v.2) ⟨by omega, hv2.1, by have h5 := hu2.2; rw [List.drop_eq_getElem_cons hlt, List.foldl_cons, ← ks.2, ← hvf] at h5; exact h5⟩ (by simp only; omega) ⟨rfl, rfl, rfl, rfl, rfl, trivial⟩
          · have hge : g.1.l.length ≤ u.1 := by simpa using hc4
            refine GoC.exit (.thenExit (.thenExit (.blockSame (.next)))) ?_
            refine GoC.seq ?_
            refine GoC.region ?_
            refine GoL.q (op_move rfl) ?_
            refine GoL.q (op_assign rfl) ?_
            refine GoL.q (op_assign rfl) ?_
            refine GoL.nil .next ?_
            refine GoC.ret .here ?_
            refine done2 rfl rfl rfl ?_
            intro w' hw
            have hul : u.2 = lateL l (sortF n l).1 fr := by rw [← g.2, ← hu2.2, List.drop_of_length_le hge]; rfl
            have hf : lateF n l fr = (u.2, 0) := by unfold lateF; rw [if_neg (Bool.eq_false_iff.1 hk1), if_neg (Bool.eq_false_iff.1 hk2), if_neg (Bool.eq_false_iff.1 hk3), if_neg (Bool.eq_false_iff.1 hk4), hul]
            exact ⟨⟨⟨some ⟨b36, 0, none⟩, n.toNat, u.2⟩, by rw [hf]⟩, by show Ending.returned (.tuple #[.slice (some ⟨b36, 0, none⟩) n.toNat n.toNat, .int .i64 0]) = .returned (.tuple #[.slice (some ⟨b36, 0, none⟩) u.2.length n.toNat, .int .i64 (lateF n l fr).2]); rw [hf, hu2.1], Holds.only (W' := [own ty_i64 t64 (some ⟨b36, 0, none⟩) n.toNat u.2]) hw.n⟩
set_option maxRecDepth 20000 in
theorem event_spec (fr : List Int) (fa : Option Addr) (fc : Nat) (arcs : List Arc) (aa : Option Addr) (ac bd : Nat) (v : Int) (hv : w64 v = v) (hl : fr.length ≤ 100000000000) (sh : Nat → Prop) (w : World) (h : Holds ⟨0, w, fps [cel bd ty_clock_drafter [.int .i64 ((fr.length : Nat) : Int), .slice aa arcs.length ac, .slice fa fr.length fc], own ty_i64 t64 fa fc fr], sh⟩ [cel bd ty_clock_drafter [.int .i64 ((fr.length : Nat) : Int), .slice aa arcs.length ac, .slice fa fr.length fc], own ty_i64 t64 fa fc fr] [] w) :
    Calls Pr fn_p_clock_drafter_event #[.pointer (some ⟨bd, 0, none⟩), .int .i64 v] w fun e w' => ∃ g : Hdr, e = .returned (.int .i64 ((fr.length : Nat) : Int)) ∧ Holds ⟨0, w, fps [cel bd ty_clock_drafter [.int .i64 ((fr.length : Nat) : Int), .slice aa arcs.length ac, .slice fa fr.length fc], own ty_i64 t64 fa fc fr], sh⟩ [cel bd ty_clock_drafter [.int .i64 (((fr ++ [v]).length : Nat) : Int), .slice aa arcs.length ac, .slice g.1 (fr ++ [v]).length g.2], own ty_i64 t64 g.1 g.2 (fr ++ [v])] [] w' := by
  refine Calls.of_go (args := [_, _]) fn_p_clock_drafter_event_f rfl rfl rfl h ?_
  refine GoC.seq ?_
  refine GoC.region ?_
  refine GoL.q (op_assign rfl) ?_
  refine GoL.nil .next ?_
  refine GoC.seq ?_
  refine GoC.region ?_
  refine GoL.q (op_move rfl) ?_
  refine GoL.q (op_move rfl) ?_
  refine GoL.q (op_nilCheck rfl) ?_
  refine GoL.q (op_fieldAddr rfl) ?_
  refine GoL.q (op_load rfl rfl) ?_
  refine GoL.q (op_move rfl) ?_
  refine GoL.x (op_buildSlice1 rfl rfl rfl) ?_
  rintro _ _ _ ⟨b11, rfl, rfl, rfl⟩
  refine GoL.y (op_append1 (v) rfl rfl (by rfl) (by intro _ _ _; exact ⟨rfl, hv⟩) (by omega)) ?_
  rintro _ _ _ ⟨a12, c12, rfl, rfl, rfl⟩
  refine GoL.q (op_nilCheck rfl) ?_
  refine GoL.q (op_fieldAddr rfl) ?_
  refine GoL.y0 (op_store (cs' := [.int .i64 ((fr.length : Nat) : Int), .slice aa arcs.length ac, .slice a12 (fr ++ [v]).length c12]) rfl rfl rfl rfl (by simp [Value.oneCell']) (Nat.le_of_ble_eq_true rfl) rfl) ?_
  rintro _ _ _ ⟨rfl, rfl, rfl⟩
  refine GoL.nil .next ?_
  refine GoC.seq ?_
  refine GoC.region ?_
  refine GoL.q (op_move rfl) ?_
  refine GoL.q (op_nilCheck rfl) ?_
  refine GoL.q (op_fieldAddr rfl) ?_
  refine GoL.q (op_fieldAddr rfl) ?_
  refine GoL.q (op_load rfl rfl) ?_
  refine GoL.q (op_addI rfl rfl (by omega)) ?_
  refine GoL.q (op_nilCheck rfl) ?_
  refine GoL.q (op_fieldAddr rfl) ?_
  refine GoL.q (op_fieldAddr rfl) ?_
  refine GoL.y0 (op_store (cs' := [.int .i64 (((fr.length : Nat) : Int) + 1), .slice aa arcs.length ac, .slice a12 (fr ++ [v]).length c12]) rfl rfl rfl rfl (by simp [Value.oneCell']) (Nat.le_of_ble_eq_true rfl) rfl) ?_
  rintro _ _ _ ⟨rfl, rfl, rfl⟩
  refine GoL.nil .next ?_
  refine GoC.seq ?_
  refine GoC.region ?_
  refine GoL.q (op_move rfl) ?_
  refine GoL.q (op_nilCheck rfl) ?_
  refine GoL.q (op_fieldAddr rfl) ?_
  refine GoL.q (op_fieldAddr rfl) ?_
  refine GoL.q (op_load rfl rfl) ?_
  refine GoL.q (op_subI rfl rfl (by omega)) ?_
  refine GoL.q (op_assign rfl) ?_
  refine GoL.nil .next ?_
  refine GoC.ret .here ?_
  refine done1 rfl rfl ?_
  intro w' hw
  have e1 : ((fr.length : Nat) : Int) + 1 = (((fr ++ [v]).length : Nat) : Int) := by simp
  have e2 : ((fr.length : Nat) : Int) + 1 - 1 = ((fr.length : Nat) : Int) := by omega
  rw [e1] at hw
  exact ⟨(a12, c12), by rw [e2], Holds.only (W' := [cel bd ty_clock_drafter [.int .i64 (((fr ++ [v]).length : Nat) : Int), .slice aa arcs.length ac, .slice a12 (fr ++ [v]).length c12], own ty_i64 t64 a12 c12 (fr ++ [v])]) hw.n⟩
set_option maxRecDepth 20000 in
theorem behind_spec (fr : List Int) (fa : Option Addr) (fc : Nat) (arcs : List Arc) (aa : Option Addr) (ac bd : Nat) (x : Arc) (hx : I64 x.From ∧ I64 x.To ∧ I64 x.Weight) (hl : arcs.length ≤ 100000000000) (sh : Nat → Prop) (w : World) (h : Holds ⟨0, w, fps [cel bd ty_clock_drafter [.int .i64 ((fr.length : Nat) : Int), .slice aa arcs.length ac, .slice fa fr.length fc], own ty_graph_Arc tArc aa ac arcs], sh⟩ [cel bd ty_clock_drafter [.int .i64 ((fr.length : Nat) : Int), .slice aa arcs.length ac, .slice fa fr.length fc], own ty_graph_Arc tArc aa ac arcs] [] w) :
    Calls Pr fn_p_clock_drafter_behind #[.pointer (some ⟨bd, 0, none⟩), .int .i64 x.From, .int .i64 x.To, .int .i64 x.Weight] w fun e w' => ∃ g : Hdr, e = .returned (.tuple #[]) ∧ Holds ⟨0, w, fps [cel bd ty_clock_drafter [.int .i64 ((fr.length : Nat) : Int), .slice aa arcs.length ac, .slice fa fr.length fc], own ty_graph_Arc tArc aa ac arcs], sh⟩ [cel bd ty_clock_drafter [.int .i64 ((fr.length : Nat) : Int), .slice g.1 (arcs ++ [x]).length g.2, .slice fa fr.length fc], own ty_graph_Arc tArc g.1 g.2 (arcs ++ [x])] [] w' := by
  refine Calls.of_go (args := [_, _, _, _]) fn_p_clock_drafter_behind_f rfl rfl rfl h ?_
  refine GoC.region ?_
  refine GoL.q (op_move rfl) ?_
  refine GoL.q (op_move rfl) ?_
  refine GoL.q (op_nilCheck rfl) ?_
  refine GoL.q (op_fieldAddr rfl) ?_
  refine GoL.q (op_fieldAddr rfl) ?_
  refine GoL.q (op_load rfl rfl) ?_
  refine GoL.q (op_move rfl) ?_
  refine GoL.q (op_move rfl) ?_
  refine GoL.q (op_move rfl) ?_
  refine GoL.q (op_build1 ([.int .i64 x.From, .int .i64 x.To, .int .i64 x.Weight]) rfl rfl) ?_
  refine GoL.x (op_buildSlice1 rfl rfl rfl) ?_
  rintro _ _ _ ⟨b18, rfl, rfl, rfl⟩
  refine GoL.y (op_append1 (x) rfl rfl (by rfl) (by intro _ _ _; exact rep_arc hx _ _) (by omega)) ?_
  rintro _ _ _ ⟨a19, c19, rfl, rfl, rfl⟩
  refine GoL.q (op_nilCheck rfl) ?_
  refine GoL.q (op_fieldAddr rfl) ?_
  refine GoL.q (op_fieldAddr rfl) ?_
  refine GoL.y0 (op_store (cs' := [.int .i64 ((fr.length : Nat) : Int), .slice a19 (arcs ++ [x]).length c19, .slice fa fr.length fc]) rfl rfl rfl rfl (by simp [Value.oneCell']) (Nat.le_of_ble_eq_true rfl) rfl) ?_
  rintro _ _ _ ⟨rfl, rfl, rfl⟩
  refine GoL.nilTo .here ?_
  refine done0 rfl ?_
  intro w' hw
  exact ⟨(a19, c19), rfl, Holds.only (W' := [cel bd ty_clock_drafter [.int .i64 ((fr.length : Nat) : Int), .slice a19 (arcs ++ [x]).length c19, .slice fa fr.length fc], own ty_graph_Arc tArc a19 c19 (arcs ++ [x])]) hw.n⟩
end Go.Proofs.Ytdeacehacndopaa
