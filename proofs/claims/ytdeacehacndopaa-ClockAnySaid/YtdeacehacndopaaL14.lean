/- The fixed facts. The fixed facts. No conditions beyond those that each theorem names. -/
import Derived.Test.YtdeacehacndopaaL13
namespace Go.Proofs.Ytdeacehacndopaa
open Go.RowKit
def zeroS : Small := ⟨0, 0, 0, 0, 0, [], [], [], [], false, false⟩
def zeroP : HS := ⟨(none, 0), (none, 0), (none, 0), (none, 0)⟩
def X0 : Instance := ⟨40, ⟨1, 5⟩, ⟨1, 3⟩, [⟨60, 2⟩], [⟨2, 5, 90, 1⟩], [[0, 0, 0], [0, 0, 0], [0, 0, 0]], [[0, 0, 0], [0, 0, 0], [0, 0, 0]]⟩
def X17 : Instance := ⟨40, ⟨1, 5⟩, ⟨1, 3⟩, [⟨60, 2⟩], [⟨2, 5, 90, 1⟩], [[0, 5, 0], [0, 0, 7], [0, 0, 0]], [[0, 0, 0], [0, 0, 0], [0, 0, 0]]⟩
def X18 : Instance := ⟨40, ⟨1, 5⟩, ⟨1, 3⟩, [⟨60, 3⟩], [⟨2, 9, 90, 1⟩], [[0, 0, 0], [0, 0, 0], [0, 0, 0]], [[0, 4, 0], [0, 0, 1], [0, 0, 0]]⟩
def YA : Plan := ⟨[⟨[⟨0, 2⟩]⟩], [⟨0, [0]⟩]⟩
def YE : Plan := ⟨[], []⟩
def TA : Times := ⟨[[4]], [⟨7, [9], 10⟩]⟩
theorem one_x : makeF zeroS = X0 := by kernel_rfl
theorem okS0 : OkS zeroS := by constructor <;> first | rfl | decide | exact ⟨by decide, by decide⟩
theorem okI17 : OkI X17 := by constructor <;> first | rfl | decide
theorem okI18 : OkI X18 := by constructor <;> first | rfl | decide
theorem cost17 : costF X17 YA = (12, 0) := by kernel_rfl
theorem pc17 : planCheckF X17 YA = 0 := by kernel_rfl
theorem pc17e : planCheckF X17 YE = 8 := by kernel_rfl
theorem early18 : earlyF X18 YA = (TA, 0) := by kernel_rfl
theorem cc18 : clockCheckF X18 YA TA = 0 := by kernel_rfl
theorem Holds.none (sh : Nat → Prop) (w : World) : Holds ⟨0, w, [], sh⟩ [] [] w :=
  ⟨fun _ => False, by simp, by simp [fps], by simp [fps], by simp [fps], by simp, by simp, by simp, Keep.refl _ _⟩
theorem rep_stop {a b : Int} (ha : w64 a = a) (hb : w64 b = b) (sh : Nat → Prop) (w : World) : tStop.rep sh w [.int .i64 a, .int .i64 b] ⟨a, b⟩ := ⟨[_], [_], rfl, ⟨rfl, ha⟩, ⟨rfl, hb⟩⟩
structure One0 where
  h : HI
  k0 : Hdr
  k1 : Hdr
  k2 : Hdr
  t0 : Hdr
  t1 : Hdr
  t2 : Hdr
@[reducible] def wOne (g : One0) : List Ent :=
  [own ty_inst_Sat tSat g.h.s.1 g.h.s.2 [⟨60, 2⟩], own ty_inst_Customer tCustomer g.h.u.1 g.h.u.2 [⟨2, 5, 90, 1⟩],
   own ty_s_i64 (tH Int) g.h.k.1 g.h.k.2 [⟨g.k0.1, g.k0.2, [0, 0, 0]⟩, ⟨g.k1.1, g.k1.2, [0, 0, 0]⟩, ⟨g.k2.1, g.k2.2, [0, 0, 0]⟩],
   own ty_i64 t64 g.k0.1 g.k0.2 [0, 0, 0], own ty_i64 t64 g.k1.1 g.k1.2 [0, 0, 0], own ty_i64 t64 g.k2.1 g.k2.2 [0, 0, 0],
   own ty_s_i64 (tH Int) g.h.t.1 g.h.t.2 [⟨g.t0.1, g.t0.2, [0, 0, 0]⟩, ⟨g.t1.1, g.t1.2, [0, 0, 0]⟩, ⟨g.t2.1, g.t2.2, [0, 0, 0]⟩],
   own ty_i64 t64 g.t0.1 g.t0.2 [0, 0, 0], own ty_i64 t64 g.t1.1 g.t1.2 [0, 0, 0], own ty_i64 t64 g.t2.1 g.t2.2 [0, 0, 0]]
theorem map3 {l : List (Row Int)} {a b c : List Int} (h : l.map (·.l) = [a, b, c]) : ∃ p q r : Hdr, l = [⟨p.1, p.2, a⟩, ⟨q.1, q.2, b⟩, ⟨r.1, r.2, c⟩] := by
  rcases l with _ | ⟨⟨a1, c1, l1⟩, _ | ⟨⟨a2, c2, l2⟩, _ | ⟨⟨a3, c3, l3⟩, _ | ⟨_, _⟩⟩⟩⟩ <;> simp at h
  obtain ⟨rfl, rfl, rfl⟩ := h
  exact ⟨(a1, c1), (a2, c2), (a3, c3), rfl⟩
section
variable {P : Program} {C : Cx} {E : Env} {W W' Wr : List Ent} {R R' : List RF} {Q : Exit → Act → World → Prop} {ops : Array Oper} {w : World}
theorem Holds.ungrp3 {β : Type} {f : β → Ent} {a b c : β} [hs : Split [Ytdeacehacndopaa.grp ([a, b, c].map f)] W Wr] (h : Holds C W R w) : Holds C (f a :: f b :: f c :: Wr) R w := Holds.ungrp (h.perm hs.perm)
theorem op_val {o : Oper} {v : Value} (v' : Value) (h : OpR P C E W R o v) (e : v = v') : OpR P C E W R o v' := e ▸ h
theorem GoC.grp1 {β : Type} {f : β → Ent} {c : Code} (x : β) [hs : Split [f x] W Wr] (h : GoC P C E (Ytdeacehacndopaa.grp ([x].map f) :: Wr) R c Q) : GoC P C E W R c Q :=
  GoC.mem (fun _ hw => Holds.grp (es := [f x]) (hw.perm hs.perm)) h
theorem GoC.reR {c : Code} (R' : List RF) (e : R = R') (h : GoC P C E W R' c Q) : GoC P C E W R c Q := e ▸ h
theorem GoC.shareRows {α : Type} (a : Option Addr) {T : TypeId} (ty : RTy α) {n : Nat} {l : List (Row α)} {c : Code} [hc : HasOwn a W T (tH α) n l] [hd : Del (own T (tH α) a n l) W W'] (h1 : ∀ r ∈ l, ro ty r.a r.c r.l ∈ R) (h : GoC P C E W' (ro (tSl ty) a n (l.map Row.l) :: R) c Q) : GoC P C E W R c Q :=
  GoC.mem (fun w hw => Holds.shareH (e := own T (tH α) a n l) (r := ro (tSl ty) a n (l.map Row.l)) hw fun sh hf he => by
    have h5 := own_slice he
    refine ⟨by simpa using h5.1, h5.2.1, h5.2.2.1, fun i x hx => ?_⟩
    rw [List.getElem?_map] at hx
    cases hli : l[i]? with
    | none => rw [hli] at hx; simp at hx
    | some y =>
      rw [hli] at hx; simp at hx; subst hx
      obtain ⟨g, o, cs, h6, h7, h8, h9⟩ := h5.2.2.2 i y hli
      refine ⟨g, o, cs, h6, h7, h8, y.a, y.c, h9, ?_⟩
      exact (ro ty y.a y.c y.l).loc sh _ w w (hf _ (h1 y (List.mem_of_getElem? hli))) (fun b hb => .inl hb) (fun _ _ => rfl)) h
end

set_option maxRecDepth 20000 in
theorem one_spec (sh : Nat → Prop) (w : World) (h : Holds ⟨0, w, [], sh⟩ [] [] w) :
    Calls Pr fn_law11_One #[] w fun e w' => ∃ g : { g : Inst0 // g.x = X0 }, e = .returned (.agg (c0 g.1).toArray) ∧ Holds ⟨0, w, [], sh⟩ (w0 g.1 []) [] w' := by
  refine Calls.of_go (args := []) fn_law11_One_f rfl rfl rfl h ?_
  refine GoC.mem (fun _ hw => (((hw.roNil t8).roNil t8).roNil tWho).roNil tSat8) ?_
  refine GoC.reR (rS zeroS zeroP []) rfl ?_
  refine GoC.seq ?_
  refine GoC.region ?_
  refine GoL.x (op_alloc) ?_
  rintro _ _ _ ⟨b0, rfl, rfl, rfl⟩
  refine GoL.nil .next ?_
  refine GoC.seq ?_
  refine GoC.region ?_
  refine GoL.q (op_build1 (cS zeroS zeroP) rfl rfl) ?_
  refine GoL.x (op_callF (vs := [.agg (cS zeroS zeroP).toArray]) rfl (fun sh w h => make_spec zeroS zeroP okS0 sh w h)) ?_
  rintro _ _ _ ⟨g, rfl, rfl, rfl⟩
  refine GoL.y0 (op_store (cs' := c0 g.1) rfl rfl rfl rfl (by simp [Value.oneCell']) (Nat.le_of_ble_eq_true rfl) rfl) ?_
  rintro _ _ _ ⟨rfl, rfl, rfl⟩
  refine GoL.nil .next ?_
  refine GoC.ret .here ?_
  refine doneC rfl rfl rfl ?_
  intro w' hw
  exact ⟨⟨g.1, g.2.trans one_x⟩, rfl, Holds.only (W' := w0 g.1 []) hw.n⟩
theorem one_conc (sh : Nat → Prop) (w : World) (h : Holds ⟨0, w, [], sh⟩ [] [] w) :
    Calls Pr fn_law11_One #[] w fun e w' => ∃ g : One0, e = .returned (.agg (cI X0 g.h).toArray) ∧ Holds ⟨0, w, [], sh⟩ (wOne g) [] w' := by
  refine (one_spec sh w h).mono fun e w' ⟨⟨g, hg⟩, he, hh⟩ => ?_
  obtain ⟨E, TM, TR, BM, BR, ⟨sa, sc, sl⟩, ⟨ua, uc, ul⟩, ⟨ka, kc, kl⟩, ⟨ta, tc, tl⟩⟩ := g
  simp only [Inst0.x, X0, Instance.mk.injEq, Fleet.mk.injEq] at hg
  obtain ⟨rfl, ⟨rfl, rfl⟩, ⟨rfl, rfl⟩, rfl, rfl, hk, ht⟩ := hg
  obtain ⟨k0, k1, k2, rfl⟩ := map3 hk
  obtain ⟨t0, t1, t2, rfl⟩ := map3 ht
  refine ⟨⟨⟨(sa, sc), (ua, uc), (ka, kc), (ta, tc)⟩, k0, k1, k2, t0, t1, t2⟩, he, ?_⟩
  have h1 := Holds.ungrp3 (f := inr ty_i64 t64) (a := ⟨k0.1, k0.2, [0, 0, 0]⟩) (b := ⟨k1.1, k1.2, [0, 0, 0]⟩) (c := ⟨k2.1, k2.2, [0, 0, 0]⟩) hh
  have h2 := Holds.ungrp3 (f := inr ty_i64 t64) (a := ⟨t0.1, t0.2, [0, 0, 0]⟩) (b := ⟨t1.1, t1.2, [0, 0, 0]⟩) (c := ⟨t2.1, t2.2, [0, 0, 0]⟩) h1
  exact Holds.only h2
set_option maxRecDepth 20000 in
theorem awake17_spec (sh : Nat → Prop) (w : World) (h : Holds ⟨0, w, [], sh⟩ [] [] w) :
    Calls Pr fn_law17_Awake #[] w fun e w' => e = .returned (.bool true) ∧ Ext w w' := by
  refine Calls.of_go (args := []) fn_law17_Awake_f rfl rfl rfl h ?_
  refine GoC.seq ?_
  refine GoC.region ?_
  refine GoL.q (op_assign rfl) ?_
  refine GoL.nil .next ?_
  refine GoC.seq ?_
  refine GoC.region ?_
  refine GoL.x (op_callF (vs := []) rfl (fun sh w h => one_conc sh w h)) ?_
  rintro _ _ _ ⟨g, rfl, rfl, rfl⟩
  refine GoL.x (op_alloc) ?_
  rintro _ _ _ ⟨b1, rfl, rfl, rfl⟩
  refine GoL.y0 (op_store (cs' := cI X0 g.h) rfl rfl rfl rfl (by simp [Value.oneCell']) (Nat.le_of_ble_eq_true rfl) rfl) ?_
  rintro _ _ _ ⟨rfl, rfl, rfl⟩
  refine GoL.nil .next ?_
  refine GoC.seq ?_
  refine GoC.tree 8 (.op 0 (.op 1 (.op 2 (.op 3 (.op 4 (.op 5 (.op 6 (.op 7 .nil)))))))) (by kernel_rfl) Pr_mixed ?_
  refine CanT.q rfl (op_fieldAddr rfl) ?_
  refine CanT.q rfl (op_load rfl rfl) ?_
  refine CanT.q rfl (op_indexO (k := 0) rfl rfl rfl (by simp) (by first | rfl | omega | (simp only [List.length_set] <;> omega))) ?_
  refine CanT.q rfl (op_val (.slice g.k0.1 ([0, 0, 0] : List Int).length g.k0.2) (op_loadO (ty := tH Int) (k := 0) (f := fun r : Row Int => .slice r.a r.l.length r.c) rfl (by intro _ _ _ _ h; exact h) (by simp) rfl) (by rfl)) ?_
  refine CanT.q rfl (op_fieldAddr rfl) ?_
  refine CanT.q rfl (op_load rfl rfl) ?_
  refine CanT.q rfl (op_indexO (k := 1) rfl rfl rfl (by simp) (by first | rfl | omega | (simp only [List.length_set] <;> omega))) ?_
  refine CanT.q rfl (op_val (.slice g.k1.1 ([0, 0, 0] : List Int).length g.k1.2) (op_loadO (ty := tH Int) (k := 1) (f := fun r : Row Int => .slice r.a r.l.length r.c) rfl (by intro _ _ _ _ h; exact h) (by simp) rfl) (by rfl)) ?_
  refine CanT.nil rfl ?_
  refine GoL.q (op_indexO (k := 1) rfl rfl rfl (by simp) (by first | rfl | omega | (simp only [List.length_set] <;> omega))) ?_
  refine GoL.y0 (op_storeO (xv := 5) rfl rfl (by decide) (by intro _ _; exact ⟨rfl, rfl⟩)) ?_
  rintro _ _ _ ⟨rfl, rfl, rfl⟩
  refine GoL.q (op_indexO (k := 2) rfl rfl rfl (by simp) (by first | rfl | omega | (simp only [List.length_set] <;> omega))) ?_
  refine GoL.y0 (op_storeO (xv := 7) rfl rfl (by decide) (by intro _ _; exact ⟨rfl, rfl⟩)) ?_
  rintro _ _ _ ⟨rfl, rfl, rfl⟩
  refine GoL.nil .next ?_
  refine GoC.seq ?_
  refine GoC.region ?_
  refine GoL.q (op_build1 ([.int .i64 0, .int .i64 2]) rfl rfl) ?_
  refine GoL.x (op_buildSlice1 rfl rfl rfl) ?_
  rintro _ _ _ ⟨b17, rfl, rfl, rfl⟩
  refine GoL.celOwn (ty := tStop) b17 ⟨0, 2⟩ (rep_stop rfl rfl) ?_
  refine GoL.q (op_build1 ([.slice (some ⟨b17, 0, none⟩) 1 1]) rfl rfl) ?_
  refine GoL.x (op_buildSlice1 rfl rfl rfl) ?_
  rintro _ _ _ ⟨b19, rfl, rfl, rfl⟩
  refine GoL.celOwn (ty := tH Stop) b19 ⟨some ⟨b17, 0, none⟩, 1, [⟨0, 2⟩]⟩ (fun _ _ => rfl) ?_
  refine GoL.x (op_buildSlice1 rfl rfl rfl) ?_
  rintro _ _ _ ⟨b20, rfl, rfl, rfl⟩
  refine GoL.celOwn (ty := t64) b20 0 (fun _ _ => ⟨rfl, rfl⟩) ?_
  refine GoL.q (op_build1 ([.int .i64 0, .slice (some ⟨b20, 0, none⟩) 1 1]) rfl rfl) ?_
  refine GoL.x (op_buildSlice1 rfl rfl rfl) ?_
  rintro _ _ _ ⟨b22, rfl, rfl, rfl⟩
  refine GoL.celOwn (ty := tBikeR) b22 ⟨0, ⟨some ⟨b20, 0, none⟩, 1, [0]⟩⟩ (fun _ _ => rep_bikeR rfl rfl _ _) ?_
  refine GoL.q (op_build1 ([.slice (some ⟨b19, 0, none⟩) 1 1, .slice (some ⟨b22, 0, none⟩) 1 1]) rfl rfl) ?_
  refine GoL.x (op_alloc) ?_
  rintro _ _ _ ⟨b2, rfl, rfl, rfl⟩
  refine GoL.y0 (op_store (cs' := [.slice (some ⟨b19, 0, none⟩) 1 1, .slice (some ⟨b22, 0, none⟩) 1 1]) rfl rfl rfl rfl (by simp [Value.oneCell']) (Nat.le_of_ble_eq_true rfl) rfl) ?_
  rintro _ _ _ ⟨rfl, rfl, rfl⟩
  refine GoL.nil .next ?_
  refine GoC.seq ?_
  refine GoC.reown (ty := tH Int) (ty' := tH Int) g.h.k.1 [⟨g.k0.1, g.k0.2, [0, 0, 0].set 1 5⟩, ⟨g.k1.1, g.k1.2, [0, 0, 0].set 2 7⟩, ⟨g.k2.1, g.k2.2, [0, 0, 0]⟩] (by rfl) (by rfl) (by intro sh w cs i h h' hr; rcases i with _ | _ | _ | i; exact hr; exact hr; exact hr; simp at h; omega) ?_
  refine GoC.shareOwn g.k0.1 ?_
  refine GoC.shareOwn g.k1.1 ?_
  refine GoC.shareOwn g.k2.1 ?_
  refine GoC.shareOwn g.t0.1 ?_
  refine GoC.shareOwn g.t1.1 ?_
  refine GoC.shareOwn g.t2.1 ?_
  refine GoC.shareRows g.h.t.1 t64 (by intro r hr; simp only [List.mem_cons, List.not_mem_nil, or_false] at hr; rcases hr with rfl | rfl | rfl <;> simp only [List.mem_cons, true_or, or_true]) ?_
  refine GoC.shareRows g.h.k.1 t64 (by intro r hr; simp only [List.mem_cons, List.not_mem_nil, or_false] at hr; rcases hr with rfl | rfl | rfl <;> simp only [List.mem_cons, true_or, or_true]) ?_
  refine GoC.shareOwn g.h.u.1 ?_
  refine GoC.shareOwn g.h.s.1 ?_
  refine GoC.grp1 (f := inB) ⟨0, ⟨some ⟨b20, 0, none⟩, 1, [0]⟩⟩ ?_
  refine GoC.shareDeep (f := inB) (some ⟨b22, 0, none⟩) tBike BikeR.b (by rfl) (fun sh w cs x => rep_bike0 sh w cs x) ?_
  refine GoC.grp1 (f := inT) ⟨some ⟨b17, 0, none⟩, 1, [⟨0, 2⟩]⟩ ?_
  refine GoC.shareDeep (f := inT) (some ⟨b19, 0, none⟩) tTruck trk (by rfl) (fun sh w cs x => rep_truck0 sh w cs x) ?_
  refine GoC.mem (fun _ hw => (hw.roNil tBike).roNil tTruck) ?_
  refine GoC.reR (rP YE ⟨(none, 0), (none, 0)⟩ (rP YA ⟨(some ⟨b19, 0, none⟩, 1), (some ⟨b22, 0, none⟩, 1)⟩ (rI X17 g.h [ro t64 g.t2.1 g.t2.2 [0, 0, 0], ro t64 g.t1.1 g.t1.2 [0, 0, 0], ro t64 g.t0.1 g.t0.2 [0, 0, 0], ro t64 g.k2.1 g.k2.2 [0, 0, 0], ro t64 g.k1.1 g.k1.2 [0, 0, 7], ro t64 g.k0.1 g.k0.2 [0, 5, 0]]))) rfl ?_
  refine GoC.region ?_
  refine GoL.q (op_loadA rfl rfl rfl) ?_
  refine GoL.q (op_loadA rfl rfl rfl) ?_
  refine GoL.p (op_callV (v := .tuple #[.int .i64 12, .int .i64 0]) (vs := [.agg (cI X17 g.h).toArray, .agg (cP YA ⟨(some ⟨b19, 0, none⟩, 1), (some ⟨b22, 0, none⟩, 1)⟩).toArray]) rfl (fun sh w h => by have h5 := cost_spec X17 g.h YA ⟨(some ⟨b19, 0, none⟩, 1), (some ⟨b22, 0, none⟩, 1)⟩ okI17 ⟨by decide, by decide⟩ (by decide) (by decide) sh w h; rw [cost17] at h5; exact h5)) ?_
  refine GoL.q (op_move rfl) ?_
  refine GoL.q (op_extract rfl rfl) ?_
  refine GoL.q (op_extract rfl rfl) ?_
  refine GoL.q (op_assign rfl) ?_
  refine GoL.q (op_assign rfl) ?_
  refine GoL.nil .next ?_
  refine GoC.sub (E' := [(0, _), (1, _), (2, _), (3, _), (4, _)]) ⟨rfl, rfl, rfl, rfl, rfl, trivial⟩ ?_
  refine GoC.seq ?_
  refine GoC.region ?_
  refine GoL.q (op_loadA rfl rfl rfl) ?_
  refine GoL.q (op_loadA rfl rfl rfl) ?_
  refine GoL.p (op_callV (v := .int .i64 0) (vs := [.agg (cI X17 g.h).toArray, .agg (cP YA ⟨(some ⟨b19, 0, none⟩, 1), (some ⟨b22, 0, none⟩, 1)⟩).toArray]) rfl (fun sh w h => by have h5 := planCheck_spec X17 g.h YA ⟨(some ⟨b19, 0, none⟩, 1), (some ⟨b22, 0, none⟩, 1)⟩ okI17 ⟨by decide, by decide⟩ sh w h; rw [pc17] at h5; exact h5)) ?_
  refine GoL.q (op_eql rfl rfl) ?_
  refine GoL.q (op_move rfl) ?_
  apply GoL.and (m := 2) (x := 36) rfl rfl rfl rfl rfl rfl rfl rfl (Wn.none rfl)
  · intro hg0
    refine GoL.q (op_move rfl) ?_ (hg := Wn.some rfl rfl rfl hg0)
    refine GoL.q (op_eql rfl rfl) ?_ (hg := Wn.some rfl rfl rfl hg0)
    exact GoL.part (k := 2) rfl rfl rfl
  refine GoL.q (op_move rfl) ?_
  apply GoL.and (m := 2) (x := 40) rfl rfl rfl rfl rfl rfl rfl rfl (Wn.none rfl)
  · intro hg1
    refine GoL.q (op_move rfl) ?_ (hg := Wn.some rfl rfl rfl hg1)
    refine GoL.q (op_eql rfl rfl) ?_ (hg := Wn.some rfl rfl rfl hg1)
    exact GoL.part (k := 2) rfl rfl rfl
  refine GoL.q (op_move rfl) ?_
  apply GoL.and (m := 4) (x := 46) rfl rfl rfl rfl rfl rfl rfl rfl (Wn.none rfl)
  · intro hg2
    refine GoL.q (op_loadA rfl rfl rfl) ?_ (hg := Wn.some rfl rfl rfl hg2)
    refine GoL.q (op_build1 ([.slice none 0 0, .slice none 0 0]) rfl rfl) ?_ (hg := Wn.some rfl rfl rfl hg2)
    refine GoL.p (op_callV (v := .int .i64 8) (vs := [.agg (cI X17 g.h).toArray, .agg (cP YE ⟨(none, 0), (none, 0)⟩).toArray]) rfl (fun sh w h => by have h5 := planCheck_spec X17 g.h YE ⟨(none, 0), (none, 0)⟩ okI17 ⟨by decide, by decide⟩ sh w h; rw [pc17e] at h5; exact h5)) ?_ (hg := Wn.some rfl rfl rfl hg2)
    refine GoL.q (op_eql rfl rfl) ?_ (hg := Wn.some rfl rfl rfl hg2)
    exact GoL.part (k := 4) rfl rfl rfl
  refine GoL.q (op_assign rfl) ?_
  refine GoL.nil .next ?_
  refine GoC.ret .here ?_
  refine done1 rfl rfl ?_
  intro w' hw
  exact ⟨by first | rfl | simp, hw.keep⟩
end Go.Proofs.Ytdeacehacndopaa

namespace Go.Proofs.Ytdeacehacndopaa
open Go.RowKit
theorem early18_spec (p : HI) (r : HP) (sh : Nat → Prop) (w : World) (h : Holds ⟨0, w, [], sh⟩ [] (rP YA r (rI X18 p [])) w) :
    Calls Pr fn_clock_Early #[.agg (cI X18 p).toArray, .agg (cP YA r).toArray] w fun e w' => ∃ q : HP, e = .returned (.tuple #[.agg (cT TA q).toArray, .int .i64 0]) ∧ Holds ⟨0, w, [], sh⟩ [] (rT TA q []) w' :=
  (early_spec X18 p YA r okI18 (by decide) (by decide) sh w h).mono fun e w' ⟨⟨⟨t, q⟩, hg⟩, he, hh⟩ => by
    simp only [early18] at hg he
    subst hg
    exact ⟨q, he, hh⟩

set_option maxRecDepth 20000 in
theorem awake18_spec (sh : Nat → Prop) (w : World) (h : Holds ⟨0, w, [], sh⟩ [] [] w) :
    Calls Pr fn_law18_Awake #[] w fun e w' => e = .returned (.bool true) ∧ Ext w w' := by
  refine Calls.of_go (args := []) fn_law18_Awake_f rfl rfl rfl h ?_
  refine GoC.seq ?_
  refine GoC.region ?_
  refine GoL.q (op_assign rfl) ?_
  refine GoL.nil .next ?_
  refine GoC.seq ?_
  refine GoC.region ?_
  refine GoL.x (op_callF (vs := []) rfl (fun sh w h => one_conc sh w h)) ?_
  rintro _ _ _ ⟨g, rfl, rfl, rfl⟩
  refine GoL.x (op_alloc) ?_
  rintro _ _ _ ⟨b1, rfl, rfl, rfl⟩
  refine GoL.y0 (op_store (cs' := cI X0 g.h) rfl rfl rfl rfl (by simp [Value.oneCell']) (Nat.le_of_ble_eq_true rfl) rfl) ?_
  rintro _ _ _ ⟨rfl, rfl, rfl⟩
  refine GoL.nil .next ?_
  refine GoC.seq ?_
  refine GoC.tree 19 (.op 0 (.op 1 (.op 2 (.op 3 (.op 4 (.op 5 (.op 6 (.op 7 (.op 8 (.op 9 (.op 10 (.op 11 (.op 12 (.s 13 [8, 9, 10, 11] (.op 14 (.s 15 [8, 9, 10, 11] (.op 16 (.op 17 (.s 18 [10, 11] .nil))))))))))))))))))) (by kernel_rfl) Pr_mixed ?_
  refine CanT.q rfl (op_fieldAddr rfl) ?_
  refine CanT.q rfl (op_load rfl rfl) ?_
  refine CanT.q rfl (op_indexO (k := 0) rfl rfl rfl (by simp) (by first | rfl | omega | (simp only [List.length_set] <;> omega))) ?_
  refine CanT.q rfl (op_val (.slice g.t0.1 ([0, 0, 0] : List Int).length g.t0.2) (op_loadO (ty := tH Int) (k := 0) (f := fun r : Row Int => .slice r.a r.l.length r.c) rfl (by intro _ _ _ _ h; exact h) (by simp) rfl) (by rfl)) ?_
  refine CanT.q rfl (op_fieldAddr rfl) ?_
  refine CanT.q rfl (op_load rfl rfl) ?_
  refine CanT.q rfl (op_indexO (k := 1) rfl rfl rfl (by simp) (by first | rfl | omega | (simp only [List.length_set] <;> omega))) ?_
  refine CanT.q rfl (op_val (.slice g.t1.1 ([0, 0, 0] : List Int).length g.t1.2) (op_loadO (ty := tH Int) (k := 1) (f := fun r : Row Int => .slice r.a r.l.length r.c) rfl (by intro _ _ _ _ h; exact h) (by simp) rfl) (by rfl)) ?_
  refine CanT.q rfl (op_fieldAddr rfl) ?_
  refine CanT.q rfl (op_load rfl rfl) ?_
  refine CanT.q rfl (op_fieldAddr rfl) ?_
  refine CanT.q rfl (op_load rfl rfl) ?_
  refine CanT.q rfl (op_indexO (k := 1) rfl rfl rfl (by decide) (by first | rfl | omega | (simp only [List.length_set] <;> omega))) ?_
  refine CanT.s rfl (op_storeO (xv := 4) rfl rfl (by decide) (by intro _ _; exact ⟨rfl, rfl⟩)) ?_
  rintro _ _ _ ⟨rfl, rfl, rfl⟩
  refine ⟨⟨Again.q rfl (op_fieldAddr rfl), Again.q rfl (op_load rfl rfl), Again.q rfl (op_fieldAddr rfl), Again.q rfl (op_load rfl rfl), trivial⟩, ?_⟩
  refine CanT.q rfl (op_indexO (k := 2) rfl rfl rfl (by decide) (by first | rfl | omega | (simp only [List.length_set] <;> omega))) ?_
  refine CanT.s rfl (op_storeO (xv := 1) rfl rfl (by decide) (by intro _ _; exact ⟨rfl, rfl⟩)) ?_
  rintro _ _ _ ⟨rfl, rfl, rfl⟩
  refine ⟨⟨Again.q rfl (op_fieldAddr rfl), Again.q rfl (op_load rfl rfl), Again.q rfl (op_fieldAddr rfl), Again.q rfl (op_load rfl rfl), trivial⟩, ?_⟩
  refine CanT.q rfl (op_indexO (k := 0) rfl rfl rfl (by simp) (by first | rfl | omega | (simp only [List.length_set] <;> omega))) ?_
  refine CanT.q rfl (op_fieldAddrE rfl) ?_
  refine CanT.s rfl (op_storeOF (0) 1 ((⟨60, 3⟩ : Sat)) (by simp) rfl rfl rfl (by intro _ _ _; exact rep_sat rfl rfl _ _) (by decide)) ?_
  rintro _ _ _ ⟨rfl, rfl, rfl⟩
  refine ⟨⟨Again.q rfl (op_fieldAddr rfl), Again.q rfl (op_load rfl rfl), trivial⟩, ?_⟩
  refine CanT.nil rfl ?_
  refine GoL.q (op_indexO (k := 0) rfl rfl rfl (by simp) (by first | rfl | omega | (simp only [List.length_set] <;> omega))) ?_
  refine GoL.q (op_fieldAddrE rfl) ?_
  refine GoL.y0 (op_storeOF (0) 1 ((⟨2, 9, 90, 1⟩ : Customer)) (by simp) rfl rfl rfl (by intro _ _ _; exact rep_cust rfl rfl rfl rfl _ _) (by decide)) ?_
  rintro _ _ _ ⟨rfl, rfl, rfl⟩
  refine GoL.nil .next ?_
  refine GoC.seq ?_
  refine GoC.region ?_
  refine GoL.q (op_build1 ([.int .i64 0, .int .i64 2]) rfl rfl) ?_
  refine GoL.x (op_buildSlice1 rfl rfl rfl) ?_
  rintro _ _ _ ⟨b25, rfl, rfl, rfl⟩
  refine GoL.celOwn (ty := tStop) b25 ⟨0, 2⟩ (rep_stop rfl rfl) ?_
  refine GoL.q (op_build1 ([.slice (some ⟨b25, 0, none⟩) 1 1]) rfl rfl) ?_
  refine GoL.x (op_buildSlice1 rfl rfl rfl) ?_
  rintro _ _ _ ⟨b27, rfl, rfl, rfl⟩
  refine GoL.celOwn (ty := tH Stop) b27 ⟨some ⟨b25, 0, none⟩, 1, [⟨0, 2⟩]⟩ (fun _ _ => rfl) ?_
  refine GoL.x (op_buildSlice1 rfl rfl rfl) ?_
  rintro _ _ _ ⟨b28, rfl, rfl, rfl⟩
  refine GoL.celOwn (ty := t64) b28 0 (fun _ _ => ⟨rfl, rfl⟩) ?_
  refine GoL.q (op_build1 ([.int .i64 0, .slice (some ⟨b28, 0, none⟩) 1 1]) rfl rfl) ?_
  refine GoL.x (op_buildSlice1 rfl rfl rfl) ?_
  rintro _ _ _ ⟨b30, rfl, rfl, rfl⟩
  refine GoL.celOwn (ty := tBikeR) b30 ⟨0, ⟨some ⟨b28, 0, none⟩, 1, [0]⟩⟩ (fun _ _ => rep_bikeR rfl rfl _ _) ?_
  refine GoL.q (op_build1 ([.slice (some ⟨b27, 0, none⟩) 1 1, .slice (some ⟨b30, 0, none⟩) 1 1]) rfl rfl) ?_
  refine GoL.x (op_alloc) ?_
  rintro _ _ _ ⟨b2, rfl, rfl, rfl⟩
  refine GoL.y0 (op_store (cs' := [.slice (some ⟨b27, 0, none⟩) 1 1, .slice (some ⟨b30, 0, none⟩) 1 1]) rfl rfl rfl rfl (by simp [Value.oneCell']) (Nat.le_of_ble_eq_true rfl) rfl) ?_
  rintro _ _ _ ⟨rfl, rfl, rfl⟩
  refine GoL.nil .next ?_
  refine GoC.sub (E' := [(0, _), (1, _), (2, _)]) ⟨rfl, rfl, rfl, trivial⟩ ?_
  refine GoC.seq ?_
  refine GoC.reown (ty := tH Int) (ty' := tH Int) g.h.t.1 [⟨g.t0.1, g.t0.2, [0, 0, 0].set 1 4⟩, ⟨g.t1.1, g.t1.2, [0, 0, 0].set 2 1⟩, ⟨g.t2.1, g.t2.2, [0, 0, 0]⟩] (by rfl) (by rfl) (by intro sh w cs i h h' hr; rcases i with _ | _ | _ | i; exact hr; exact hr; exact hr; simp at h; omega) ?_
  refine GoC.shareOwn g.k0.1 ?_
  refine GoC.shareOwn g.k1.1 ?_
  refine GoC.shareOwn g.k2.1 ?_
  refine GoC.shareOwn g.t0.1 ?_
  refine GoC.shareOwn g.t1.1 ?_
  refine GoC.shareOwn g.t2.1 ?_
  refine GoC.shareRows g.h.t.1 t64 (by intro r hr; simp only [List.mem_cons, List.not_mem_nil, or_false] at hr; rcases hr with rfl | rfl | rfl <;> simp only [List.mem_cons, true_or, or_true]) ?_
  refine GoC.shareRows g.h.k.1 t64 (by intro r hr; simp only [List.mem_cons, List.not_mem_nil, or_false] at hr; rcases hr with rfl | rfl | rfl <;> simp only [List.mem_cons, true_or, or_true]) ?_
  refine GoC.shareOwn g.h.u.1 ?_
  refine GoC.shareOwn g.h.s.1 ?_
  refine GoC.grp1 (f := inB) ⟨0, ⟨some ⟨b28, 0, none⟩, 1, [0]⟩⟩ ?_
  refine GoC.shareDeep (f := inB) (some ⟨b30, 0, none⟩) tBike BikeR.b (by rfl) (fun sh w cs x => rep_bike0 sh w cs x) ?_
  refine GoC.grp1 (f := inT) ⟨some ⟨b25, 0, none⟩, 1, [⟨0, 2⟩]⟩ ?_
  refine GoC.shareDeep (f := inT) (some ⟨b27, 0, none⟩) tTruck trk (by rfl) (fun sh w cs x => rep_truck0 sh w cs x) ?_
  refine GoC.reR (rP YA ⟨(some ⟨b27, 0, none⟩, 1), (some ⟨b30, 0, none⟩, 1)⟩ (rI X18 g.h [ro t64 g.t2.1 g.t2.2 [0, 0, 0], ro t64 g.t1.1 g.t1.2 [0, 0, 1], ro t64 g.t0.1 g.t0.2 [0, 4, 0], ro t64 g.k2.1 g.k2.2 [0, 0, 0], ro t64 g.k1.1 g.k1.2 [0, 0, 0], ro t64 g.k0.1 g.k0.2 [0, 0, 0]])) rfl ?_
  refine GoC.region ?_
  refine GoL.q (op_loadA rfl rfl rfl) ?_
  refine GoL.q (op_loadA rfl rfl rfl) ?_
  refine GoL.x (op_callF (vs := [.agg (cI X18 g.h).toArray, .agg (cP YA ⟨(some ⟨b27, 0, none⟩, 1), (some ⟨b30, 0, none⟩, 1)⟩).toArray]) rfl (fun sh w h => early18_spec g.h ⟨(some ⟨b27, 0, none⟩, 1), (some ⟨b30, 0, none⟩, 1)⟩ sh w h)) ?_
  rintro _ _ _ ⟨q, rfl, rfl, rfl⟩
  refine GoL.q (op_move rfl) ?_
  refine GoL.q (op_extract rfl rfl) ?_
  refine GoL.q (op_extract rfl rfl) ?_
  refine GoL.x (op_alloc) ?_
  rintro _ _ _ ⟨b3, rfl, rfl, rfl⟩
  refine GoL.y0 (op_store (cs' := cT TA q) rfl rfl rfl rfl (by simp [Value.oneCell']) (Nat.le_of_ble_eq_true rfl) rfl) ?_
  rintro _ _ _ ⟨rfl, rfl, rfl⟩
  refine GoL.q (op_assign rfl) ?_
  refine GoL.nil .next ?_
  refine GoC.seq ?_
  have hb1 : 0 < TA.Bikes.length := by decide
  refine GoC.openR (n := 3) q.b.1 0 hb1 (fun q5 hq5 => ?_)
  refine GoC.region ?_
  refine GoL.q (op_move rfl) ?_
  refine GoL.q (op_eql rfl rfl) ?_
  refine GoL.q (op_move rfl) ?_
  refine GoL.q (op_fieldAddr rfl) ?_ (hg := Wn.some rfl rfl rfl (by rfl))
  refine GoL.q (op_load rfl rfl) ?_ (hg := Wn.some rfl rfl rfl (by rfl))
  refine GoL.q (op_len rfl) ?_ (hg := Wn.some rfl rfl rfl (by rfl))
  refine GoL.q (op_eql rfl rfl) ?_ (hg := Wn.some rfl rfl rfl (by rfl))
  refine GoL.q (op_val (.bool true) (op_pick rfl rfl rfl) (by rfl)) ?_
  refine GoL.q (op_move rfl) ?_
  refine GoL.q (op_fieldAddr rfl) ?_ (hg := Wn.some rfl rfl rfl (by rfl))
  refine GoL.q (op_load rfl rfl) ?_ (hg := Wn.some rfl rfl rfl (by rfl))
  refine GoL.q (op_indexR rfl rfl (k := 0) rfl hb1) ?_ (hg := Wn.some rfl rfl rfl (by rfl))
  refine GoL.q (op_fieldAddrE rfl) ?_ (hg := Wn.some rfl rfl rfl (by rfl))
  refine GoL.q (op_loadF rfl rfl) ?_ (hg := Wn.some rfl rfl rfl (by rfl))
  refine GoL.q (op_eql rfl rfl) ?_ (hg := Wn.some rfl rfl rfl (by rfl))
  refine GoL.q (op_val (.bool true) (op_pick rfl rfl rfl) (by rfl)) ?_
  refine GoL.q (op_move rfl) ?_
  refine GoL.q (op_fieldAddr rfl) ?_ (hg := Wn.some rfl rfl rfl (by rfl))
  refine GoL.q (op_load rfl rfl) ?_ (hg := Wn.some rfl rfl rfl (by rfl))
  refine GoL.q (op_indexR rfl rfl (k := 0) rfl hb1) ?_ (hg := Wn.some rfl rfl rfl (by rfl))
  refine GoL.q (op_fieldAddrE rfl) ?_ (hg := Wn.some rfl rfl rfl (by rfl))
  refine GoL.q (op_loadF rfl rfl) ?_ (hg := Wn.some rfl rfl rfl (by rfl))
  refine GoL.x (op_buildSlice1 rfl rfl rfl) ?_ (hg := Wn.some rfl rfl rfl (by rfl))
  rintro _ _ _ ⟨b60, rfl, rfl, rfl⟩
  refine GoL.celOwn (ty := t64) b60 9 (fun _ _ => ⟨rfl, rfl⟩) ?_
  refine GoL.p (op_callL [ro t64 q5.2.1.1 q5.2.1.2 TA.Bikes[0].Starts, ro t64 (some ⟨b60, 0, none⟩) 1 [9]] (v := .bool true) (vs := [.slice q5.2.1.1 TA.Bikes[0].Starts.length q5.2.1.2, .slice (some ⟨b60, 0, none⟩) ([9] : List Int).length 1]) rfl (fun sh w h => by have h5 := equal64_spec TA.Bikes[0].Starts [9] q5.2.1.1 (some ⟨b60, 0, none⟩) q5.2.1.2 1 (Nat.le_of_ble_eq_true rfl) sh w h; rw [show decide (TA.Bikes[0].Starts = [9]) = true from rfl] at h5; exact h5)) ?_ (hg := Wn.some rfl rfl rfl (by rfl))
  refine GoL.q (op_val (.bool true) (op_pick rfl rfl rfl) (by rfl)) ?_
  refine GoL.q (op_move rfl) ?_
  refine GoL.q (op_loadA rfl rfl rfl) ?_ (hg := Wn.some rfl rfl rfl (by rfl))
  refine GoL.q (op_loadA rfl rfl rfl) ?_ (hg := Wn.some rfl rfl rfl (by rfl))
  refine GoL.q (op_loadA rfl rfl rfl) ?_ (hg := Wn.some rfl rfl rfl (by rfl))
  refine GoL.p (op_callV (v := .int .i64 0) (vs := [.agg (cI X18 g.h).toArray, .agg (cP YA ⟨(some ⟨b27, 0, none⟩, 1), (some ⟨b30, 0, none⟩, 1)⟩).toArray, .agg (cT TA q).toArray]) rfl (fun sh w h => by have h5 := clockCheck_spec X18 g.h YA ⟨(some ⟨b27, 0, none⟩, 1), (some ⟨b30, 0, none⟩, 1)⟩ TA q okI18 ⟨by decide, by decide⟩ ⟨by decide, by decide⟩ sh w h; rw [cc18] at h5; exact h5)) ?_ (hg := Wn.some rfl rfl rfl (by rfl))
  refine GoL.q (op_eql rfl rfl) ?_ (hg := Wn.some rfl rfl rfl (by rfl))
  refine GoL.q (op_val (.bool true) (op_pick rfl rfl rfl) (by rfl)) ?_
  refine GoL.q (op_move rfl) ?_
  refine GoL.p (op_callP (vs := []) rfl fun w _ => awake17_spec (fun _ => False) w (Holds.none _ w)) ?_ (hg := Wn.some rfl rfl rfl (by rfl))
  refine GoL.q (op_val (.bool true) (op_pick rfl rfl rfl) (by rfl)) ?_
  refine GoL.q (op_assign rfl) ?_
  refine GoL.nil .next ?_
  refine GoC.sub (E' := [(0, _)]) ⟨rfl, trivial⟩ ?_
  refine GoC.ret .here ?_
  refine done1 rfl rfl ?_
  intro w' hw
  exact ⟨by first | rfl | simp, hw.keep⟩
theorem awake18 (w : World) : Calls Pr fn_law18_Awake #[] w fun e w' => e = .returned (.bool true) ∧ Ext w w' := awake18_spec (fun _ => False) w (Holds.none _ w)
end Go.Proofs.Ytdeacehacndopaa
