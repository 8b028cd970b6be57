/- ClockAny returns true, whatever the input; the input reads as it did. No conditions. -/
import Derived.Test.YtdeacehacndopaaRows
import Derived.Test.YtdeacehacndopaaL4
import Derived.Test.YtdeacehacndopaaL14
import Derived.WalkKit
import Derived.ProofKit
import Derived.OpenShut
import Derived.Carry
namespace Go.Proofs.Ytdeacehacndopaa.ClockAny
open Go.ChangeShapes Go.WideShapes Go.ChangeAt Go.RowKit
theorem own : ownKnob Try.prog.godebug = none := by kernel_rfl
theorem laid : laidOutB Try.prog = true := by kernel_rfl
theorem Opn {α σ : Type} {ty : RTy α} {F : α → σ → List Value} {G : α → σ → List RF → List RF} {K : α → Prop} [ho : Open ty σ F G K] {sh : Nat → Prop} {w : World} {cs : List Value} {x : α} (h : ty.rep sh w cs x) :
    K x ∧ ∃ p, cs = F x p ∧ ∀ R, ∀ r ∈ G x p R, r ∈ R ∨ r.P sh w := ho.opn sh w cs x h

set_option maxRecDepth 100000 in
theorem lifted (os : Os) (started : os.Started) (H : Type) (enc : TypeId × Value → H) :
    ReturnsInHanded {} Try.checked os 3 .any (Rows.clockAnySpec.pre6 enc Try.prog Try.f3 Rows.clockAnyRow.domain false) (Rows.clockAnySpec.post enc Try.prog Try.f3 false true false false) := by
  refine returnsInHanded_of_change (C := Try.checked) own started (by kernel_rfl) Try.func3
    (ChangeSpec.witness6 (enc := enc) (C := Try.checked) false ⟨#[], #[.agg #[.int .u8 0, .int .u8 0, .int .u8 0, .int .u8 0, .int .u8 0, .slice none 0 0, .slice none 0 0, .slice none 0 0, .slice none 0 0, .bool false, .bool false], .agg #[.slice none 0 0, .slice none 0 0, .slice none 0 0], .agg #[.slice none 0 0, .slice none 0 0], .slice none 0 0], []⟩ 8 (by kernel_rfl) (by kernel_rfl) (by kernel_rfl) (by kernel_rfl)) ?_
  intro W base args ds gs before hval0 hW hcnd _
  have hval : ∀ (j : Nat) t v, Try.f3.params[j]? = some t → args[j]? = some v → Value.okWide Try.prog W .any base t v := hval0
  have hW' := hW
  obtain ⟨p, q, hA0, hV, rfl, hfz, hnd⟩ := hW
  have hA : DataW.TrodAll enc Try.prog W 0 (fun _ => true) true Try.f3.params.toList args.toList ds p := hA0
  rw [Try.params3] at hA hval
  obtain ⟨v0, vs0, d0, ds0, p0, q0, hargs, rfl, rfl, h0, r0⟩ := trodAll_cons hA
  obtain ⟨v1, vs1, d1, ds1, p1, q1, rfl, rfl, rfl, h1, r1⟩ := trodAll_cons r0
  obtain ⟨v2, vs2, d2, ds2, p2, q2, rfl, rfl, rfl, h2, r2⟩ := trodAll_cons r1
  obtain ⟨v3, vs3, d3, ds3, p3, q3, rfl, rfl, rfl, h3, r3⟩ := trodAll_cons r2
  obtain ⟨rfl, rfl, rfl⟩ := trodAll_nil r3
  obtain rfl : args = #[v0, v1, v2, v3] := by cases args; simp_all
  obtain ⟨rfl, rfl⟩ := trodVars_none hV
  obtain ⟨c0, rfl, _⟩ := okWide_struct Try.underlying26 (hval 0 26 v0 rfl rfl)
  obtain ⟨c1, rfl, _⟩ := okWide_struct Try.underlying28 (hval 1 28 v1 rfl rfl)
  obtain ⟨c2, rfl, _⟩ := okWide_struct Try.underlying32 (hval 2 32 v2 rfl rfl)
  obtain ⟨a3, len3, cap3, rfl⟩ := okWide_slice Try.underlying33 (hval 3 33 v3 rfl rfl)
  clear hA0 hval0
  simp only [List.append_nil] at hW'
  have hlt : ∀ x ∈ p0 ++ (p1 ++ (p2 ++ p3)), x.block < W.heap.size := fun x hx => by simpa using hW'.lt x (by simpa using hx)
  obtain ⟨f0, e0⟩ := h0
  obtain ⟨f1, e1⟩ := h1
  obtain ⟨f2, e2⟩ := h2
  obtain ⟨f3, e3⟩ := h3
  have e0' : DataW.trod enc Pr W 0 (fun _ => true) true f0 26 c0.toList = some (d0, p0) := e0
  have e1' : DataW.trod enc Pr W 0 (fun _ => true) true f1 28 c1.toList = some (d1, p1) := e1
  have e2' : DataW.trod enc Pr W 0 (fun _ => true) true f2 32 c2.toList = some (d2, p2) := e2
  have e3' : DataW.trod enc Pr W 0 (fun _ => true) true f3 33 [.slice a3 len3 cap3] = some (d3, p3) := e3
  obtain ⟨s, hs⟩ := rd26.opn enc W f0 _ _ e0'
  obtain ⟨y, hy⟩ := rd28.opn enc W f1 _ _ e1'
  obtain ⟨t, ht⟩ := rd32.opn enc W f2 _ _ e2'
  obtain ⟨raw, a3', c3', hraw, hr⟩ := rd33.opn enc W f3 _ _ e3'
  obtain ⟨hS, ps, hc0, hg0⟩ := Opn hs
  obtain ⟨hY, pw, hc1, hg1⟩ := Opn hy
  obtain ⟨hT, pt, hc2, hg2⟩ := Opn ht
  simp only [List.cons.injEq, Value.slice.injEq, and_true] at hraw
  obtain ⟨rfl, rfl, rfl⟩ := hraw
  have hh : Holds ⟨0, W, [], fun b => b < W.heap.size⟩ [] (rS s ps (rW y pw (rT t pt [ro t64 a3 cap3 raw]))) W := by
    refine ⟨fun b => b < W.heap.size, by simp, by simp [fps], by simp [fps], by simp [fps], fun r hr' => ?_, fun b hb => hb, fun b hb => .inl hb, Keep.refl _ _⟩
    rcases hg0 _ r hr' with hr' | hr'
    · rcases hg1 _ r hr' with hr' | hr'
      · rcases hg2 _ r hr' with hr' | hr'
        · simp only [List.mem_singleton] at hr'
          subst hr'
          exact hr
        · exact hr'
      · exact hr'
    · exact hr'
  have hl3 : raw.length ≤ 9223372036854775807 := by have h5 := hr.1; have h6 := hr.2.1; simp only [maxLen] at h6; omega
  have hw := clockAny_spec awake18 s ps y pw t pt raw a3 cap3 hS hY hT hl3 _ W hh
  have ec0 : c0 = (cS s ps).toArray := by rw [← hc0]
  have ec1 : c1 = (cW y pw).toArray := by rw [← hc1]
  have ec2 : c2 = (cT t pt).toArray := by rw [← hc2]
  rw [← ec0, ← ec1, ← ec2] at hw
  refine Calls.mono (P := Try.prog) (f := 3) hw fun e W' ⟨he, hk⟩ => ?_
  subst he
  have hb : Below W.heap.size W W' := ⟨hk.os, hk.tape, hk.output, hk.size, fun k hk' => hk.block k hk' (by simp)⟩
  refine ⟨_, rfl, _, _, _, [], p0 ++ (p1 ++ (p2 ++ (p3 ++ []))), [], hW', trodAll_cons_mk (shut_bool Try.underlying4 _) trodAll_mk0, ?_, rfl, hb.frame _, fun h => by cases h⟩
  exact trodAll_cons_mk (Below.trod laid (by kernel_rfl) (of_decide_eq_true (by kernel_rfl)) ⟨f0, e0⟩ hb (fun x hx => hlt x (by simp [hx])))
    (trodAll_cons_mk (Below.trod laid (by kernel_rfl) (of_decide_eq_true (by kernel_rfl)) ⟨f1, e1⟩ hb (fun x hx => hlt x (by simp [hx])))
      (trodAll_cons_mk (Below.trod laid (by kernel_rfl) (of_decide_eq_true (by kernel_rfl)) ⟨f2, e2⟩ hb (fun x hx => hlt x (by simp [hx])))
        (trodAll_cons_mk (Below.trod laid (by kernel_rfl) (of_decide_eq_true (by kernel_rfl)) ⟨f3, e3⟩ hb (fun x hx => hlt x (by simp [hx]))) trodAll_mk0)))

theorem over : Rows.clockAnyRow.holds Try.pinned (OpenSpec.ofChange Rows.clockAnySpec) :=
  OpenClaim.holds_of_wide 3 Try.f3 rfl rfl rfl rfl rfl rfl rfl ⟨rfl, rfl, rfl, rfl, rfl⟩ rfl rfl rfl rfl rfl (by kernel_rfl) Try.func3 (by kernel_rfl)
    (of_decide_eq_true (by kernel_rfl)) (by unfold Func.isWrapper; first | (rw [if_pos (by decide +kernel)]; kernel_rfl) | (rw [if_neg (by decide +kernel)]; exact ⟨rfl, rfl⟩))
    (fun os started H enc _ => lifted os started H enc)

/-- the statement -/
theorem proved : Rows.ClockAnySaid := over
#print axioms proved
end Go.Proofs.Ytdeacehacndopaa.ClockAny
