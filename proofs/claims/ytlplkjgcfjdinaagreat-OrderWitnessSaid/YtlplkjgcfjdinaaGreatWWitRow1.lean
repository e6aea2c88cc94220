/- The statement OrderWitness of the given rows, proved for every input. No condition. -/
import Derived.Test.YtlplkjgcfjdinaaGreatW16
set_option linter.unusedVariables false
set_option linter.unusedSimpArgs false
namespace Go.Proofs.YtlplkjgcfjdinaaGreat
open Go Go.ChangeShapes Go.WideShapes Go.ChangeAt Go.RowKit Go.ChangeMaps
set_option maxRecDepth 100000 in
theorem A5a (os : Os) (started : os.Started) (H : Type) (enc : TypeId × Value → H) :
  ReturnsInHanded {} Tryz.checked os 4 .any (Rows.orderWitnessSpec.pre6 enc Tryz.prog Tryz.f4 Rows.orderWitnessRow.domain false) (Rows.orderWitnessSpec.post enc Tryz.prog Tryz.f4 false true false false) := by
 refine returnsInHanded_of_change (C := Tryz.checked) own started (by kernel_rfl) Tryz.func4
  (ChangeSpec.witness6 (enc := enc) (C := Tryz.checked) false ⟨#[], #[.slice none 0 0], []⟩ 8 (by kernel_rfl) (by kernel_rfl) (by kernel_rfl) (by kernel_rfl)) ?_
 intro W base args ds gs before hval0 hW hcnd _
 have hval : ∀ (j : Nat) t v, Tryz.f4.params[j]? = some t → args[j]? = some v → Value.okWide Tryz.prog W .any base t v := hval0
 have hW' := hW
 have hlt : ∀ p ∈ before, p.block < W.heap.size := fun p hp => by simpa using hW'.lt p hp
 obtain ⟨p, q, hA0, hV, rfl, hfz, hnd⟩ := hW
 have hA : DataW.TrodAll enc Tryz.prog W 0 (fun _ => true) true Tryz.f4.params.toList args.toList ds p := hA0
 have hA1 := hA
 rw [Tryz.params4] at hA hval
 obtain ⟨v0, vs0, d0, ds0, p0, q0, hargs, rfl, rfl, h0, r0⟩ := trodAll_cons hA
 obtain ⟨rfl, rfl, rfl⟩ := trodAll_nil r0
 obtain rfl : args = #[v0] := by cases args; simp_all
 obtain ⟨rfl, rfl⟩ := trodVars_none hV
 obtain ⟨a0, o0⟩ := B00 (hval 0 28 v0 rfl rfl) h0
 clear hA0 hval0
 refine (B6Z (A8Q _ _ a0 o0.1 o0.2.2)).mono fun e W' ⟨he, hkept, hbut⟩ => ?_
 subst he
 exact ⟨_, rfl, B41 (pv := []) hW' (fun _ _ _ => (trodAll_cons_mk (shut_bool Tryz.underlying4 _) trodAll_mk0)) (fun sp hsp => B0S B9v hbut (by kernel_rfl) hA1 (fun x hx => hlt x (List.mem_append_left _ hx)) (fun x hx => hsp x (List.mem_append_left _ hx))) (fun _ _ => rfl) hkept⟩
set_option maxHeartbeats 4000000 in
set_option maxRecDepth 100000 in
theorem A5M : joinedFacts Tryz.prog 4 Tryz.f4 Rows.orderWitnessSpec Rows.orderWitnessRow = true := by
 simp only [joinedFacts, Bool.and_eq_true, B9v, jf2, jf6, jf8, C3x, C4G]
 repeat' with_reducible apply And.intro
 all_goals first | with_reducible exact True.intro | (as_aux_lemma => kernel_rfl)
theorem A7e : Rows.orderWitnessRow.holds Tryz.pinned (OpenSpec.ofChange Rows.orderWitnessSpec) :=
 OpenClaim.holds_of_wide 4 Tryz.f4 rfl rfl rfl rfl rfl rfl rfl ⟨rfl, rfl, rfl, rfl, rfl⟩ rfl rfl rfl rfl rfl (by as_aux_lemma => kernel_rfl) Tryz.func4 A5M
  (of_decide_eq_true (by as_aux_lemma => kernel_rfl)) (by unfold Func.isWrapper; first | (rw [if_pos (by decide +kernel)]; kernel_rfl) | (rw [if_neg (by decide +kernel)]; exact ⟨rfl, rfl⟩))
  (fun os started H enc _ => A5a os started H enc)
theorem orderWitnessProved : Rows.OrderWitnessSaid := A7e
end Go.Proofs.YtlplkjgcfjdinaaGreat
