/- The statement BalancerClose of the given rows, proved for every input. No condition. -/
import Derived.Test.YtpbmephflllolaaGreatE18
set_option linter.unusedVariables false
set_option linter.unusedSimpArgs false
namespace Go.Proofs.YtpbmephflllolaaGreat
open Go Go.ChangeShapes Go.WideShapes Go.ChangeAt Go.RowKit Go.ChangeMaps
set_option maxRecDepth 100000 in
theorem A5T (os : Os) (started : os.Started) (H : Type) (enc : TypeId × Value → H) :
  ReturnsInHanded {} Tryz.checked os 5 .any (Rows.balancerCloseSpec.pre6 enc Tryz.prog Tryz.f5 Rows.balancerCloseRow.domain false) (Rows.balancerCloseSpec.post enc Tryz.prog Tryz.f5 false true false false) := by
 refine returnsInHanded_of_change (C := Tryz.checked) own started (by kernel_rfl) Tryz.func5
  (ChangeSpec.witness6 (enc := enc) (C := Tryz.checked) false ⟨#[], #[.agg #[.int .i64 0, .int .i64 0, .int .i64 0, .int .i64 0, .int .i64 0], .slice none 0 0, .agg #[.int .i64 0, .string ⟨#[]⟩, .string ⟨#[]⟩, .int .i64 0, .int .i64 0, .int .i64 0, .int .i64 0], .int .i64 0], []⟩ 8 (by kernel_rfl) (by kernel_rfl) (by kernel_rfl) (by kernel_rfl)) ?_
 intro W base args ds gs before hval0 hW hcnd _
 have hval : ∀ (j : Nat) t v, Tryz.f5.params[j]? = some t → args[j]? = some v → Value.okWide Tryz.prog W .any base t v := hval0
 have hW' := hW
 have hlt : ∀ p ∈ before, p.block < W.heap.size := fun p hp => by simpa using hW'.lt p hp
 obtain ⟨p, q, hA0, hV, rfl, hfz, hnd⟩ := hW
 have hA : DataW.TrodAll enc Tryz.prog W 0 (fun _ => true) true Tryz.f5.params.toList args.toList ds p := hA0
 have hA1 := hA
 rw [Tryz.params5] at hA hval
 obtain ⟨v0, vs0, d0, ds0, p0, q0, hargs, rfl, rfl, h0, r0⟩ := trodAll_cons hA
 obtain ⟨v1, vs1, d1, ds1, p1, q1, rfl, rfl, rfl, h1, r1⟩ := trodAll_cons r0
 obtain ⟨v2, vs2, d2, ds2, p2, q2, rfl, rfl, rfl, h2, r2⟩ := trodAll_cons r1
 obtain ⟨v3, vs3, d3, ds3, p3, q3, rfl, rfl, rfl, h3, r3⟩ := trodAll_cons r2
 obtain ⟨rfl, rfl, rfl⟩ := trodAll_nil r3
 obtain rfl : args = #[v0, v1, v2, v3] := by cases args; simp_all
 obtain ⟨rfl, rfl⟩ := trodVars_none hV
 obtain ⟨a0, rfl⟩ := B24 (hval 0 23 v0 rfl rfl) h0
 obtain ⟨a1, o1⟩ := A9U (hval 1 24 v1 rfl rfl) h1
 obtain ⟨a2, rfl, o2⟩ := A8y (hval 2 58 v2 rfl rfl) h2
 obtain ⟨a3, rfl, rfl, rfl, w3⟩ := open_int Tryz.underlying3 (hval 3 3 v3 rfl rfl) h3
 clear hA0 hval0
 refine (B6A (A7p _ a0 _ a1 a2.1 a2.2 a3 o1.2.2 o1.1 o1.2.1 o2.1 o2.2)).mono fun e W' ⟨he, hkept, hbut⟩ => ?_
 subst he
 exact ⟨_, rfl, B5w (pv := []) hW' (fun _ _ _ => (trodAll_cons_mk (shut_bool Tryz.underlying4 _) trodAll_mk0)) (fun sp hsp => B08 C1n hbut (by kernel_rfl) hA1 (fun x hx => hlt x (List.mem_append_left _ hx)) (fun x hx => hsp x (List.mem_append_left _ hx))) (fun _ _ => rfl) hkept⟩
set_option maxHeartbeats 4000000 in
set_option maxRecDepth 100000 in
theorem A5Q : joinedFacts Tryz.prog 5 Tryz.f5 Rows.balancerCloseSpec Rows.balancerCloseRow = true := by
 simp only [joinedFacts, Bool.and_eq_true, C1n, jf2, jf6, jf8, C6A, C5b]
 repeat' with_reducible apply And.intro
 all_goals first | with_reducible exact True.intro | (as_aux_lemma => kernel_rfl)
theorem A7D : Rows.balancerCloseRow.holds Tryz.pinned (OpenSpec.ofChange Rows.balancerCloseSpec) :=
 OpenClaim.holds_of_wide 5 Tryz.f5 rfl rfl rfl rfl rfl rfl rfl ⟨rfl, rfl, rfl, rfl, rfl⟩ rfl rfl rfl rfl rfl (by as_aux_lemma => kernel_rfl) Tryz.func5 A5Q
  (of_decide_eq_true (by as_aux_lemma => kernel_rfl)) (by unfold Func.isWrapper; first | (rw [if_pos (by decide +kernel)]; kernel_rfl) | (rw [if_neg (by decide +kernel)]; exact ⟨rfl, rfl⟩))
  (fun os started H enc _ => A5T os started H enc)
theorem balancerCloseProved : Rows.BalancerCloseSaid := A7D
end Go.Proofs.YtpbmephflllolaaGreat
