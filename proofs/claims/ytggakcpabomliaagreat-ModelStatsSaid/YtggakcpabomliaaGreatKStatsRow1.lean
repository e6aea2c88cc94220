/- The statement ModelStats of the given rows, proved for every input. No condition. -/
import Derived.Test.YtggakcpabomliaaGreatK16
set_option linter.unusedVariables false
set_option linter.unusedSimpArgs false
namespace Go.Proofs.YtggakcpabomliaaGreat
open Go
theorem p_neg {P : Program} {k : IntKind} {a : Int} {K : Value → WP} : pur P (Op.unary .neg (.int k a)) K = K (.int k (k.wrap (-a))) := pur_of (fun w => by simp [Op.unary, Op.intArith]) K
theorem ModelStats_ok (w : World) (c : CfgV) (lv : Value) (l : List StA) (s : StA) (hn : l.length ≤ 9223372036854775807) (hv : Rd1 w lv l.length (l.flatMap encS)) (hs : ∀ x ∈ l, PoolRd w x) (hs1 : PoolRd w s) :
    Fn PR NoX 5 #[c.val, lv, .agg (encS s).toArray] w (fun v w' => v = .bool true ∧ But [] w w') := by
  refine Fn.pure (mk_gangplanklaw17_ModelStats (TW.go (κ := false) (S := []) ?_))
  unfold sh_gangplanklaw17_ModelStats
  obtain ⟨la, lc, rfl, hr⟩ := hv.form
  obtain ⟨pa, pc, hpl⟩ := hs1.sl
  simp only [CfgV.val, encS, hpl]
  (have hQq : True := trivial; repeat ((first | clear hQq | (with_reducible first | refine T_drw ?_ | refine T_bx fun _ => ?_ | refine s_al fun _ => ?_ | refine s_bs0 fun _ => ?_ | refine s_bs1 (hK := fun _ => ?_) | refine s_bs2 (hK := fun _ => ?_) | refine s_bs3 (hK := fun _ => ?_) | refine s_bs5 (hK := fun _ => ?_) | refine s_bs6 (hK := fun _ => ?_))); (try simp (disch := first | omega | assumption | ((repeat (first | exact mem_h | exact Up.here | apply mem_t | apply Up.there)); first | done | fail) | (simp; first | done | omega | fail)) [])))
  rename_i bc bs
  refine T_cv ent_gangplanklaw17_works (fun w' _ => works17_ok w') ?_
  (have hQq : True := trivial; repeat ((first | clear hQq | (with_reducible first | refine T_drw ?_ | refine T_bx fun _ => ?_ | refine s_al fun _ => ?_ | refine s_bs0 fun _ => ?_ | refine s_bs1 (hK := fun _ => ?_) | refine s_bs2 (hK := fun _ => ?_) | refine s_bs3 (hK := fun _ => ?_) | refine s_bs5 (hK := fun _ => ?_) | refine s_bs6 (hK := fun _ => ?_))); (try simp (disch := first | omega | assumption | ((repeat (first | exact mem_h | exact Up.here | apply mem_t | apply Up.there)); first | done | fail) | (simp; first | done | omega | fail)) [])))
  refine T_cv ent_gangplanklaw17_few (fun w' hw' => few_ok w' c _ l hn (hv.ks hw'.ks (by simp)) fun x hx => (hs x hx).sl) ?_
  cases hf : fewS c (l.map (·.1.1)) with
  | false => (have hQq : True := trivial; repeat ((first | clear hQq | (with_reducible first | refine T_drw ?_ | refine T_bx fun _ => ?_ | refine s_al fun _ => ?_ | refine s_bs0 fun _ => ?_ | refine s_bs1 (hK := fun _ => ?_) | refine s_bs2 (hK := fun _ => ?_) | refine s_bs3 (hK := fun _ => ?_) | refine s_bs5 (hK := fun _ => ?_) | refine s_bs6 (hK := fun _ => ?_))); (try simp (disch := first | omega | assumption | ((repeat (first | exact mem_h | exact Up.here | apply mem_t | apply Up.there)); first | done | fail) | (simp; first | done | omega | fail)) []))); exact T_ret rfl
  | true =>
  (have hQq : True := trivial; repeat ((first | clear hQq | (with_reducible first | refine T_drw ?_ | refine T_bx fun _ => ?_ | refine s_al fun _ => ?_ | refine s_bs0 fun _ => ?_ | refine s_bs1 (hK := fun _ => ?_) | refine s_bs2 (hK := fun _ => ?_) | refine s_bs3 (hK := fun _ => ?_) | refine s_bs5 (hK := fun _ => ?_) | refine s_bs6 (hK := fun _ => ?_))); (try simp (disch := first | omega | assumption | ((repeat (first | exact mem_h | exact Up.here | apply mem_t | apply Up.there)); first | done | fail) | (simp; first | done | omega | fail)) [])))
  rename_i bo
  refine T_cv ent_gangplanklaw17_few (fun w' hw' => few_ok w' c _ [s] (by simp) (by
    have h := RdT.own (e := 44) (k := 5) (q := 1) (v := .slice (some ⟨bo, 0, none⟩) 1 1) (xs := encS s) (by simp only [encS, hpl]; ((repeat (first | exact mem_h | exact Up.here | exact Sel.here | apply mem_t | apply Up.there | apply Sel.there)); first | done | fail)) w' hw'
    simpa using h) (by simp; exact hs1.sl)) ?_
  cases hf1 : fewS c ([s].map (·.1.1)) with
  | false => (have hQq : True := trivial; repeat ((first | clear hQq | (with_reducible first | refine T_drw ?_ | refine T_bx fun _ => ?_ | refine s_al fun _ => ?_ | refine s_bs0 fun _ => ?_ | refine s_bs1 (hK := fun _ => ?_) | refine s_bs2 (hK := fun _ => ?_) | refine s_bs3 (hK := fun _ => ?_) | refine s_bs5 (hK := fun _ => ?_) | refine s_bs6 (hK := fun _ => ?_))); (try simp (disch := first | omega | assumption | ((repeat (first | exact mem_h | exact Up.here | apply mem_t | apply Up.there)); first | done | fail) | (simp; first | done | omega | fail)) []))); exact T_ret rfl
  | true =>
  (have hQq : True := trivial; repeat ((first | clear hQq | (with_reducible first | refine T_drw ?_ | refine T_bx fun _ => ?_ | refine s_al fun _ => ?_ | refine s_bs0 fun _ => ?_ | refine s_bs1 (hK := fun _ => ?_) | refine s_bs2 (hK := fun _ => ?_) | refine s_bs3 (hK := fun _ => ?_) | refine s_bs5 (hK := fun _ => ?_) | refine s_bs6 (hK := fun _ => ?_))); (try simp (disch := first | omega | assumption | ((repeat (first | exact mem_h | exact Up.here | apply mem_t | apply Up.there)); first | done | fail) | (simp; first | done | omega | fail)) [])))
  obtain ⟨hc6, hl12, hfo⟩ := fewS_iff hf
  obtain ⟨_, _, hfo1⟩ := fewS_iff hf1
  refine T_new (c := c) (fun h0 => ?_) fun m hok hst hi => ?_
  · (have hQq : True := trivial; repeat ((first | clear hQq | (with_reducible first | refine T_drw ?_ | refine T_bx fun _ => ?_ | refine s_al fun _ => ?_ | refine s_bs0 fun _ => ?_ | refine s_bs1 (hK := fun _ => ?_) | refine s_bs2 (hK := fun _ => ?_) | refine s_bs3 (hK := fun _ => ?_) | refine s_bs5 (hK := fun _ => ?_) | refine s_bs6 (hK := fun _ => ?_))); (try simp (disch := first | omega | assumption | ((repeat (first | exact mem_h | exact Up.here | apply mem_t | apply Up.there)); first | done | fail) | (simp; first | done | omega | fail)) [])))
    exact T_ret rfl
  (have hQq : True := trivial; repeat ((first | clear hQq | (with_reducible first | refine T_drw ?_ | refine T_bx fun _ => ?_ | refine s_al fun _ => ?_ | refine s_bs0 fun _ => ?_ | refine s_bs1 (hK := fun _ => ?_) | refine s_bs2 (hK := fun _ => ?_) | refine s_bs3 (hK := fun _ => ?_) | refine s_bs5 (hK := fun _ => ?_) | refine s_bs6 (hK := fun _ => ?_))); (try simp (disch := first | omega | assumption | ((repeat (first | exact mem_h | exact Up.here | apply mem_t | apply Up.there)); first | done | fail) | (simp; first | done | omega | fail)) [])))
  have hl : l.length ≤ 12 := by simpa using hl12
  refine T_doall hv hs hl hfo hi fun m1 hb1 hst1 hi1 => ?_
  rw [← hb1]
  (have hQq : True := trivial; repeat ((first | clear hQq | (with_reducible first | refine T_drw ?_ | refine T_bx fun _ => ?_ | refine s_al fun _ => ?_ | refine s_bs0 fun _ => ?_ | refine s_bs1 (hK := fun _ => ?_) | refine s_bs2 (hK := fun _ => ?_) | refine s_bs3 (hK := fun _ => ?_) | refine s_bs5 (hK := fun _ => ?_) | refine s_bs6 (hK := fun _ => ?_))); (try simp (disch := first | omega | assumption | ((repeat (first | exact mem_h | exact Up.here | apply mem_t | apply Up.there)); first | done | fail) | (simp; first | done | omega | fail)) [])))
  have hcb := cfg_bounds hok
  have hsh := hi1.sh
  obtain ⟨n, hnsh⟩ : ∃ n : Nat, c.sh = n := ⟨c.sh.toNat, by omega⟩
  generalize hHk : [Res.own 44 5 (.slice (some ⟨bo, 0, none⟩) 1 1) 1 [.int .i64 s.1.1.kind, .string s.1.1.packet, .slice pa s.1.1.pool.length pc, .int .i64 s.1.1.shard, .int .i64 s.2],
    .pt bs (.cells #[.int .i64 s.1.1.kind, .string s.1.1.packet, .slice pa s.1.1.pool.length pc, .int .i64 s.1.1.shard, .int .i64 s.2] 44),
    .pt bc (.cells #[.int .i64 c.wk, .int .i64 c.sh, .int .i64 c.cp, .int .i64 c.idle, .int .i64 c.sl] 23)] = Hk
  refine T_for1 n (fun i (_ : Unit) => .int .i64 (liveN (m1.st.tabs.take i) : Nat)) (fun i _ => modH m1 ++ Hk) (fun i _ => True) () trivial ?_ (by simp) (by simp [liveN])
  rintro i _ hin _ L hL
  by_cases hlt : i < n
  · subst hHk
    simp only [modH, List.cons_append, List.nil_append] at hL ⊢
    have hlt' : (i : Int) < c.sh := by omega
    have hat := hi1.at (i := i) (by omega)
    have htv := tableV_at (m := m1) (i := i) (by omega)
    have hcap := liveN_cap hi1 (i + 1)
    have htk := liveN_take hat
    rw [← htv] at htk
    (have hQq : True := trivial; repeat ((first | clear hQq | (with_reducible first | refine T_drw ?_ | refine T_bx fun _ => ?_ | refine s_al fun _ => ?_ | refine s_bs0 fun _ => ?_ | refine s_bs1 (hK := fun _ => ?_) | refine s_bs2 (hK := fun _ => ?_) | refine s_bs3 (hK := fun _ => ?_) | refine s_bs5 (hK := fun _ => ?_) | refine s_bs6 (hK := fun _ => ?_))); (try simp (disch := first | omega | assumption | ((repeat (first | exact mem_h | exact Up.here | apply mem_t | apply Up.there)); first | done | fail) | (simp; first | done | omega | fail)) [hlt'])))
    refine T_table hi1 (by simp only [modH]; ((repeat (first | exact Part.nil | (apply Part.cons; · ((repeat (first | exact mem_h | exact Up.here | exact Sel.here | apply mem_t | apply Up.there | apply Sel.there)); first | done | fail)))); first | done | fail)) fun r => ?_
    refine T_keys (t := tableV m1.ts i) (by rw [htv, (hi1.tab _ (List.mem_of_getElem? hat)).len]; omega) (RdT.own mem_h) fun a b => ?_
    simp only [modH, List.cons_append, List.nil_append]
    (have hQq : True := trivial; repeat ((first | clear hQq | (with_reducible first | refine T_drw ?_ | refine T_bx fun _ => ?_ | refine s_al fun _ => ?_ | refine s_bs0 fun _ => ?_ | refine s_bs1 (hK := fun _ => ?_) | refine s_bs2 (hK := fun _ => ?_) | refine s_bs3 (hK := fun _ => ?_) | refine s_bs5 (hK := fun _ => ?_) | refine s_bs6 (hK := fun _ => ?_))); (try simp (disch := first | omega | assumption | ((repeat (first | exact mem_h | exact Up.here | apply mem_t | apply Up.there)); first | done | fail) | (simp; first | done | omega | fail)) [])))
    have h := hL hlt () trivial
    rw [htk, Int.natCast_add] at h
    exact Sels.tw (by ((repeat (first | exact Sels.nil | (apply Sels.cons; · ((repeat (first | exact mem_h | exact Up.here | exact Sel.here | apply mem_t | apply Up.there | apply Sel.there)); first | done | fail)))); first | done | fail)) h
  · obtain rfl : i = n := by omega
    subst hHk
    have hlt' : ¬ (i : Int) < c.sh := by omega
    have hA : m1.st.tabs.take i = m1.st.tabs := List.take_of_length_le (by omega)
    have hcapA := liveN_cap hi1 i
    rw [hA] at hcapA ⊢
    simp only [modH, List.cons_append, List.nil_append]
    (have hQq : True := trivial; repeat ((first | clear hQq | (with_reducible first | refine T_drw ?_ | refine T_bx fun _ => ?_ | refine s_al fun _ => ?_ | refine s_bs0 fun _ => ?_ | refine s_bs1 (hK := fun _ => ?_) | refine s_bs2 (hK := fun _ => ?_) | refine s_bs3 (hK := fun _ => ?_) | refine s_bs5 (hK := fun _ => ?_) | refine s_bs6 (hK := fun _ => ?_))); (try simp (disch := first | omega | assumption | ((repeat (first | exact mem_h | exact Up.here | apply mem_t | apply Up.there)); first | done | fail) | (simp; first | done | omega | fail)) [hlt'])))
    refine T_do (o := ⟨3, noB, [], 0⟩) (m1.st, ⟨0, 0, false, (liveN m1.st.tabs : Nat)⟩) hi1 (by simp only [modH]; ((repeat (first | exact Part.nil | (apply Part.cons; · ((repeat (first | exact mem_h | exact Up.here | exact Sel.here | apply mem_t | apply Up.there | apply Sel.there)); first | done | fail)))); first | done | fail)) (fun _ _ => poolAt_nil) (by simp) (by rw [do_stat _ _ _ rfl]; rfl) fun m2 hb2 hst2 hi2 => ?_
    simp only at hst2
    rw [← hb2]
    simp only [modH, List.cons_append, List.nil_append]
    (have hQq : True := trivial; repeat ((first | clear hQq | (with_reducible first | refine T_drw ?_ | refine T_bx fun _ => ?_ | refine s_al fun _ => ?_ | refine s_bs0 fun _ => ?_ | refine s_bs1 (hK := fun _ => ?_) | refine s_bs2 (hK := fun _ => ?_) | refine s_bs3 (hK := fun _ => ?_) | refine s_bs5 (hK := fun _ => ?_) | refine s_bs6 (hK := fun _ => ?_))); (try simp (disch := first | omega | assumption | ((repeat (first | exact mem_h | exact Up.here | apply mem_t | apply Up.there)); first | done | fail) | (simp; first | done | omega | fail)) [AnsV.val])))
    have hfs := hfo1 s.1.1 (by simp)
    refine T_do (o := s.1.1) (v := .slice pa s.1.1.pool.length pc) (now := s.2) _ hi2 (by simp only [modH]; ((repeat (first | exact Part.nil | (apply Part.cons; · ((repeat (first | exact mem_h | exact Up.here | exact Sel.here | apply mem_t | apply Up.there | apply Sel.there)); first | done | fail)))); first | done | fail)) (fun w' hw' => poolAt_old hw' (by rw [← hpl]; exact hs1) (by omega)) (by omega) rfl fun m3 hb3 hst3 hi3 => ?_
    rw [← hb3]
    simp only [modH, List.cons_append, List.nil_append]
    (have hQq : True := trivial; repeat ((first | clear hQq | (with_reducible first | refine T_drw ?_ | refine T_bx fun _ => ?_ | refine s_al fun _ => ?_ | refine s_bs0 fun _ => ?_ | refine s_bs1 (hK := fun _ => ?_) | refine s_bs2 (hK := fun _ => ?_) | refine s_bs3 (hK := fun _ => ?_) | refine s_bs5 (hK := fun _ => ?_) | refine s_bs6 (hK := fun _ => ?_))); (try simp (disch := first | omega | assumption | ((repeat (first | exact mem_h | exact Up.here | apply mem_t | apply Up.there)); first | done | fail) | (simp; first | done | omega | fail)) [AnsV.val])))
    refine T_do (o := ⟨3, noB, [], 0⟩) (m3.st, ⟨0, 0, false, (liveN m3.st.tabs : Nat)⟩) hi3 (by simp only [modH]; ((repeat (first | exact Part.nil | (apply Part.cons; · ((repeat (first | exact mem_h | exact Up.here | exact Sel.here | apply mem_t | apply Up.there | apply Sel.there)); first | done | fail)))); first | done | fail)) (fun _ _ => poolAt_nil) (by simp) (by rw [do_stat _ _ _ rfl]; rfl) fun m4 hb4 hst4 hi4 => ?_
    have hcapB := liveN_cap hi3 i
    have hB : m3.st.tabs.take i = m3.st.tabs := List.take_of_length_le (by have := hi3.sh; omega)
    rw [hB] at hcapB
    have hlaw := stats_law hi2 s.1.1 s.2
    rw [← hst3, hst2] at hlaw
    generalize liveN m1.st.tabs = A at *
    generalize liveN m3.st.tabs = B at *
    rw [hst2]
    generalize (doV m1.st s.1.1 s.2).2 = r at *
    obtain ⟨l0, l2, lx⟩ := hlaw
    have hwr : IntKind.i64.wrap ((B : Int) - (A : Int)) = (B : Int) - (A : Int) := wrap64 (by omega) (by omega)
    simp only [modH, List.cons_append, List.nil_append]
    by_cases k0 : s.1.1.kind = 0
    · obtain ⟨a1, a2, a3⟩ := l0 k0
      have e1 : (B : Int) - (A : Int) ≤ 1 := by omega
      have e2 : -1 ≤ (B : Int) - (A : Int) := by omega
      by_cases e3 : (B : Int) - (A : Int) < 1
      · (have hQq : True := trivial; repeat ((first | clear hQq | (with_reducible first | refine T_drw ?_ | refine T_bx fun _ => ?_ | refine s_al fun _ => ?_ | refine s_bs0 fun _ => ?_ | refine s_bs1 (hK := fun _ => ?_) | refine s_bs2 (hK := fun _ => ?_) | refine s_bs3 (hK := fun _ => ?_) | refine s_bs5 (hK := fun _ => ?_) | refine s_bs6 (hK := fun _ => ?_))); (try simp (disch := first | omega | assumption | ((repeat (first | exact mem_h | exact Up.here | apply mem_t | apply Up.there)); first | done | fail) | (simp; first | done | omega | fail)) [AnsV.val, hwr, k0, e1, e2, e3])))
        exact T_ret rfl
      · have e4 : r.made = true := a3 (by omega)
        (have hQq : True := trivial; repeat ((first | clear hQq | (with_reducible first | refine T_drw ?_ | refine T_bx fun _ => ?_ | refine s_al fun _ => ?_ | refine s_bs0 fun _ => ?_ | refine s_bs1 (hK := fun _ => ?_) | refine s_bs2 (hK := fun _ => ?_) | refine s_bs3 (hK := fun _ => ?_) | refine s_bs5 (hK := fun _ => ?_) | refine s_bs6 (hK := fun _ => ?_))); (try simp (disch := first | omega | assumption | ((repeat (first | exact mem_h | exact Up.here | apply mem_t | apply Up.there)); first | done | fail) | (simp; first | done | omega | fail)) [AnsV.val, hwr, k0, e1, e2, e3, e4])))
        exact T_ret rfl
    by_cases k2 : s.1.1.kind = 2
    · obtain ⟨a1, a2⟩ := l2 k2
      have e1 : (B : Int) - (A : Int) = - r.count := by omega
      have e2 : IntKind.i64.wrap (- r.count) = - r.count := wrap64 (by omega) (by omega)
      (have hQq : True := trivial; repeat ((first | clear hQq | (with_reducible first | refine T_drw ?_ | refine T_bx fun _ => ?_ | refine s_al fun _ => ?_ | refine s_bs0 fun _ => ?_ | refine s_bs1 (hK := fun _ => ?_) | refine s_bs2 (hK := fun _ => ?_) | refine s_bs3 (hK := fun _ => ?_) | refine s_bs5 (hK := fun _ => ?_) | refine s_bs6 (hK := fun _ => ?_))); (try simp (disch := first | omega | assumption | ((repeat (first | exact mem_h | exact Up.here | apply mem_t | apply Up.there)); first | done | fail) | (simp; first | done | omega | fail)) [AnsV.val, hwr, k2, e1, e2, p_neg])))
      exact T_ret rfl
    · have e1 : (B : Int) - (A : Int) = 0 := by have := lx k0 k2; omega
      (have hQq : True := trivial; repeat ((first | clear hQq | (with_reducible first | refine T_drw ?_ | refine T_bx fun _ => ?_ | refine s_al fun _ => ?_ | refine s_bs0 fun _ => ?_ | refine s_bs1 (hK := fun _ => ?_) | refine s_bs2 (hK := fun _ => ?_) | refine s_bs3 (hK := fun _ => ?_) | refine s_bs5 (hK := fun _ => ?_) | refine s_bs6 (hK := fun _ => ?_))); (try simp (disch := first | omega | assumption | ((repeat (first | exact mem_h | exact Up.here | apply mem_t | apply Up.there)); first | done | fail) | (simp; first | done | omega | fail)) [AnsV.val, hwr, k0, k2, e1])))
      exact T_ret rfl
end Go.Proofs.YtggakcpabomliaaGreat
namespace Go.Proofs.YtggakcpabomliaaGreat
open Go Go.ChangeShapes Go.WideShapes Go.ChangeAt Go.RowKit Go.ChangeMaps
set_option maxRecDepth 100000 in
theorem liftedModelStats (os : Os) (started : os.Started) (H : Type) (enc : TypeId × Value → H) :
    ReturnsInHanded {} Tryz.checked os 5 .any (Rows.modelStatsSpec.pre6 enc Tryz.prog Tryz.f5 Rows.modelStatsRow.domain false) (Rows.modelStatsSpec.post enc Tryz.prog Tryz.f5 false true false false) := by
  refine returnsInHanded_of_change (C := Tryz.checked) own started (by kernel_rfl) Tryz.func5
    (ChangeSpec.witness6 (enc := enc) (C := Tryz.checked) false ⟨#[], #[.agg #[.int .i64 0, .int .i64 0, .int .i64 0, .int .i64 0, .int .i64 0], .slice none 0 0, .agg #[.int .i64 0, .string ⟨#[]⟩, .slice none 0 0, .int .i64 0, .int .i64 0]], []⟩ 8 (by kernel_rfl) (by kernel_rfl) (by kernel_rfl) (by kernel_rfl)) ?_
  intro W base args ds gs before hval0 hW hcnd _
  have hval : ∀ (j : Nat) t v, Tryz.f5.params[j]? = some t → args[j]? = some v → Value.okWide Tryz.prog W .any base t v := hval0
  have hW' := hW
  have hlt : ∀ p ∈ before, p.block < W.heap.size := fun p hp => by simpa using hW'.lt p hp
  obtain ⟨p, q, hA0, hV, rfl, hfz, hnd⟩ := hW
  have hA : DataW.TrodAll enc Tryz.prog W 0 (fun _ => true) true Tryz.f5.params.toList args.toList ds p := hA0
  have hA1 := hA
  rw [Tryz.params5] at hA hval
  obtain ⟨v0, vs0, d0, ds0, p0, q0, hargs, rfl, rfl, h0, r0⟩ := trodAll_cons hA
  obtain ⟨v1, vs1, d1, ds1, p1, q1, rfl, rfl, rfl, h1, r1⟩ := trodAll_cons r0
  obtain ⟨v2, vs2, d2, ds2, p2, q2, rfl, rfl, rfl, h2, r2⟩ := trodAll_cons r1
  obtain ⟨rfl, rfl, rfl⟩ := trodAll_nil r2
  obtain rfl : args = #[v0, v1, v2] := by cases args; simp_all
  obtain ⟨rfl, rfl⟩ := trodVars_none hV
  obtain ⟨a0, rfl⟩ := open_cfg_arg (hval 0 23 v0 rfl rfl) h0
  obtain ⟨a1, o1⟩ := open_steps_arg (hval 1 24 v1 rfl rfl) h1
  obtain ⟨a2, rfl, o2⟩ := open_step_arg (hval 2 44 v2 rfl rfl) h2
  clear hA0 hval0
  refine (law_calls (ModelStats_ok _ a0 _ a1 a2 o1.2.2 o1.1 o1.2.1 o2)).mono fun e W' ⟨he, hkept, hbut⟩ => ?_
  subst he
  exact ⟨_, rfl, post_plain (pv := []) hW' (fun _ _ _ => (trodAll_cons_mk (shut_bool Tryz.underlying4 _) trodAll_mk0)) (fun sp hsp => trodAll_stays laid hbut (by kernel_rfl) hA1 (fun x hx => hlt x (List.mem_append_left _ hx)) (fun x hx => hsp x (List.mem_append_left _ hx))) (fun _ _ => rfl) hkept⟩
set_option maxHeartbeats 4000000 in
set_option maxRecDepth 100000 in
theorem joinedModelStats : joinedFacts Tryz.prog 5 Tryz.f5 Rows.modelStatsSpec Rows.modelStatsRow = true := by
  simp only [joinedFacts, Bool.and_eq_true, laid, jf2, jf6, jf8, jf24, jf25]
  repeat' with_reducible apply And.intro
  all_goals first | with_reducible exact True.intro | (as_aux_lemma => kernel_rfl)
theorem overModelStats : Rows.modelStatsRow.holds Tryz.pinned (OpenSpec.ofChange Rows.modelStatsSpec) :=
  OpenClaim.holds_of_wide 5 Tryz.f5 rfl rfl rfl rfl rfl rfl rfl ⟨rfl, rfl, rfl, rfl, rfl⟩ rfl rfl rfl rfl rfl (by as_aux_lemma => kernel_rfl) Tryz.func5 joinedModelStats
    (of_decide_eq_true (by as_aux_lemma => kernel_rfl)) (by unfold Func.isWrapper; first | (rw [if_pos (by decide +kernel)]; kernel_rfl) | (rw [if_neg (by decide +kernel)]; exact ⟨rfl, rfl⟩))
    (fun os started H enc _ => liftedModelStats os started H enc)
theorem modelStatsProved : Rows.ModelStatsSaid := overModelStats
end Go.Proofs.YtggakcpabomliaaGreat
