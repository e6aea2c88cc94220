/- The statement ModelOne of the given rows, proved for every input. No condition. -/
import Derived.Test.YtggakcpabomliaaGreatK16
set_option linter.unusedVariables false
set_option linter.unusedSimpArgs false
namespace Go.Proofs.YtggakcpabomliaaGreat
open Go
theorem keys_shard {c : CfgV} {s : MoS} (h : Inv c s) {i : Nat} (hi : (i : Int) < c.sh) : (∀ k ∈ keysE (s.tabs.getD i ([], 0)).1, shardV k c.sh = i ∧ k.size < 2 ^ 60) ∧ (keysE (s.tabs.getD i ([], 0)).1).Nodup := by
  have hsh := h.sh
  have hat := h.at (i := i) (by omega)
  have ht := h.tab _ (List.mem_of_getElem? hat)
  refine ⟨fun k hk => ?_, by rw [keysE_flowsOf]; exact nodup_of_right ht.right⟩
  rw [keysE_flowsOf] at hk
  obtain ⟨x, hx, rfl⟩ := List.mem_map.1 hk
  refine ⟨h.own i _ hat x hx, ht.keys x ?_⟩
  unfold flowsOf at hx
  exact (List.mem_filter.1 hx).1
def cntK (key : ByteArray) (l : List ByteArray) : Nat := l.countP fun k => decide (k = key)
theorem cntK_zero {key : ByteArray} {l : List ByteArray} (h : ∀ k ∈ l, k ≠ key) : cntK key l = 0 := by
  unfold cntK; rw [List.countP_eq_zero]; intro k hk; simpa using h k hk
theorem cntK_one {key : ByteArray} {l : List ByteArray} (h : l.Nodup) : cntK key l ≤ 1 := by
  induction l with
  | nil => simp [cntK]
  | cons k l ih =>
    obtain ⟨h1, h2⟩ := List.nodup_cons.1 h
    by_cases c : k = key
    · subst c
      have := cntK_zero (key := k) (l := l) fun x hx e => h1 (e ▸ hx)
      unfold cntK at *
      rw [List.countP_cons, if_pos (by simp), this]; omega
    · have := ih h2
      unfold cntK at *
      rw [List.countP_cons, if_neg (by simpa using c)]; exact this
theorem cntK_next {key : ByteArray} {l : List ByteArray} {i : Nat} {k : ByteArray} (h : l[i]? = some k) : cntK key (l.take (i + 1)) = cntK key (l.take i) + if k = key then 1 else 0 := by
  unfold cntK; rw [List.take_add_one, h, List.countP_append]; simp [List.countP_cons]
theorem cntK_le {key : ByteArray} {l : List ByteArray} {i : Nat} : cntK key (l.take i) ≤ cntK key l := by
  unfold cntK
  have h : l.countP (fun k => decide (k = key)) = (l.take i).countP (fun k => decide (k = key)) + (l.drop i).countP fun k => decide (k = key) := by rw [← List.countP_append, List.take_append_drop]
  omega
theorem ModelOne_ok (w : World) (c : CfgV) (lv : Value) (l : List StA) (key : ByteArray) (hn : l.length ≤ 9223372036854775807) (hk : key.size ≤ 9223372036854775807) (hv : Rd1 w lv l.length (l.flatMap encS)) (hs : ∀ x ∈ l, PoolRd w x) :
    Fn PR NoX 7 #[c.val, lv, .string key] w (fun v w' => v = .bool true ∧ But [] w w') := by
  refine Fn.pure (mk_gangplanklaw17_ModelOne (TW.go (κ := false) (S := []) ?_))
  unfold sh_gangplanklaw17_ModelOne
  obtain ⟨la, lc, rfl, hr⟩ := hv.form
  simp only [CfgV.val]
  (have hQq : True := trivial; repeat ((first | clear hQq | (with_reducible first | refine T_drw ?_ | refine T_bx fun _ => ?_ | refine s_al fun _ => ?_ | refine s_bs0 fun _ => ?_ | refine s_bs1 (hK := fun _ => ?_) | refine s_bs2 (hK := fun _ => ?_) | refine s_bs3 (hK := fun _ => ?_) | refine s_bs5 (hK := fun _ => ?_) | refine s_bs6 (hK := fun _ => ?_))); (try simp (disch := first | omega | assumption | ((repeat (first | exact mem_h | exact Up.here | apply mem_t | apply Up.there)); first | done | fail) | (simp; first | done | omega | fail)) [])))
  rename_i bc
  refine T_cv ent_gangplanklaw17_works (fun w' _ => works17_ok w') ?_
  (have hQq : True := trivial; repeat ((first | clear hQq | (with_reducible first | refine T_drw ?_ | refine T_bx fun _ => ?_ | refine s_al fun _ => ?_ | refine s_bs0 fun _ => ?_ | refine s_bs1 (hK := fun _ => ?_) | refine s_bs2 (hK := fun _ => ?_) | refine s_bs3 (hK := fun _ => ?_) | refine s_bs5 (hK := fun _ => ?_) | refine s_bs6 (hK := fun _ => ?_))); (try simp (disch := first | omega | assumption | ((repeat (first | exact mem_h | exact Up.here | apply mem_t | apply Up.there)); first | done | fail) | (simp; first | done | omega | fail)) [])))
  refine T_cv ent_gangplanklaw17_few (fun w' hw' => few_ok w' c _ l hn (hv.ks hw'.ks (by simp)) fun x hx => (hs x hx).sl) ?_
  cases hf : fewS c (l.map (·.1.1)) with
  | false => (have hQq : True := trivial; repeat ((first | clear hQq | (with_reducible first | refine T_drw ?_ | refine T_bx fun _ => ?_ | refine s_al fun _ => ?_ | refine s_bs0 fun _ => ?_ | refine s_bs1 (hK := fun _ => ?_) | refine s_bs2 (hK := fun _ => ?_) | refine s_bs3 (hK := fun _ => ?_) | refine s_bs5 (hK := fun _ => ?_) | refine s_bs6 (hK := fun _ => ?_))); (try simp (disch := first | omega | assumption | ((repeat (first | exact mem_h | exact Up.here | apply mem_t | apply Up.there)); first | done | fail) | (simp; first | done | omega | fail)) []))); exact T_ret rfl
  | true =>
  by_cases c3 : (60 : Int) < key.size
  · (have hQq : True := trivial; repeat ((first | clear hQq | (with_reducible first | refine T_drw ?_ | refine T_bx fun _ => ?_ | refine s_al fun _ => ?_ | refine s_bs0 fun _ => ?_ | refine s_bs1 (hK := fun _ => ?_) | refine s_bs2 (hK := fun _ => ?_) | refine s_bs3 (hK := fun _ => ?_) | refine s_bs5 (hK := fun _ => ?_) | refine s_bs6 (hK := fun _ => ?_))); (try simp (disch := first | omega | assumption | ((repeat (first | exact mem_h | exact Up.here | apply mem_t | apply Up.there)); first | done | fail) | (simp; first | done | omega | fail)) [c3])))
    exact T_ret rfl
  (have hQq : True := trivial; repeat ((first | clear hQq | (with_reducible first | refine T_drw ?_ | refine T_bx fun _ => ?_ | refine s_al fun _ => ?_ | refine s_bs0 fun _ => ?_ | refine s_bs1 (hK := fun _ => ?_) | refine s_bs2 (hK := fun _ => ?_) | refine s_bs3 (hK := fun _ => ?_) | refine s_bs5 (hK := fun _ => ?_) | refine s_bs6 (hK := fun _ => ?_))); (try simp (disch := first | omega | assumption | ((repeat (first | exact mem_h | exact Up.here | apply mem_t | apply Up.there)); first | done | fail) | (simp; first | done | omega | fail)) [c3])))
  obtain ⟨hc6, hl12, hfo⟩ := fewS_iff hf
  refine T_new (c := c) (fun h0 => ?_) fun m hok hst hi => ?_
  · (have hQq : True := trivial; repeat ((first | clear hQq | (with_reducible first | refine T_drw ?_ | refine T_bx fun _ => ?_ | refine s_al fun _ => ?_ | refine s_bs0 fun _ => ?_ | refine s_bs1 (hK := fun _ => ?_) | refine s_bs2 (hK := fun _ => ?_) | refine s_bs3 (hK := fun _ => ?_) | refine s_bs5 (hK := fun _ => ?_) | refine s_bs6 (hK := fun _ => ?_))); (try simp (disch := first | omega | assumption | ((repeat (first | exact mem_h | exact Up.here | apply mem_t | apply Up.there)); first | done | fail) | (simp; first | done | omega | fail)) [])))
    exact T_ret rfl
  have hl : l.length ≤ 12 := by simpa using hl12
  (have hQq : True := trivial; repeat ((first | clear hQq | (with_reducible first | refine T_drw ?_ | refine T_bx fun _ => ?_ | refine s_al fun _ => ?_ | refine s_bs0 fun _ => ?_ | refine s_bs1 (hK := fun _ => ?_) | refine s_bs2 (hK := fun _ => ?_) | refine s_bs3 (hK := fun _ => ?_) | refine s_bs5 (hK := fun _ => ?_) | refine s_bs6 (hK := fun _ => ?_))); (try simp (disch := first | omega | assumption | ((repeat (first | exact mem_h | exact Up.here | apply mem_t | apply Up.there)); first | done | fail) | (simp; first | done | omega | fail)) [])))
  refine T_doall (m := m) hv hs hl hfo hi fun m1 hb1 hst1 hi1 => ?_
  rw [← hb1]
  have hcb := cfg_bounds hok
  have hsh := hi1.sh
  obtain ⟨n, hnsh⟩ : ∃ n : Nat, c.sh = n := ⟨c.sh.toNat, by omega⟩
  have hpool : checkV m1.pool = 0 := hi1.pool
  (have hQq : True := trivial; repeat ((first | clear hQq | (with_reducible first | refine T_drw ?_ | refine T_bx fun _ => ?_ | refine s_al fun _ => ?_ | refine s_bs0 fun _ => ?_ | refine s_bs1 (hK := fun _ => ?_) | refine s_bs2 (hK := fun _ => ?_) | refine s_bs3 (hK := fun _ => ?_) | refine s_bs5 (hK := fun _ => ?_) | refine s_bs6 (hK := fun _ => ?_))); (try simp (disch := first | omega | assumption | ((repeat (first | exact mem_h | exact Up.here | apply mem_t | apply Up.there)); first | done | fail) | (simp; first | done | omega | fail)) [])))
  refine T_for2 n (fun _ _ => .bool false) (fun i (x : Nat) => .int .i64 (x : Int)) (fun i x => modH m1 ++ [.pt bc (.cells #[.int .i64 c.wk, .int .i64 c.sh, .int .i64 c.cp, .int .i64 c.idle, .int .i64 c.sl] 23)])
    (fun i x => x ≤ if i ≤ shardV key c.sh then 0 else 1) 0 (by simp) ?_
  rintro i x hin hx L hL
  simp only [modH, List.cons_append, List.nil_append] at hL ⊢
  by_cases hlt : i < n
  · have hlt' : (i : Int) < c.sh := by omega
    have hat := hi1.at (i := i) (by omega)
    have hto := hi1.tab _ (List.mem_of_getElem? hat)
    have htv := tableV_at (m := m1) (i := i) (by omega)
    obtain ⟨hks, hnd⟩ := keys_shard hi1 hlt'
    rw [← htv] at hto hks hnd
    (have hQq : True := trivial; repeat ((first | clear hQq | (with_reducible first | refine T_drw ?_ | refine T_bx fun _ => ?_ | refine s_al fun _ => ?_ | refine s_bs0 fun _ => ?_ | refine s_bs1 (hK := fun _ => ?_) | refine s_bs2 (hK := fun _ => ?_) | refine s_bs3 (hK := fun _ => ?_) | refine s_bs5 (hK := fun _ => ?_) | refine s_bs6 (hK := fun _ => ?_))); (try simp (disch := first | omega | assumption | ((repeat (first | exact mem_h | exact Up.here | apply mem_t | apply Up.there)); first | done | fail) | (simp; first | done | omega | fail)) [hlt'])))
    refine T_table hi1 (by simp only [modH]; ((repeat (first | exact Part.nil | (apply Part.cons; · ((repeat (first | exact mem_h | exact Up.here | exact Sel.here | apply mem_t | apply Up.there | apply Sel.there)); first | done | fail)))); first | done | fail)) fun r => ?_
    generalize tableV m1.ts i = t at *
    simp only [modH, List.cons_append, List.nil_append]
    have hlen := hto.len
    refine T_opn (by ((repeat (first | exact mem_h | exact Up.here | exact Sel.here | apply mem_t | apply Up.there | apply Sel.there)); first | done | fail)) fun ra rc hra => ?_
    subst hra
    refine T_keys (t := t) (by omega) (RdT.own (by ((repeat (first | exact mem_h | exact Up.here | exact Sel.here | apply mem_t | apply Up.there | apply Sel.there)); first | done | fail))) fun a b => ?_
    refine T_cv ent_flows_Right (fun w' hw' => Right_ok w' _ t hto.keys (by omega) (RdT.own (by ((repeat (first | exact mem_h | exact Up.here | exact Sel.here | apply mem_t | apply Up.there | apply Sel.there)); first | done | fail)) w' hw')) ?_
    have e1 : (t.length : Int) = c.cp := by omega
    (have hQq : True := trivial; repeat ((first | clear hQq | (with_reducible first | refine T_drw ?_ | refine T_bx fun _ => ?_ | refine s_al fun _ => ?_ | refine s_bs0 fun _ => ?_ | refine s_bs1 (hK := fun _ => ?_) | refine s_bs2 (hK := fun _ => ?_) | refine s_bs3 (hK := fun _ => ?_) | refine s_bs5 (hK := fun _ => ?_) | refine s_bs6 (hK := fun _ => ?_))); (try simp (disch := first | omega | assumption | ((repeat (first | exact mem_h | exact Up.here | apply mem_t | apply Up.there)); first | done | fail) | (simp; first | done | omega | fail)) [hto.right, e1])))
    have hx1 : x ≤ 1 := by split at hx <;> omega
    have hc1 := cntK_one (key := key) hnd
    have hkl : (keysE t).length ≤ t.length := by rw [keysE_flowsOf, List.length_map]; exact List.length_filter_le ..
    have hfew := hto.few
    refine T_for2 (keysE t).length (fun _ _ => .bool false) (fun q (y : Nat) => .int .i64 (y : Int)) (fun q y => [.own 9 1 (.slice a (keysE t).length b) (keysE t).length ((keysE t).map Value.string), ownE (.slice ra t.length rc) t,
      .pt m1.b (.cells #[.int .i64 m1.c.wk, .int .i64 m1.c.sh, .int .i64 m1.c.cp, .int .i64 m1.c.idle, .int .i64 m1.c.sl, m1.pv, m1.sv] 109),
      .own 103 2 m1.pv m1.pool.length (m1.pool.flatMap encB), .own 113 2 m1.sv m1.ts.length (m1.ts.flatMap encSh), tabR (m1.ts.map (·.1)),
      .pt bc (.cells #[.int .i64 c.wk, .int .i64 c.sh, .int .i64 c.cp, .int .i64 c.idle, .int .i64 c.sl] 23)])
      (fun q y => y = x + cntK key ((keysE t).take q)) x (by simp [cntK]) ?_
    rintro q y hqn hy L2 hL2
    have hle := cntK_le (key := key) (l := keysE t) (i := q)
    by_cases hq : q < (keysE t).length
    · refine T_ptr (by ((repeat (first | exact mem_h | exact Up.here | exact Sel.here | apply mem_t | apply Up.there | apply Sel.there)); first | done | fail)) (by omega) fun g gc hg => ?_
      cases hg
      have hxk := List.getElem?_eq_getElem hq
      have hxs : ((keysE t).map Value.string)[q]? = some (Value.string (keysE t)[q]) := by rw [List.getElem?_map, hxk]; rfl
      have hks1 := hks _ (List.getElem_mem hq)
      have hwq : IntKind.i64.wrap ((q : Int) + 1) = (q : Int) + 1 := wrap64 (by omega) (by omega)
      have hnx := cntK_next (key := key) hxk
      (have hQq : True := trivial; repeat ((first | clear hQq | (with_reducible first | refine T_drw ?_ | refine T_bx fun _ => ?_ | refine s_al fun _ => ?_ | refine s_bs0 fun _ => ?_ | refine s_bs1 (hK := fun _ => ?_) | refine s_bs2 (hK := fun _ => ?_) | refine s_bs3 (hK := fun _ => ?_) | refine s_bs5 (hK := fun _ => ?_) | refine s_bs6 (hK := fun _ => ?_))); (try simp (disch := first | omega | assumption | ((repeat (first | exact mem_h | exact Up.here | apply mem_t | apply Up.there)); first | done | fail) | (simp; first | done | omega | fail)) [hq, hxs])))
      refine T_cv ent_model_Shard (fun w' _ => Shard_ok w' (keysE t)[q] c.sh hks1.2 (by omega)) ?_
      rw [hks1.1]
      by_cases e : (keysE t)[q] = key
      · have hw2 : IntKind.i64.wrap ((y : Int) + 1) = (y : Int) + 1 := wrap64 (by omega) (by omega)
        (have hQq : True := trivial; repeat ((first | clear hQq | (with_reducible first | refine T_drw ?_ | refine T_bx fun _ => ?_ | refine s_al fun _ => ?_ | refine s_bs0 fun _ => ?_ | refine s_bs1 (hK := fun _ => ?_) | refine s_bs2 (hK := fun _ => ?_) | refine s_bs3 (hK := fun _ => ?_) | refine s_bs5 (hK := fun _ => ?_) | refine s_bs6 (hK := fun _ => ?_))); (try simp (disch := first | omega | assumption | ((repeat (first | exact mem_h | exact Up.here | apply mem_t | apply Up.there)); first | done | fail) | (simp; first | done | omega | fail)) [hq, hxs, e, hw2, hwq])))
        have h := hL2 hq (y + 1) (by rw [hnx, if_pos e]; omega)
        simpa using h
      · (have hQq : True := trivial; repeat ((first | clear hQq | (with_reducible first | refine T_drw ?_ | refine T_bx fun _ => ?_ | refine s_al fun _ => ?_ | refine s_bs0 fun _ => ?_ | refine s_bs1 (hK := fun _ => ?_) | refine s_bs2 (hK := fun _ => ?_) | refine s_bs3 (hK := fun _ => ?_) | refine s_bs5 (hK := fun _ => ?_) | refine s_bs6 (hK := fun _ => ?_))); (try simp (disch := first | omega | assumption | ((repeat (first | exact mem_h | exact Up.here | apply mem_t | apply Up.there)); first | done | fail) | (simp; first | done | omega | fail)) [hq, hxs, e, hwq])))
        exact hL2 hq y (by rw [hnx, if_neg e]; omega)
    · obtain rfl : q = (keysE t).length := by omega
      rw [List.take_length] at hy
      (have hQq : True := trivial; repeat ((first | clear hQq | (with_reducible first | refine T_drw ?_ | refine T_bx fun _ => ?_ | refine s_al fun _ => ?_ | refine s_bs0 fun _ => ?_ | refine s_bs1 (hK := fun _ => ?_) | refine s_bs2 (hK := fun _ => ?_) | refine s_bs3 (hK := fun _ => ?_) | refine s_bs5 (hK := fun _ => ?_) | refine s_bs6 (hK := fun _ => ?_))); (try simp (disch := first | omega | assumption | ((repeat (first | exact mem_h | exact Up.here | apply mem_t | apply Up.there)); first | done | fail) | (simp; first | done | omega | fail)) [])))
      refine Sels.tw (by ((repeat (first | exact Sels.nil | (apply Sels.cons; · ((repeat (first | exact mem_h | exact Up.here | exact Sel.here | apply mem_t | apply Up.there | apply Sel.there)); first | done | fail)))); first | done | fail)) (hL hlt y ?_)
      by_cases e : i = shardV key c.sh
      · rw [if_neg (by omega)]
        rw [if_pos (by omega)] at hx; omega
      · have hz := cntK_zero (key := key) (l := keysE t) fun k hk e2 => e (by rw [← e2]; exact (hks k hk).1.symm)
        by_cases e3 : i + 1 ≤ shardV key c.sh
        · rw [if_pos e3]; rw [if_pos (by omega)] at hx; omega
        · rw [if_neg e3]; omega
  · obtain rfl : i = n := by omega
    have hlt' : ¬ (i : Int) < c.sh := by omega
    have hx1 : (x : Int) ≤ 1 := by split at hx <;> omega
    have hp2 : m1.pool.length ≤ 1000 := hi1.ok2.pool
    (have hQq : True := trivial; repeat ((first | clear hQq | (with_reducible first | refine T_drw ?_ | refine T_bx fun _ => ?_ | refine s_al fun _ => ?_ | refine s_bs0 fun _ => ?_ | refine s_bs1 (hK := fun _ => ?_) | refine s_bs2 (hK := fun _ => ?_) | refine s_bs3 (hK := fun _ => ?_) | refine s_bs5 (hK := fun _ => ?_) | refine s_bs6 (hK := fun _ => ?_))); (try simp (disch := first | omega | assumption | ((repeat (first | exact mem_h | exact Up.here | apply mem_t | apply Up.there)); first | done | fail) | (simp; first | done | omega | fail)) [hlt', hx1])))
    refine T_pool hi1 (by simp only [modH]; ((repeat (first | exact Part.nil | (apply Part.cons; · ((repeat (first | exact mem_h | exact Up.here | exact Sel.here | apply mem_t | apply Up.there | apply Sel.there)); first | done | fail)))); first | done | fail)) fun r => ?_
    refine T_cv ent_pool_Check (fun w' hw' => poolCheck_ok w' r m1.pool (by omega) (RdT.own mem_h w' hw')) ?_
    (have hQq : True := trivial; repeat ((first | clear hQq | (with_reducible first | refine T_drw ?_ | refine T_bx fun _ => ?_ | refine s_al fun _ => ?_ | refine s_bs0 fun _ => ?_ | refine s_bs1 (hK := fun _ => ?_) | refine s_bs2 (hK := fun _ => ?_) | refine s_bs3 (hK := fun _ => ?_) | refine s_bs5 (hK := fun _ => ?_) | refine s_bs6 (hK := fun _ => ?_))); (try simp (disch := first | omega | assumption | ((repeat (first | exact mem_h | exact Up.here | apply mem_t | apply Up.there)); first | done | fail) | (simp; first | done | omega | fail)) [hpool])))
    exact T_ret rfl
end Go.Proofs.YtggakcpabomliaaGreat
namespace Go.Proofs.YtggakcpabomliaaGreat
open Go Go.ChangeShapes Go.WideShapes Go.ChangeAt Go.RowKit Go.ChangeMaps
set_option maxRecDepth 100000 in
theorem liftedModelOne (os : Os) (started : os.Started) (H : Type) (enc : TypeId × Value → H) :
    ReturnsInHanded {} Tryz.checked os 7 .any (Rows.modelOneSpec.pre6 enc Tryz.prog Tryz.f7 Rows.modelOneRow.domain false) (Rows.modelOneSpec.post enc Tryz.prog Tryz.f7 false true false false) := by
  refine returnsInHanded_of_change (C := Tryz.checked) own started (by kernel_rfl) Tryz.func7
    (ChangeSpec.witness6 (enc := enc) (C := Tryz.checked) false ⟨#[], #[.agg #[.int .i64 0, .int .i64 0, .int .i64 0, .int .i64 0, .int .i64 0], .slice none 0 0, .string ⟨#[]⟩], []⟩ 8 (by kernel_rfl) (by kernel_rfl) (by kernel_rfl) (by kernel_rfl)) ?_
  intro W base args ds gs before hval0 hW hcnd _
  have hval : ∀ (j : Nat) t v, Tryz.f7.params[j]? = some t → args[j]? = some v → Value.okWide Tryz.prog W .any base t v := hval0
  have hW' := hW
  have hlt : ∀ p ∈ before, p.block < W.heap.size := fun p hp => by simpa using hW'.lt p hp
  obtain ⟨p, q, hA0, hV, rfl, hfz, hnd⟩ := hW
  have hA : DataW.TrodAll enc Tryz.prog W 0 (fun _ => true) true Tryz.f7.params.toList args.toList ds p := hA0
  have hA1 := hA
  rw [Tryz.params7] at hA hval
  obtain ⟨v0, vs0, d0, ds0, p0, q0, hargs, rfl, rfl, h0, r0⟩ := trodAll_cons hA
  obtain ⟨v1, vs1, d1, ds1, p1, q1, rfl, rfl, rfl, h1, r1⟩ := trodAll_cons r0
  obtain ⟨v2, vs2, d2, ds2, p2, q2, rfl, rfl, rfl, h2, r2⟩ := trodAll_cons r1
  obtain ⟨rfl, rfl, rfl⟩ := trodAll_nil r2
  obtain rfl : args = #[v0, v1, v2] := by cases args; simp_all
  obtain ⟨rfl, rfl⟩ := trodVars_none hV
  obtain ⟨a0, rfl⟩ := open_cfg_arg (hval 0 23 v0 rfl rfl) h0
  obtain ⟨a1, o1⟩ := open_steps_arg (hval 1 24 v1 rfl rfl) h1
  obtain ⟨a2, rfl, rfl, rfl, w2⟩ := open_string Tryz.underlying9 (hval 2 9 v2 rfl rfl) h2
  clear hA0 hval0
  refine (law_calls (ModelOne_ok _ a0 _ a1 a2 o1.2.2 w2 o1.1 o1.2.1)).mono fun e W' ⟨he, hkept, hbut⟩ => ?_
  subst he
  exact ⟨_, rfl, post_plain (pv := []) hW' (fun _ _ _ => (trodAll_cons_mk (shut_bool Tryz.underlying4 _) trodAll_mk0)) (fun sp hsp => trodAll_stays laid hbut (by kernel_rfl) hA1 (fun x hx => hlt x (List.mem_append_left _ hx)) (fun x hx => hsp x (List.mem_append_left _ hx))) (fun _ _ => rfl) hkept⟩
set_option maxHeartbeats 4000000 in
set_option maxRecDepth 100000 in
theorem joinedModelOne : joinedFacts Tryz.prog 7 Tryz.f7 Rows.modelOneSpec Rows.modelOneRow = true := by
  simp only [joinedFacts, Bool.and_eq_true, laid, jf2, jf6, jf8, jf24, jf25]
  repeat' with_reducible apply And.intro
  all_goals first | with_reducible exact True.intro | (as_aux_lemma => kernel_rfl)
theorem overModelOne : Rows.modelOneRow.holds Tryz.pinned (OpenSpec.ofChange Rows.modelOneSpec) :=
  OpenClaim.holds_of_wide 7 Tryz.f7 rfl rfl rfl rfl rfl rfl rfl ⟨rfl, rfl, rfl, rfl, rfl⟩ rfl rfl rfl rfl rfl (by as_aux_lemma => kernel_rfl) Tryz.func7 joinedModelOne
    (of_decide_eq_true (by as_aux_lemma => kernel_rfl)) (by unfold Func.isWrapper; first | (rw [if_pos (by decide +kernel)]; kernel_rfl) | (rw [if_neg (by decide +kernel)]; exact ⟨rfl, rfl⟩))
    (fun os started H enc _ => liftedModelOne os started H enc)
theorem modelOneProved : Rows.ModelOneSaid := overModelOne
end Go.Proofs.YtggakcpabomliaaGreat
