/- The statement ModelFails of the given rows, proved for every input. No condition. -/
import Derived.Test.YtggakcpabomliaaGreatK16
set_option linter.unusedVariables false
set_option linter.unusedSimpArgs false
namespace Go.Proofs.YtggakcpabomliaaGreat
open Go
@[simp] theorem s_watchN_old {κ : Bool} {S : List Nat} {w0 : World} {H : List Res} {K0 : WP} {t : TypeId} {n : Nat} {z : Value} [h : TG t n z] {b o : Nat} {xs : Array Value} {l : List Rd} (hc : rowN w0 b o n = some xs.toList) (hS : b ∉ S) :
    TW κ S w0 H (watch PR ((none, Instr.loadAt t (.pointer (some ⟨b, o, none⟩)), .agg xs) :: l) K0) = TW κ S w0 H (watch PR l K0) := by
  obtain ⟨_, _, h, hd⟩ := h.ti
  refine T_watch fun w hw => ?_
  have h2 := rowN_len hc
  have := run_loadN h hd h2.1 (hw.ks.row hS h2.2)
  simpa using this
theorem encSh_plain {ts : List ShV} (h : ∀ t ∈ ts, ∃ a n c, t.1.1 = .slice a n c) : (ts.flatMap encSh).all plain = true := by
  rw [List.all_eq_true]; intro v hv
  obtain ⟨t, ht, hv⟩ := List.mem_flatMap.1 hv
  obtain ⟨a, n, c, e⟩ := h t ht
  simp only [encSh, List.mem_cons, List.not_mem_nil, or_false] at hv
  rcases hv with rfl | rfl
  · rw [e]; rfl
  · rfl
theorem mCopy_ok (w : World) (b : Nat) (c : CfgV) (pv sv : Value) (p : List BkV) (ts : List ShV) (hp : p.length ≤ 1000) (hts : ts.length ≤ 1000) (hc : rowN w b 0 5 = some [.int .i64 c.wk, .int .i64 c.sh, .int .i64 c.cp, .int .i64 c.idle, .int .i64 c.sl])
    (h5 : w.cell? ⟨b, 5, none⟩ = some pv) (h6 : w.cell? ⟨b, 6, none⟩ = some sv) (hpv : Rd1 w pv p.length (p.flatMap encB)) (hsv : Rd1 w sv ts.length (ts.flatMap encSh)) (htab : ∀ t ∈ ts, Rd1 w t.1.1 t.1.2.length (t.1.2.flatMap encE)) (hlen : ∀ t ∈ ts, t.1.2.length ≤ 1000000) :
    Fn PR NoX 40 #[.pointer (some ⟨b, 0, none⟩)] w (Rn [] w (fun (m : MoH) u => u = .pointer (some ⟨m.b, 0, none⟩) ∧ m.c = c ∧ m.pool = p ∧ m.ts.map (fun t => (t.1.2, t.2)) = ts.map fun t => (t.1.2, t.2)) modH) := by
  refine mk_model_Model_Copy (TW.go (κ := false) (S := []) ?_)
  unfold sh_model_Model_Copy
  (have hQq : True := trivial; repeat ((first | clear hQq | (with_reducible first | refine T_drw ?_ | refine T_bx fun _ => ?_ | refine s_al fun _ => ?_ | refine s_bs0 fun _ => ?_ | refine s_bs1 (hK := fun _ => ?_) | refine s_bs2 (hK := fun _ => ?_) | refine s_bs3 (hK := fun _ => ?_) | refine s_bs5 (hK := fun _ => ?_) | refine s_bs6 (hK := fun _ => ?_))); (try simp (disch := first | omega | assumption | ((repeat (first | exact mem_h | exact Up.here | apply mem_t | apply Up.there)); first | done | fail) | (simp; first | done | omega | fail)) [hc, h6])))
  refine T_cn ent_model_Model_Pool (fun w' hw' => mPool_ok w' b pv p (by omega) (hw'.ks.cell (by simp) h5) (hpv.ks hw'.ks (by simp))) ?_
  intro _ rp hu
  subst hu
  rw [s_watch_old h6 (by simp), s_watchN_old (by simpa using hc) (by simp)]
  (have hQq : True := trivial; repeat ((first | clear hQq | (with_reducible first | refine T_drw ?_ | refine T_bx fun _ => ?_ | refine s_al fun _ => ?_ | refine s_bs0 fun _ => ?_ | refine s_bs1 (hK := fun _ => ?_) | refine s_bs2 (hK := fun _ => ?_) | refine s_bs3 (hK := fun _ => ?_) | refine s_bs5 (hK := fun _ => ?_) | refine s_bs6 (hK := fun _ => ?_))); (try simp (disch := first | omega | assumption | ((repeat (first | exact mem_h | exact Up.here | apply mem_t | apply Up.there)); first | done | fail) | (simp; first | done | omega | fail)) [])))
  refine T_cn ent_slices_Clone_model_shard_model_shard (fun w' hw' => CloneS_ok w' sv ts.length (ts.flatMap encSh) (by omega) (flat_len (k := 2) (fun _ => rfl) ts) (encSh_plain fun t ht => by obtain ⟨a, c, e, _⟩ := (htab t ht).form; exact ⟨a, _, c, e⟩) (hsv.ks hw'.ks (by simp))) ?_
  intro _ rs hu
  subst hu
  rw [s_watchN_old (by simpa using hc) (by simp)]
  refine T_open (e := 103) (k := 2) (v := rp) (q := p.length) (xs := p.flatMap encB) (by ((repeat (first | exact mem_h | exact Up.here | exact Sel.here | apply mem_t | apply Up.there | apply Sel.there)); first | done | fail)) fun hr1 hr2 hr3 => ?_
  refine T_opn (e := 113) (k := 2) (v := rs) (q := ts.length) (xs := ts.flatMap encSh) (by ((repeat (first | exact mem_h | exact Up.here | exact Sel.here | apply mem_t | apply Up.there | apply Sel.there)); first | done | fail)) fun ra rc hr => ?_
  subst hr
  (have hQq : True := trivial; repeat ((first | clear hQq | (with_reducible first | refine T_drw ?_ | refine T_bx fun _ => ?_ | refine s_al fun _ => ?_ | refine s_bs0 fun _ => ?_ | refine s_bs1 (hK := fun _ => ?_) | refine s_bs2 (hK := fun _ => ?_) | refine s_bs3 (hK := fun _ => ?_) | refine s_bs5 (hK := fun _ => ?_) | refine s_bs6 (hK := fun _ => ?_))); (try simp (disch := first | omega | assumption | ((repeat (first | exact mem_h | exact Up.here | apply mem_t | apply Up.there)); first | done | fail) | (simp; first | done | omega | fail)) [hr1, hr2, hr3])))
  rename_i bm
  refine T_tabNil ?_
  refine T_for0x ts.length (fun i (x : List ShV) => [tabR ((x.map (·.1)).take i), .pt bm (.cells #[.int .i64 c.wk, .int .i64 c.sh, .int .i64 c.cp, .int .i64 c.idle, .int .i64 c.sl, rp, .slice ra ts.length rc] 109),
    .own 113 2 (.slice ra ts.length rc) ts.length (x.flatMap encSh), .own 103 2 rp p.length (p.flatMap encB)])
    (fun i x => x.length = ts.length ∧ x.drop i = ts.drop i ∧ x.map (fun t => (t.1.2, t.2)) = ts.map fun t => (t.1.2, t.2)) ts ⟨rfl, rfl, rfl⟩ ?_
  rintro i x hi ⟨hlen', hdrop, hmap⟩ L hL
  by_cases hlt : i < ts.length
  · refine T_ptr (v := .slice ra ts.length rc) (by ((repeat (first | exact mem_h | exact Up.here | exact Sel.here | apply mem_t | apply Up.there | apply Sel.there)); first | done | fail)) (by omega) fun g gc hg => ?_
    cases hg
    (have hQq : True := trivial; repeat ((first | clear hQq | (with_reducible first | refine T_drw ?_ | refine T_bx fun _ => ?_ | refine s_al fun _ => ?_ | refine s_bs0 fun _ => ?_ | refine s_bs1 (hK := fun _ => ?_) | refine s_bs2 (hK := fun _ => ?_) | refine s_bs3 (hK := fun _ => ?_) | refine s_bs5 (hK := fun _ => ?_) | refine s_bs6 (hK := fun _ => ?_))); (try simp (disch := first | omega | assumption | ((repeat (first | exact mem_h | exact Up.here | apply mem_t | apply Up.there)); first | done | fail) | (simp; first | done | omega | fail)) [hlt])))
    have hxi : x[i]? = ts[i]? := by
      have := congrArg (·[0]?) hdrop
      simpa using this
    have hti : ts[i]? = some ts[i] := List.getElem?_eq_getElem hlt
    generalize ts[i] = y at hti
    obtain ⟨⟨v0, l0⟩, n0⟩ := y
    rw [hti] at hxi
    have htv : tableV ts i = l0 := by
      unfold tableV
      rw [if_neg (by omega), Int.toNat_natCast, List.getD_eq_getElem?_getD, hti]; rfl
    refine T_cn ent_model_Model_Table (fun w' hw' => mTable_ok w' b sv ts i hts (hw'.ks.cell (by simp) h6) (hsv.ks hw'.ks (by simp)) (fun t ht => (htab t ht).ks hw'.ks (by simp)) hlen) ?_
    intro _ r hr
    subst hr
    rw [htv]
    refine T_open (e := 71) (k := 4) (v := r) (q := l0.length) (xs := l0.flatMap encE) (by ((repeat (first | exact mem_h | exact Up.here | exact Sel.here | apply mem_t | apply Up.there | apply Sel.there)); first | done | fail)) fun hr1 hr2 hr3 => ?_
    (have hQq : True := trivial; repeat ((first | clear hQq | (with_reducible first | refine T_drw ?_ | refine T_bx fun _ => ?_ | refine s_al fun _ => ?_ | refine s_bs0 fun _ => ?_ | refine s_bs1 (hK := fun _ => ?_) | refine s_bs2 (hK := fun _ => ?_) | refine s_bs3 (hK := fun _ => ?_) | refine s_bs5 (hK := fun _ => ?_) | refine s_bs6 (hK := fun _ => ?_))); (try simp (disch := first | omega | assumption | ((repeat (first | exact mem_h | exact Up.here | apply mem_t | apply Up.there)); first | done | fail) | (simp; first | done | omega | fail)) [hlt])))
    refine s_st_own (by ((repeat (first | exact mem_h | exact Up.here | exact Sel.here | apply mem_t | apply Up.there | apply Sel.there)); first | done | fail)) (by simp [hr1]) (by rw [flat_len (k := 2) fun _ => rfl]; omega) (by simp [hr3]) ?_
    have hset : setL (x.flatMap encSh) (i * 2) [r] = (x.set i ((r, l0), n0)).flatMap encSh := set_sh (e' := l0) hxi
    have hr4 : r.cells.toList = [r] := by rw [hr1]
    rw [hr4, hset]
    refine T_tabPush (r := r) (l := l0) (by ((repeat (first | exact Part.nil | (apply Part.cons; · ((repeat (first | exact mem_h | exact Up.here | exact Sel.here | apply mem_t | apply Up.there | apply Sel.there)); first | done | fail)))); first | done | fail)) ?_
    (have hQq : True := trivial; repeat ((first | clear hQq | (with_reducible first | refine T_drw ?_ | refine T_bx fun _ => ?_ | refine s_al fun _ => ?_ | refine s_bs0 fun _ => ?_ | refine s_bs1 (hK := fun _ => ?_) | refine s_bs2 (hK := fun _ => ?_) | refine s_bs3 (hK := fun _ => ?_) | refine s_bs5 (hK := fun _ => ?_) | refine s_bs6 (hK := fun _ => ?_))); (try simp (disch := first | omega | assumption | ((repeat (first | exact mem_h | exact Up.here | apply mem_t | apply Up.there)); first | done | fail) | (simp; first | done | omega | fail)) [])))
    have htk : ((x.set i ((r, l0), n0)).map (·.1)).take (i + 1) = (x.map (·.1)).take i ++ [(r, l0)] := by
      rw [← List.map_take, ← List.map_take, List.take_add_one, List.getElem?_set_self (by omega), List.take_set_of_le (Nat.le_refl _)]; simp
    have h := hL hlt (x.set i ((r, l0), n0)) ⟨by simp [hlen'], by
      rw [List.drop_set_of_lt (by omega), ← List.drop_drop, ← List.drop_drop, hdrop], by
      rw [List.map_set, ← hmap]
      refine List.ext_getElem? fun q => ?_
      by_cases e : q = i
      · subst e; rw [List.getElem?_set_self (by simp; omega), List.getElem?_map, hxi]; rfl
      · rw [List.getElem?_set_ne (Ne.symm e)]⟩
    rw [htk] at h
    exact Sels.tw (by ((repeat (first | exact Sels.nil | (apply Sels.cons; · ((repeat (first | exact mem_h | exact Up.here | exact Sel.here | apply mem_t | apply Up.there | apply Sel.there)); first | done | fail)))); first | done | fail)) h
  · obtain rfl : i = ts.length := by omega
    (have hQq : True := trivial; repeat ((first | clear hQq | (with_reducible first | refine T_drw ?_ | refine T_bx fun _ => ?_ | refine s_al fun _ => ?_ | refine s_bs0 fun _ => ?_ | refine s_bs1 (hK := fun _ => ?_) | refine s_bs2 (hK := fun _ => ?_) | refine s_bs3 (hK := fun _ => ?_) | refine s_bs5 (hK := fun _ => ?_) | refine s_bs6 (hK := fun _ => ?_))); (try simp (disch := first | omega | assumption | ((repeat (first | exact mem_h | exact Up.here | apply mem_t | apply Up.there)); first | done | fail) | (simp; first | done | omega | fail)) [])))
    refine T_rets ⟨bm, rp, .slice ra ts.length rc, c, p, x⟩ ⟨rfl, rfl, rfl, hmap⟩ ?_
    rw [List.take_of_length_le (by simp [hlen'])]
    simp only [modH, hlen']
    ((repeat (first | exact Sels.nil | (apply Sels.cons; · ((repeat (first | exact mem_h | exact Up.here | exact Sel.here | apply mem_t | apply Up.there | apply Sel.there)); first | done | fail)))); first | done | fail)
end Go.Proofs.YtggakcpabomliaaGreat
namespace Go.Proofs.YtggakcpabomliaaGreat
open Go
theorem T_copy {S : List Nat} {w0 : World} {H Hk : List Res} {K : Value → WP} {m : MoH} {c : CfgV} (hi : Inv c m.st) (hp : Part (modH m) H Hk) (hK : ∀ m2 : MoH, m2.st = m.st → Inv c m2.st → TW false S w0 (modH m2 ++ (modH m ++ Hk)) (K (.pointer (some ⟨m2.b, 0, none⟩)))) :
    TW false S w0 H (cal PR NoX 40 [.pointer (some ⟨m.b, 0, none⟩)] K) := by
  have hb := cfg_bounds hi.ok
  refine TW.perm ?_ hp.perm
  refine T_cn ent_model_Model_Copy (fun w' hw' => mCopy_ok w' m.b m.c m.pv m.sv m.pool m.ts hi.ok2.pool hi.ok2.few (rowN_bl (by rfl) (Row.bl (hw'.pt (List.mem_append_left _ mo_pt)))) (mo_pv hw' fun r hr => List.mem_append_left _ hr) (mo_sv hw' fun r hr => List.mem_append_left _ hr)
    (mo_rp hw' fun r hr => List.mem_append_left _ hr) (mo_rs hw' fun r hr => List.mem_append_left _ hr) (mo_tab hw' fun r hr => List.mem_append_left _ hr) hi.ok2.len) ?_
  rintro m2 _ ⟨rfl, h1, h2, h3⟩
  have e : m2.st = m.st := by unfold MoH.st; rw [h1, h2, h3]
  exact hK m2 e (by rw [e]; exact hi)
/-- what fails, or but counts, changes nothing -/
def Alike (s t : MoS) : Prop := s.pool = t.pool ∧ ∀ k, tabAt s k = tabAt t k
theorem decide_err {l : List EnV} {p : List BkV} {key : ByteArray} {closing : Bool} {now idle : Int} (h : (decideV l p key closing now idle).2.1.err ≠ 0) : (decideV l p key closing now idle).1 = l := by
  unfold decideV at h ⊢
  by_cases c : (knownV l p key now).2 = false ∧ p = []
  · rw [if_pos c]
  · rw [if_neg c] at h ⊢
    cases closing with
    | true => simp at h
    | false =>
      cases hp : putE l (newX l p key now idle) with
      | none => rfl
      | some u => rw [hp] at h; simp at h
theorem set_same {ts : List (List EnV × Nat)} {i : Nat} {t : List EnV × Nat} (h : ts.getD i ([], 0) = t) : ts.set i t = ts := by
  by_cases c : i < ts.length
  · have : ts[i] = t := by rw [List.getD_eq_getElem?_getD, List.getElem?_eq_getElem c] at h; exact h
    rw [← this, List.set_getElem_self]
  · exact List.set_eq_of_length_le (by omega)
theorem fails_law (s : MoS) (o : OpV) (now : Int) : ((doV s o now).2.err ≠ 0 → Alike (doV s o now).1 s) ∧ (o.kind = 3 → Alike (doV s o now).1 s) ∧ (o.kind = 2 → (doV s o now).2.count ≤ 4) := by
  refine ⟨fun he => ?_, fun hk => ?_, fun hk => ?_⟩
  · have e : (doV s o now).1 = s := by
      unfold doV at he ⊢
      split
      · rw [if_pos ‹_›] at he
        unfold dispV at he ⊢
        simp only at he ⊢
        split
        · rfl
        · rw [if_neg ‹_›] at he
          simp only at he
          have := decide_err he
          obtain ⟨sc, sp, st⟩ := s
          simp only at this ⊢
          rw [this]
          congr 1
          exact set_same rfl
      rw [if_neg ‹_›] at he
      split
      · rw [if_pos ‹_›] at he
        unfold updV at he ⊢
        split
        · rw [if_pos ‹_›] at he; simp at he
        · rfl
      rw [if_neg ‹_›] at he
      split
      · rw [if_pos ‹_›] at he
        unfold expV at he ⊢
        split
        · rfl
        · rw [if_neg ‹_›] at he; simp at he
      split <;> rfl
    rw [e]; exact ⟨rfl, fun _ => rfl⟩
  · rw [do_stat _ _ _ hk]; exact ⟨rfl, fun _ => rfl⟩
  · rw [do_exp _ _ _ hk]
    unfold expV
    split
    · simp
    · have := sweepV_le (s.tabs.getD o.shard.toNat ([], 0)).1 (s.tabs.getD o.shard.toNat ([], 0)).2 4 now
      simp only
      omega
theorem ModelFails_ok (w : World) (c : CfgV) (lv : Value) (l : List StA) (s : StA) (hn : l.length ≤ 9223372036854775807) (hv : Rd1 w lv l.length (l.flatMap encS)) (hs : ∀ x ∈ l, PoolRd w x) (hs1 : PoolRd w s) :
    Fn PR NoX 9 #[c.val, lv, .agg (encS s).toArray] w (fun v w' => v = .bool true ∧ But [] w w') := by
  refine Fn.pure (mk_gangplanklaw17_ModelFails (TW.go (κ := false) (S := []) ?_))
  unfold sh_gangplanklaw17_ModelFails
  obtain ⟨la, lc, rfl, hr⟩ := hv.form
  obtain ⟨pa, pc, hpl⟩ := hs1.sl
  simp only [CfgV.val, encS, hpl]
  (have hQq : True := trivial; repeat ((first | clear hQq | (with_reducible first | refine T_drw ?_ | refine T_bx fun _ => ?_ | refine s_al fun _ => ?_ | refine s_bs0 fun _ => ?_ | refine s_bs1 (hK := fun _ => ?_) | refine s_bs2 (hK := fun _ => ?_) | refine s_bs3 (hK := fun _ => ?_) | refine s_bs5 (hK := fun _ => ?_) | refine s_bs6 (hK := fun _ => ?_))); (try simp (disch := first | omega | assumption | ((repeat (first | exact mem_h | exact Up.here | apply mem_t | apply Up.there)); first | done | fail) | (simp; first | done | omega | fail)) [])))
  rename_i bc bs
  refine T_cv ent_gangplanklaw17_works (fun w' _ => works17_ok w') ?_
  (have hQq : True := trivial; repeat ((first | clear hQq | (with_reducible first | refine T_drw ?_ | refine T_bx fun _ => ?_ | refine s_al fun _ => ?_ | refine s_bs0 fun _ => ?_ | refine s_bs1 (hK := fun _ => ?_) | refine s_bs2 (hK := fun _ => ?_) | refine s_bs3 (hK := fun _ => ?_) | refine s_bs5 (hK := fun _ => ?_) | refine s_bs6 (hK := fun _ => ?_))); (try simp (disch := first | omega | assumption | ((repeat (first | exact mem_h | exact Up.here | apply mem_t | apply Up.there)); first | done | fail) | (simp; first | done | omega | fail)) [])))
  refine T_cv ent_gangplanklaw17_few (fun w' hw' => few_ok w' c _ l hn (hv.ks hw'.ks (by simp)) fun x hx => (hs x hx).sl) ?_
  cases hf : fewS c (l.map (·.1.1)) with
  | false => (have hQq : True := trivial; repeat ((first | clear hQq | (with_reducible first | refine T_drw ?_ | refine T_bx fun _ => ?_ | refine s_al fun _ => ?_ | refine s_bs0 fun _ => ?_ | refine s_bs1 (hK := fun _ => ?_) | refine s_bs2 (hK := fun _ => ?_) | refine s_bs3 (hK := fun _ => ?_) | refine s_bs5 (hK := fun _ => ?_) | refine s_bs6 (hK := fun _ => ?_))); (try simp (disch := first | omega | assumption | ((repeat (first | exact mem_h | exact Up.here | apply mem_t | apply Up.there)); first | done | fail) | (simp; first | done | omega | fail)) []))); exact T_ret rfl
  | true =>
  (have hQq : True := trivial; repeat ((first | clear hQq | (with_reducible first | refine T_drw ?_ | refine T_bx fun _ => ?_ | refine s_al fun _ => ?_ | refine s_bs0 fun _ => ?_ | refine s_bs1 (hK := fun _ => ?_) | refine s_bs2 (hK := fun _ => ?_) | refine s_bs3 (hK := fun _ => ?_) | refine s_bs5 (hK := fun _ => ?_) | refine s_bs6 (hK := fun _ => ?_))); (try simp (disch := first | omega | assumption | ((repeat (first | exact mem_h | exact Up.here | apply mem_t | apply Up.there)); first | done | fail) | (simp; first | done | omega | fail)) [])))
  rename_i bo
  refine T_cv ent_gangplanklaw17_few (fun w' hw' => few_ok w' c _ [s] (by simp) (by
    have h := RdT.own (e := 44) (k := 5) (q := 1) (v := .slice (some ⟨bo, 0, none⟩) 1 1) (xs := encS s) (by simp only [encS, hpl]; ((repeat (first | exact mem_h | exact Up.here | exact Sel.here | apply mem_t | apply Up.there | apply Sel.there)); first | done | fail)) w' hw'
    simpa using h) (by simp; exact hs1.sl)) ?_
  cases hf1 : fewS c ([s].map (·.1.1)) with
  | false => (have hQq : True := trivial; repeat ((first | clear hQq | (with_reducible first | refine T_drw ?_ | refine T_bx fun _ => ?_ | refine s_al fun _ => ?_ | refine s_bs0 fun _ => ?_ | refine s_bs1 (hK := fun _ => ?_) | refine s_bs2 (hK := fun _ => ?_) | refine s_bs3 (hK := fun _ => ?_) | refine s_bs5 (hK := fun _ => ?_) | refine s_bs6 (hK := fun _ => ?_))); (try simp (disch := first | omega | assumption | ((repeat (first | exact mem_h | exact Up.here | apply mem_t | apply Up.there)); first | done | fail) | (simp; first | done | omega | fail)) []))); exact T_ret rfl
  | true =>
  (have hQq : True := trivial; repeat ((first | clear hQq | (with_reducible first | refine T_drw ?_ | refine T_bx fun _ => ?_ | refine s_al fun _ => ?_ | refine s_bs0 fun _ => ?_ | refine s_bs1 (hK := fun _ => ?_) | refine s_bs2 (hK := fun _ => ?_) | refine s_bs3 (hK := fun _ => ?_) | refine s_bs5 (hK := fun _ => ?_) | refine s_bs6 (hK := fun _ => ?_))); (try simp (disch := first | omega | assumption | ((repeat (first | exact mem_h | exact Up.here | apply mem_t | apply Up.there)); first | done | fail) | (simp; first | done | omega | fail)) [])))
  obtain ⟨hc6, hl12, hfo⟩ := fewS_iff hf
  obtain ⟨_, _, hfo1⟩ := fewS_iff hf1
  refine T_new (c := c) (fun h0 => ?_) fun m hok hst hi => ?_
  · (have hQq : True := trivial; repeat ((first | clear hQq | (with_reducible first | refine T_drw ?_ | refine T_bx fun _ => ?_ | refine s_al fun _ => ?_ | refine s_bs0 fun _ => ?_ | refine s_bs1 (hK := fun _ => ?_) | refine s_bs2 (hK := fun _ => ?_) | refine s_bs3 (hK := fun _ => ?_) | refine s_bs5 (hK := fun _ => ?_) | refine s_bs6 (hK := fun _ => ?_))); (try simp (disch := first | omega | assumption | ((repeat (first | exact mem_h | exact Up.here | apply mem_t | apply Up.there)); first | done | fail) | (simp; first | done | omega | fail)) [])))
    exact T_ret rfl
  (have hQq : True := trivial; repeat ((first | clear hQq | (with_reducible first | refine T_drw ?_ | refine T_bx fun _ => ?_ | refine s_al fun _ => ?_ | refine s_bs0 fun _ => ?_ | refine s_bs1 (hK := fun _ => ?_) | refine s_bs2 (hK := fun _ => ?_) | refine s_bs3 (hK := fun _ => ?_) | refine s_bs5 (hK := fun _ => ?_) | refine s_bs6 (hK := fun _ => ?_))); (try simp (disch := first | omega | assumption | ((repeat (first | exact mem_h | exact Up.here | apply mem_t | apply Up.there)); first | done | fail) | (simp; first | done | omega | fail)) [])))
  have hl : l.length ≤ 12 := by simpa using hl12
  refine T_doall hv hs hl hfo hi fun m1 hb1 hst1 hi1 => ?_
  rw [← hb1]
  clear hst hi hb1 hst1
  have hcb := cfg_bounds hok
  have hsh := hi1.sh
  obtain ⟨n, hnsh⟩ : ∃ n : Nat, c.sh = n := ⟨c.sh.toNat, by omega⟩
  have hfs := hfo1 s.1.1 (by simp)
  (have hQq : True := trivial; repeat ((first | clear hQq | (with_reducible first | refine T_drw ?_ | refine T_bx fun _ => ?_ | refine s_al fun _ => ?_ | refine s_bs0 fun _ => ?_ | refine s_bs1 (hK := fun _ => ?_) | refine s_bs2 (hK := fun _ => ?_) | refine s_bs3 (hK := fun _ => ?_) | refine s_bs5 (hK := fun _ => ?_) | refine s_bs6 (hK := fun _ => ?_))); (try simp (disch := first | omega | assumption | ((repeat (first | exact mem_h | exact Up.here | apply mem_t | apply Up.there)); first | done | fail) | (simp; first | done | omega | fail)) [])))
  refine T_copy hi1 part_pre fun m2 hst2 hi2 => ?_
  simp only [modH, List.cons_append, List.nil_append]
  (have hQq : True := trivial; repeat ((first | clear hQq | (with_reducible first | refine T_drw ?_ | refine T_bx fun _ => ?_ | refine s_al fun _ => ?_ | refine s_bs0 fun _ => ?_ | refine s_bs1 (hK := fun _ => ?_) | refine s_bs2 (hK := fun _ => ?_) | refine s_bs3 (hK := fun _ => ?_) | refine s_bs5 (hK := fun _ => ?_) | refine s_bs6 (hK := fun _ => ?_))); (try simp (disch := first | omega | assumption | ((repeat (first | exact mem_h | exact Up.here | apply mem_t | apply Up.there)); first | done | fail) | (simp; first | done | omega | fail)) [])))
  refine T_do (o := s.1.1) (v := .slice pa s.1.1.pool.length pc) (now := s.2) _ hi2 (by simp only [modH]; ((repeat (first | exact Part.nil | (apply Part.cons; · ((repeat (first | exact mem_h | exact Up.here | exact Sel.here | apply mem_t | apply Up.there | apply Sel.there)); first | done | fail)))); first | done | fail)) (fun w' hw' => poolAt_old hw' (by rw [← hpl]; exact hs1) (by omega)) (by omega) rfl fun m3 hb3 hst3 hi3 => ?_
  rw [hst2] at hst3 ⊢
  rw [← hb3]
  clear hb3
  have hlaw := fails_law m1.st s.1.1 s.2
  rw [← hst3] at hlaw
  simp only [modH, List.cons_append, List.nil_append]
  (have hQq : True := trivial; repeat ((first | clear hQq | (with_reducible first | refine T_drw ?_ | refine T_bx fun _ => ?_ | refine s_al fun _ => ?_ | refine s_bs0 fun _ => ?_ | refine s_bs1 (hK := fun _ => ?_) | refine s_bs2 (hK := fun _ => ?_) | refine s_bs3 (hK := fun _ => ?_) | refine s_bs5 (hK := fun _ => ?_) | refine s_bs6 (hK := fun _ => ?_))); (try simp (disch := first | omega | assumption | ((repeat (first | exact mem_h | exact Up.here | apply mem_t | apply Up.there)); first | done | fail) | (simp; first | done | omega | fail)) [AnsV.val])))
  obtain ⟨l1, l3, l2⟩ := hlaw
  have hp1 : m1.pool.length ≤ 1000 := hi1.ok2.pool
  have hp3 : m3.pool.length ≤ 1000 := hi3.ok2.pool
  refine T_pool hi3 (by simp only [modH]; ((repeat (first | exact Part.nil | (apply Part.cons; · ((repeat (first | exact mem_h | exact Up.here | exact Sel.here | apply mem_t | apply Up.there | apply Sel.there)); first | done | fail)))); first | done | fail)) fun r1 => ?_
  simp only [modH, List.cons_append, List.nil_append]
  refine T_pool hi1 (by simp only [modH]; ((repeat (first | exact Part.nil | (apply Part.cons; · ((repeat (first | exact mem_h | exact Up.here | exact Sel.here | apply mem_t | apply Up.there | apply Sel.there)); first | done | fail)))); first | done | fail)) fun r2 => ?_
  refine T_cv ent_pool_Same (fun w' hw' => poolSame_ok w' r1 r2 m3.pool m1.pool (by omega) (by omega) (RdT.own (by simp only [modH, List.cons_append, List.nil_append]; ((repeat (first | exact mem_h | exact Up.here | exact Sel.here | apply mem_t | apply Up.there | apply Sel.there)); first | done | fail)) w' hw') (RdT.own mem_h w' hw')) ?_
  rename_i ba
  simp only [modH, List.cons_append, List.nil_append]
  refine T_drop (by ((repeat (first | exact mem_h | exact Up.here | exact Sel.here | apply mem_t | apply Up.there | apply Sel.there)); first | done | fail)) ?_
  refine T_drop (r := .own 103 2 r1 m3.pool.length (m3.pool.flatMap encB)) (by ((repeat (first | exact mem_h | exact Up.here | exact Sel.here | apply mem_t | apply Up.there | apply Sel.there)); first | done | fail)) ?_
  have htab : ∀ (m : MoH) (hi : Inv c m.st) (i : Nat), (i : Int) < c.sh → tableV m.ts i = tabAt m.st i ∧ (tabAt m.st i).length ≤ 1000000 := fun m hi i hlt => by
    have hsh := hi.sh
    refine ⟨tableV_at (by omega), ?_⟩
    have := hi.tab _ (List.mem_of_getElem? (hi.at (i := i) (by omega)))
    have h2 := this.len
    have h3 := this.few
    unfold tabAt
    omega
  obtain ⟨Hs, hHs⟩ : ∃ Hs, Hs = [.pt m3.b (.cells #[.int .i64 m3.c.wk, .int .i64 m3.c.sh, .int .i64 m3.c.cp, .int .i64 m3.c.idle, .int .i64 m3.c.sl, m3.pv, m3.sv] 109),
      .own 103 2 m3.pv m3.pool.length (m3.pool.flatMap encB), .own 113 2 m3.sv m3.ts.length (m3.ts.flatMap encSh), tabR (m3.ts.map (·.1)),
      .pt m1.b (.cells #[.int .i64 m1.c.wk, .int .i64 m1.c.sh, .int .i64 m1.c.cp, .int .i64 m1.c.idle, .int .i64 m1.c.sl, m1.pv, m1.sv] 109),
      .own 103 2 m1.pv m1.pool.length (m1.pool.flatMap encB), .own 113 2 m1.sv m1.ts.length (m1.ts.flatMap encSh), tabR (m1.ts.map (·.1)),
      .pt ba (.cells #[.int .i64 (doV m1.st s.1.1 s.2).2.err, .int .i64 (doV m1.st s.1.1 s.2).2.bk, .bool (doV m1.st s.1.1 s.2).2.made, .int .i64 (doV m1.st s.1.1 s.2).2.count] 39),
      .pt bs (.cells #[.int .i64 s.1.1.kind, .string s.1.1.packet, .slice pa s.1.1.pool.length pc, .int .i64 s.1.1.shard, .int .i64 s.2] 44),
      .pt bc (.cells #[.int .i64 c.wk, .int .i64 c.sh, .int .i64 c.cp, .int .i64 c.idle, .int .i64 c.sl] 23)] := ⟨_, rfl⟩
  (have hQq : True := trivial; repeat ((first | clear hQq | (with_reducible first | refine T_drw ?_ | refine T_bx fun _ => ?_ | refine s_al fun _ => ?_ | refine s_bs0 fun _ => ?_ | refine s_bs1 (hK := fun _ => ?_) | refine s_bs2 (hK := fun _ => ?_) | refine s_bs3 (hK := fun _ => ?_) | refine s_bs5 (hK := fun _ => ?_) | refine s_bs6 (hK := fun _ => ?_))); (try simp (disch := first | omega | assumption | ((repeat (first | exact mem_h | exact Up.here | apply mem_t | apply Up.there)); first | done | fail) | (simp; first | done | omega | fail)) [])))
  refine Sels.tw (rs := Hs) (by subst hHs; ((repeat (first | exact Sels.nil | (apply Sels.cons; · ((repeat (first | exact mem_h | exact Up.here | exact Sel.here | apply mem_t | apply Up.there | apply Sel.there)); first | done | fail)))); first | done | fail)) ?_
  refine T_for1 n (fun i (b : Bool) => .bool b) (fun i b => Hs) (fun i b => Alike m3.st m1.st → b = true) (decide (m3.pool = m1.pool)) (fun h => decide_eq_true (show m3.pool = m1.pool from h.1)) ?_
  subst hHs
  rintro i b hin hb L hL
  by_cases hlt : i < n
  · have hlt' : (i : Int) < c.sh := by omega
    obtain ⟨q1, q2⟩ := htab m3 hi3 i hlt'
    obtain ⟨q3, q4⟩ := htab m1 hi1 i hlt'
    cases b with
    | true =>
      (have hQq : True := trivial; repeat ((first | clear hQq | (with_reducible first | refine T_drw ?_ | refine T_bx fun _ => ?_ | refine s_al fun _ => ?_ | refine s_bs0 fun _ => ?_ | refine s_bs1 (hK := fun _ => ?_) | refine s_bs2 (hK := fun _ => ?_) | refine s_bs3 (hK := fun _ => ?_) | refine s_bs5 (hK := fun _ => ?_) | refine s_bs6 (hK := fun _ => ?_))); (try simp (disch := first | omega | assumption | ((repeat (first | exact mem_h | exact Up.here | apply mem_t | apply Up.there)); first | done | fail) | (simp; first | done | omega | fail)) [hlt'])))
      refine T_table hi3 (by simp only [modH]; ((repeat (first | exact Part.nil | (apply Part.cons; · ((repeat (first | exact mem_h | exact Up.here | exact Sel.here | apply mem_t | apply Up.there | apply Sel.there)); first | done | fail)))); first | done | fail)) fun r1 => ?_
      simp only [modH, List.cons_append, List.nil_append]
      (have hQq : True := trivial; repeat ((first | clear hQq | (with_reducible first | refine T_drw ?_ | refine T_bx fun _ => ?_ | refine s_al fun _ => ?_ | refine s_bs0 fun _ => ?_ | refine s_bs1 (hK := fun _ => ?_) | refine s_bs2 (hK := fun _ => ?_) | refine s_bs3 (hK := fun _ => ?_) | refine s_bs5 (hK := fun _ => ?_) | refine s_bs6 (hK := fun _ => ?_))); (try simp (disch := first | omega | assumption | ((repeat (first | exact mem_h | exact Up.here | apply mem_t | apply Up.there)); first | done | fail) | (simp; first | done | omega | fail)) [])))
      refine T_table hi1 (by simp only [modH]; ((repeat (first | exact Part.nil | (apply Part.cons; · ((repeat (first | exact mem_h | exact Up.here | exact Sel.here | apply mem_t | apply Up.there | apply Sel.there)); first | done | fail)))); first | done | fail)) fun r2 => ?_
      rw [q1, q3]
      (have hQq : True := trivial; repeat ((first | clear hQq | (with_reducible first | refine T_drw ?_ | refine T_bx fun _ => ?_ | refine s_al fun _ => ?_ | refine s_bs0 fun _ => ?_ | refine s_bs1 (hK := fun _ => ?_) | refine s_bs2 (hK := fun _ => ?_) | refine s_bs3 (hK := fun _ => ?_) | refine s_bs5 (hK := fun _ => ?_) | refine s_bs6 (hK := fun _ => ?_))); (try simp (disch := first | omega | assumption | ((repeat (first | exact mem_h | exact Up.here | apply mem_t | apply Up.there)); first | done | fail) | (simp; first | done | omega | fail)) [])))
      refine T_cv ent_probe_Same (fun w' hw' => probeSame_ok w' r1 r2 (tabAt m3.st i) (tabAt m1.st i) q2 q4 (RdT.own (by simp only [modH, List.cons_append, List.nil_append]; ((repeat (first | exact mem_h | exact Up.here | exact Sel.here | apply mem_t | apply Up.there | apply Sel.there)); first | done | fail)) w' hw') (RdT.own mem_h w' hw')) ?_
      simp only [modH, List.cons_append, List.nil_append]
      (have hQq : True := trivial; repeat ((first | clear hQq | (with_reducible first | refine T_drw ?_ | refine T_bx fun _ => ?_ | refine s_al fun _ => ?_ | refine s_bs0 fun _ => ?_ | refine s_bs1 (hK := fun _ => ?_) | refine s_bs2 (hK := fun _ => ?_) | refine s_bs3 (hK := fun _ => ?_) | refine s_bs5 (hK := fun _ => ?_) | refine s_bs6 (hK := fun _ => ?_))); (try simp (disch := first | omega | assumption | ((repeat (first | exact mem_h | exact Up.here | apply mem_t | apply Up.there)); first | done | fail) | (simp; first | done | omega | fail)) [])))
      exact Sels.tw (by ((repeat (first | exact Sels.nil | (apply Sels.cons; · ((repeat (first | exact mem_h | exact Up.here | exact Sel.here | apply mem_t | apply Up.there | apply Sel.there)); first | done | fail)))); first | done | fail)) (hL hlt (decide (tabAt m3.st i = tabAt m1.st i)) fun h => by simpa using h.2 i)
    | false =>
      (have hQq : True := trivial; repeat ((first | clear hQq | (with_reducible first | refine T_drw ?_ | refine T_bx fun _ => ?_ | refine s_al fun _ => ?_ | refine s_bs0 fun _ => ?_ | refine s_bs1 (hK := fun _ => ?_) | refine s_bs2 (hK := fun _ => ?_) | refine s_bs3 (hK := fun _ => ?_) | refine s_bs5 (hK := fun _ => ?_) | refine s_bs6 (hK := fun _ => ?_))); (try simp (disch := first | omega | assumption | ((repeat (first | exact mem_h | exact Up.here | apply mem_t | apply Up.there)); first | done | fail) | (simp; first | done | omega | fail)) [hlt'])))
      exact hL hlt false hb
  · have hlt' : ¬ (i : Int) < c.sh := by omega
    (have hQq : True := trivial; repeat ((first | clear hQq | (with_reducible first | refine T_drw ?_ | refine T_bx fun _ => ?_ | refine s_al fun _ => ?_ | refine s_bs0 fun _ => ?_ | refine s_bs1 (hK := fun _ => ?_) | refine s_bs2 (hK := fun _ => ?_) | refine s_bs3 (hK := fun _ => ?_) | refine s_bs5 (hK := fun _ => ?_) | refine s_bs6 (hK := fun _ => ?_))); (try simp (disch := first | omega | assumption | ((repeat (first | exact mem_h | exact Up.here | apply mem_t | apply Up.there)); first | done | fail) | (simp; first | done | omega | fail)) [hlt'])))
    refine T_do (o := s.1.1) (v := .slice pa s.1.1.pool.length pc) (now := s.2) _ hi1 (by simp only [modH]; ((repeat (first | exact Part.nil | (apply Part.cons; · ((repeat (first | exact mem_h | exact Up.here | exact Sel.here | apply mem_t | apply Up.there | apply Sel.there)); first | done | fail)))); first | done | fail)) (fun w' hw' => poolAt_old hw' (by rw [← hpl]; exact hs1) (by omega)) (by omega) rfl fun m4 hb4 hst4 hi4 => ?_
    simp only [modH, List.cons_append, List.nil_append]
    generalize (doV m1.st s.1.1 s.2).2 = a at *
    by_cases he : a.err = 0
    · by_cases k3 : s.1.1.kind = 3
      · have hbt := hb (l3 k3)
        subst hbt
        (have hQq : True := trivial; repeat ((first | clear hQq | (with_reducible first | refine T_drw ?_ | refine T_bx fun _ => ?_ | refine s_al fun _ => ?_ | refine s_bs0 fun _ => ?_ | refine s_bs1 (hK := fun _ => ?_) | refine s_bs2 (hK := fun _ => ?_) | refine s_bs3 (hK := fun _ => ?_) | refine s_bs5 (hK := fun _ => ?_) | refine s_bs6 (hK := fun _ => ?_))); (try simp (disch := first | omega | assumption | ((repeat (first | exact mem_h | exact Up.here | apply mem_t | apply Up.there)); first | done | fail) | (simp; first | done | omega | fail)) [AnsV.val, he, k3])))
        exact T_ret rfl
      · by_cases k2 : s.1.1.kind = 2
        · have hct := l2 k2
          (have hQq : True := trivial; repeat ((first | clear hQq | (with_reducible first | refine T_drw ?_ | refine T_bx fun _ => ?_ | refine s_al fun _ => ?_ | refine s_bs0 fun _ => ?_ | refine s_bs1 (hK := fun _ => ?_) | refine s_bs2 (hK := fun _ => ?_) | refine s_bs3 (hK := fun _ => ?_) | refine s_bs5 (hK := fun _ => ?_) | refine s_bs6 (hK := fun _ => ?_))); (try simp (disch := first | omega | assumption | ((repeat (first | exact mem_h | exact Up.here | apply mem_t | apply Up.there)); first | done | fail) | (simp; first | done | omega | fail)) [AnsV.val, he, k2, hct])))
          exact T_ret rfl
        · (have hQq : True := trivial; repeat ((first | clear hQq | (with_reducible first | refine T_drw ?_ | refine T_bx fun _ => ?_ | refine s_al fun _ => ?_ | refine s_bs0 fun _ => ?_ | refine s_bs1 (hK := fun _ => ?_) | refine s_bs2 (hK := fun _ => ?_) | refine s_bs3 (hK := fun _ => ?_) | refine s_bs5 (hK := fun _ => ?_) | refine s_bs6 (hK := fun _ => ?_))); (try simp (disch := first | omega | assumption | ((repeat (first | exact mem_h | exact Up.here | apply mem_t | apply Up.there)); first | done | fail) | (simp; first | done | omega | fail)) [AnsV.val, he, k2, k3])))
          exact T_ret rfl
    · have hbt := hb (l1 he)
      subst hbt
      by_cases k3 : s.1.1.kind = 3
      · (have hQq : True := trivial; repeat ((first | clear hQq | (with_reducible first | refine T_drw ?_ | refine T_bx fun _ => ?_ | refine s_al fun _ => ?_ | refine s_bs0 fun _ => ?_ | refine s_bs1 (hK := fun _ => ?_) | refine s_bs2 (hK := fun _ => ?_) | refine s_bs3 (hK := fun _ => ?_) | refine s_bs5 (hK := fun _ => ?_) | refine s_bs6 (hK := fun _ => ?_))); (try simp (disch := first | omega | assumption | ((repeat (first | exact mem_h | exact Up.here | apply mem_t | apply Up.there)); first | done | fail) | (simp; first | done | omega | fail)) [AnsV.val, he, k3])))
        exact T_ret rfl
      · by_cases k2 : s.1.1.kind = 2
        · (have hQq : True := trivial; repeat ((first | clear hQq | (with_reducible first | refine T_drw ?_ | refine T_bx fun _ => ?_ | refine s_al fun _ => ?_ | refine s_bs0 fun _ => ?_ | refine s_bs1 (hK := fun _ => ?_) | refine s_bs2 (hK := fun _ => ?_) | refine s_bs3 (hK := fun _ => ?_) | refine s_bs5 (hK := fun _ => ?_) | refine s_bs6 (hK := fun _ => ?_))); (try simp (disch := first | omega | assumption | ((repeat (first | exact mem_h | exact Up.here | apply mem_t | apply Up.there)); first | done | fail) | (simp; first | done | omega | fail)) [AnsV.val, he, k2])))
          exact T_ret rfl
        · (have hQq : True := trivial; repeat ((first | clear hQq | (with_reducible first | refine T_drw ?_ | refine T_bx fun _ => ?_ | refine s_al fun _ => ?_ | refine s_bs0 fun _ => ?_ | refine s_bs1 (hK := fun _ => ?_) | refine s_bs2 (hK := fun _ => ?_) | refine s_bs3 (hK := fun _ => ?_) | refine s_bs5 (hK := fun _ => ?_) | refine s_bs6 (hK := fun _ => ?_))); (try simp (disch := first | omega | assumption | ((repeat (first | exact mem_h | exact Up.here | apply mem_t | apply Up.there)); first | done | fail) | (simp; first | done | omega | fail)) [AnsV.val, he, k2, k3])))
          exact T_ret rfl
end Go.Proofs.YtggakcpabomliaaGreat
namespace Go.Proofs.YtggakcpabomliaaGreat
open Go Go.ChangeShapes Go.WideShapes Go.ChangeAt Go.RowKit Go.ChangeMaps
set_option maxRecDepth 100000 in
theorem liftedModelFails (os : Os) (started : os.Started) (H : Type) (enc : TypeId × Value → H) :
    ReturnsInHanded {} Tryz.checked os 9 .any (Rows.modelFailsSpec.pre6 enc Tryz.prog Tryz.f9 Rows.modelFailsRow.domain false) (Rows.modelFailsSpec.post enc Tryz.prog Tryz.f9 false true false false) := by
  refine returnsInHanded_of_change (C := Tryz.checked) own started (by kernel_rfl) Tryz.func9
    (ChangeSpec.witness6 (enc := enc) (C := Tryz.checked) false ⟨#[], #[.agg #[.int .i64 0, .int .i64 0, .int .i64 0, .int .i64 0, .int .i64 0], .slice none 0 0, .agg #[.int .i64 0, .string ⟨#[]⟩, .slice none 0 0, .int .i64 0, .int .i64 0]], []⟩ 8 (by kernel_rfl) (by kernel_rfl) (by kernel_rfl) (by kernel_rfl)) ?_
  intro W base args ds gs before hval0 hW hcnd _
  have hval : ∀ (j : Nat) t v, Tryz.f9.params[j]? = some t → args[j]? = some v → Value.okWide Tryz.prog W .any base t v := hval0
  have hW' := hW
  have hlt : ∀ p ∈ before, p.block < W.heap.size := fun p hp => by simpa using hW'.lt p hp
  obtain ⟨p, q, hA0, hV, rfl, hfz, hnd⟩ := hW
  have hA : DataW.TrodAll enc Tryz.prog W 0 (fun _ => true) true Tryz.f9.params.toList args.toList ds p := hA0
  have hA1 := hA
  rw [Tryz.params9] at hA hval
  obtain ⟨v0, vs0, d0, ds0, p0, q0, hargs, rfl, rfl, h0, r0⟩ := trodAll_cons hA
  obtain ⟨v1, vs1, d1, ds1, p1, q1, rfl, rfl, rfl, h1, r1⟩ := trodAll_cons r0
  obtain ⟨v2, vs2, d2, ds2, p2, q2, rfl, rfl, rfl, h2, r2⟩ := trodAll_cons r1
  obtain ⟨rfl, rfl, rfl⟩ := trodAll_nil r2
  obtain rfl : args = #[v0, v1, v2] := by cases args; simp_all
  obtain ⟨rfl, rfl⟩ := trodVars_none hV
  obtain ⟨a0, rfl⟩ := open_cfg_arg (hval 0 23 v0 rfl rfl) h0
  obtain ⟨a1, o1⟩ := open_steps_arg (hval 1 24 v1 rfl rfl) h1
  obtain ⟨a2, rfl, o2⟩ := open_step_arg (hval 2 44 v2 rfl rfl) h2
  clear hA0 hval0
  refine (law_calls (ModelFails_ok _ a0 _ a1 a2 o1.2.2 o1.1 o1.2.1 o2)).mono fun e W' ⟨he, hkept, hbut⟩ => ?_
  subst he
  exact ⟨_, rfl, post_plain (pv := []) hW' (fun _ _ _ => (trodAll_cons_mk (shut_bool Tryz.underlying4 _) trodAll_mk0)) (fun sp hsp => trodAll_stays laid hbut (by kernel_rfl) hA1 (fun x hx => hlt x (List.mem_append_left _ hx)) (fun x hx => hsp x (List.mem_append_left _ hx))) (fun _ _ => rfl) hkept⟩
set_option maxHeartbeats 4000000 in
set_option maxRecDepth 100000 in
theorem joinedModelFails : joinedFacts Tryz.prog 9 Tryz.f9 Rows.modelFailsSpec Rows.modelFailsRow = true := by
  simp only [joinedFacts, Bool.and_eq_true, laid, jf2, jf6, jf8, jf24, jf25]
  repeat' with_reducible apply And.intro
  all_goals first | with_reducible exact True.intro | (as_aux_lemma => kernel_rfl)
theorem overModelFails : Rows.modelFailsRow.holds Tryz.pinned (OpenSpec.ofChange Rows.modelFailsSpec) :=
  OpenClaim.holds_of_wide 9 Tryz.f9 rfl rfl rfl rfl rfl rfl rfl ⟨rfl, rfl, rfl, rfl, rfl⟩ rfl rfl rfl rfl rfl (by as_aux_lemma => kernel_rfl) Tryz.func9 joinedModelFails
    (of_decide_eq_true (by as_aux_lemma => kernel_rfl)) (by unfold Func.isWrapper; first | (rw [if_pos (by decide +kernel)]; kernel_rfl) | (rw [if_neg (by decide +kernel)]; exact ⟨rfl, rfl⟩))
    (fun os started H enc _ => liftedModelFails os started H enc)
theorem modelFailsProved : Rows.ModelFailsSaid := overModelFails
end Go.Proofs.YtggakcpabomliaaGreat
