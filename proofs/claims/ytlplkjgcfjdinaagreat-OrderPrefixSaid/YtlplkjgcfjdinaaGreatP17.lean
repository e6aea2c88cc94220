/- The proof of a given statement, a part of it (PreL PreW). No condition but what each lemma says. -/
import Derived.Test.YtlplkjgcfjdinaaGreatP16
set_option linter.unusedVariables false
set_option linter.unusedSimpArgs false
namespace Go.Proofs.YtlplkjgcfjdinaaGreat
open Go
theorem B8p (ts : List N3) (l : List RecV) : ∀ (s : MoS) (n : Nat), u6 ts s (l.take n) = (u6 ts s l).take n := by
 induction l with
 | nil => intro s n; simp [u6]
 | cons x xs ih =>
  intro s n
  cases n with
  | zero => rfl
  | succ n => simp only [List.take_succ_cons, u6, ih]
theorem B3k {bs : List Bool} : ∀ (k : Int) (n : Nat), 0 ≤ k → (K9 bs k = -1 → K9 (bs.take n) k = -1) ∧ (k ≤ K9 bs k → (k + n ≤ K9 bs k → K9 (bs.take n) k = -1) ∧ (K9 bs k < k + n → K9 (bs.take n) k = K9 bs k)) ∧ (K9 bs k = -1 ∨ k ≤ K9 bs k) := by
 induction bs with
 | nil => intro k n hk; simp [K9]
 | cons b bs ih =>
  intro k n hk
  cases n with
  | zero =>
   refine ⟨fun _ => rfl, fun h => ⟨fun _ => rfl, fun h2 => by omega⟩, ?_⟩
   rw [K9]
   cases b with
   | true =>
    have := (ih (k + 1) 0 (by omega)).2.2
    simp only [if_true]
    omega
   | false => right; simp
  | succ n =>
   simp only [List.take_succ_cons, K9]
   cases b with
   | true =>
    have h := ih (k + 1) n (by omega)
    simp only [if_true]
    obtain ⟨h1, h2, h3⟩ := h
    refine ⟨h1, fun hh => ?_, by omega⟩
    rcases h3 with h3 | h3
    ·omega
    ·have := h2 h3
     refine ⟨fun h4 => this.1 (by omega), fun h4 => this.2 (by omega)⟩
   | false => simp; omega
theorem B4H {key : Nat → Int} {n : Nat} (h : ∀ i, i < n → 0 ≤ key i) : Z7 key n = List.range n := by
 unfold Z7
 rw [List.filter_eq_self]
 intro i hi
 simp [h i (List.mem_range.1 hi)]
theorem B4f {q : List RecV} (h0 : ∀ i, i < q.length → 0 ≤ E9 q i) (hm : ∀ i j, i < j → j < q.length → E9 q i ≤ E9 q j) : G9 q = q := by
 have hw : List.range q.length = N1 (E9 q) q.length := by
  refine A8k (by rw [B4H h0]) (fun i j _ h2 h3 => ?_)
  rw [B4H h0, List.length_range] at h3
  have e : ∀ k, k < q.length → (List.range q.length).getD k 0 = k := fun k hk => by simp [List.getD_eq_getElem?_getD, hk]
  rw [e i (by omega), e j h3]
  have := hm i j h2 h3
  unfold Y6; omega
 unfold G9
 rw [← hw]
 apply List.ext_getElem (by simp)
 intro i h1 h2
 simp [List.getD_eq_getElem?_getD, List.getElem?_eq_getElem h2]
theorem A7L {l : List RecV} {n i : Nat} (hi : i < ((G9 l).take n).length) : E9 ((G9 l).take n) i = E9 l ((N1 (E9 l) l.length).getD i 0) := by
 have hi' : i < n ∧ i < (N1 (E9 l) l.length).length := by
  have := hi
  simp [G9] at this
  omega
 show (((G9 l).take n).getD i z6).tk = (l.getD ((N1 (E9 l) l.length).getD i 0) z6).tk
 rw [List.getD_eq_getElem?_getD, List.getElem?_take_of_lt hi'.1]
 unfold G9
 rw [List.getElem?_map, List.getElem?_eq_getElem hi'.2, A0U hi'.2]; rfl
theorem B62 (l : List RecV) (n : Nat) : G9 ((G9 l).take n) = (G9 l).take n := by
 have hl : ∀ {i}, i < ((G9 l).take n).length → i < (N1 (E9 l) l.length).length := fun {i} h => by simp [G9] at h; omega
 refine B4f (fun i hi => ?_) (fun i j hij hj => ?_)
 ·rw [A7L hi]
  refine (A6c (key := E9 l) (n := l.length) ?_).2
  rw [A0U (hl hi)]
  exact List.getElem_mem _
 ·rw [A7L hj, A7L (by omega)]
  have := B0T (B3u (E9 l) l.length) i j (Nat.zero_le _) hij (hl hj)
  unfold Y6 at this; omega
theorem C0B (c : CfgV) (ts : List N3) (l : List RecV) (n : Nat) : (S6 c ts l < 0 ∨ ((n : Int) ≤ S6 c ts l ∧ S8 c = true) → S6 c ts ((G9 l).take n) = -1) ∧ (¬ (S6 c ts l < 0 ∨ ((n : Int) ≤ S6 c ts l ∧ S8 c = true)) → S6 c ts ((G9 l).take n) = S6 c ts l) := by
 unfold S6
 rw [B62, B8p]
 cases hc : S8 c with
 | false => simp
 | true =>
  simp only [if_true]
  obtain ⟨h1, h2, h3⟩ := B3k (bs := u6 ts ⟨c, [], r8 c⟩ (G9 l)) 0 n (by omega)
  generalize K9 (u6 ts ⟨c, [], r8 c⟩ (G9 l)) 0 = A at *
  simp only [and_true]
  refine ⟨fun h => ?_, fun h => ?_⟩
  ·rcases h3 with h3 | h3
   ·exact h1 h3
   ·exact (h2 h3).1 (by omega)
  ·rcases h3 with h3 | h3
   ·omega
   ·exact (h2 h3).2 (by omega)
end Go.Proofs.YtlplkjgcfjdinaaGreat
namespace Go.Proofs.YtlplkjgcfjdinaaGreat
open Go
theorem B5c {c : CfgV} {ts : List N3} (h : FewScr c ts) : ∀ t ∈ ts, t.2.length ≤ 24 ∧ ∀ o ∈ t.2, o.1.packet.size ≤ 100 ∧ o.1.pool.length ≤ 8 := fun t ht => h.op ht
theorem A9W (w : World) (c : CfgV) (tv pv : Value) (ts : List N3) (hs : ScrRd w tv pv ts) (lv : Value) (l : List RecV) (hv : E4 w lv l.length (l.flatMap F4)) (hl : l.length ≤ 9223372036854775807) (n : Int) :
  Fn PR B5 5 #[B8A c tv pv, lv, .int .i64 n] w (fun v w' => v = .bool true ∧ C6 [] w w') := by
 refine Fn.pure (A0C (TW.go (κ := false) (S := []) ?_))
 unfold Y1
 obtain ⟨hr, ht, hts0, hpk⟩ := hs
 obtain ⟨ta, tc, rfl, _⟩ := hr.form
 obtain ⟨pa, pn, pc, rfl, hpn⟩ := hpk
 obtain ⟨la, lc, rfl, _⟩ := hv.form
 simp only [B8A]
 (have zz:=trivial;repeat((first|clear zz|with_reducible first|refine A3 ?_|refine A5 fun _=>?_|refine A4 fun _=>?_);try simp(disch:=first|omega|assumption|((repeat(first|exact A1|exact uH|apply A2|apply uT));first|done|fail)|(simp;first|done|omega|fail))[]))
 rename_i bs
 refine C5 A15 (fun w' _ => B49 w') ?_
 (have zz:=trivial;repeat((first|clear zz|with_reducible first|refine A3 ?_|refine A5 fun _=>?_|refine A4 fun _=>?_);try simp(disch:=first|omega|assumption|((repeat(first|exact A1|exact uH|apply A2|apply uT));first|done|fail)|(simp;first|done|omega|fail))[]))
 refine A7l (φ := A12 c ts) A3E (fun w' hw' => B7Z w' c (.slice ta ts.length tc) (.slice pa pn pc) ts (hr.ks hw'.ks (by simp)) (fun t ht' => ⟨(ht t ht').rd.ks hw'.ks (by simp), fun o ho => ((ht t ht').pool o ho).ks hw'.ks (by simp), (ht t ht').len⟩) hts0 ⟨_, _, _, rfl, hpn⟩) ?_
 rintro _ ⟨b, rfl, hb⟩
 cases b with
 | false =>
  (have zz:=trivial;repeat((first|clear zz|with_reducible first|refine A3 ?_|refine A5 fun _=>?_|refine A4 fun _=>?_);try simp(disch:=first|omega|assumption|((repeat(first|exact A1|exact uH|apply A2|apply uT));first|done|fail)|(simp;first|done|omega|fail))[]))
  exact A9 rfl
 | true =>
 have hfs := hb rfl
 (have zz:=trivial;repeat((first|clear zz|with_reducible first|refine A3 ?_|refine A5 fun _=>?_|refine A4 fun _=>?_);try simp(disch:=first|omega|assumption|((repeat(first|exact A1|exact uH|apply A2|apply uT));first|done|fail)|(simp;first|done|omega|fail))[]))
 refine C5 A3B (fun w' hw' => B70 w' (.slice la l.length lc) l hl (hv.ks hw'.ks (by simp))) ?_
 by_cases h24 : l.length ≤ 24
 case neg =>
  rw [decide_eq_false h24]
  (have zz:=trivial;repeat((first|clear zz|with_reducible first|refine A3 ?_|refine A5 fun _=>?_|refine A4 fun _=>?_);try simp(disch:=first|omega|assumption|((repeat(first|exact A1|exact uH|apply A2|apply uT));first|done|fail)|(simp;first|done|omega|fail))[]))
  exact A9 rfl
 rw [decide_eq_true h24]
 have hops := B5c hfs
 have hts := hfs.len
 (have zz:=trivial;repeat((first|clear zz|with_reducible first|refine A3 ?_|refine A5 fun _=>?_|refine A4 fun _=>?_);try simp(disch:=first|omega|assumption|((repeat(first|exact A1|exact uH|apply A2|apply uT));first|done|fail)|(simp;first|done|omega|fail))[]))
 refine G8 A1L (fun w' hw' => B46 w' (.slice la l.length lc) l h24 (hv.ks hw'.ks (by simp))) ?_
 intro _ r hr1
 subst hr1
 (have zz:=trivial;repeat((first|clear zz|with_reducible first|refine A3 ?_|refine A5 fun _=>?_|refine A4 fun _=>?_);try simp(disch:=first|omega|assumption|((repeat(first|exact A1|exact uH|apply A2|apply uT));first|done|fail)|(simp;first|done|omega|fail))[]))
 refine G8 p4 (fun w' hw' => A4p w' r l h24 (H2.own (e := 47) (k := 10) (by (repeat constructor)) w' hw')) ?_
 intro _ r1 hr1
 subst hr1
 have hleg := C0B c ts l
 have hrl : (G9 l).length = (N1 (E9 l) l.length).length := by simp [G9]
 have hrat : ∀ i, i < (N1 (E9 l) l.length).length → (G9 l)[i]? = some (l.getD (ix (N1 (E9 l) l.length) i) z6) := fun i hi => B1z hi
 have hwl := B4A (E9 l) l.length
 have hwlt : ∀ y ∈ N1 (E9 l) l.length, y < l.length := fun y hy => (A6c hy).1
 generalize N1 (E9 l) l.length = wl at *
 generalize G9 l = rl at *
 refine A0q (e := 3) (k := 1) (v := r1) (q := wl.length) (xs := P6 wl) (by (repeat constructor)) fun ra rc e => ?_
 subst e
 refine A0q (e := 47) (k := 10) (v := r) (q := l.length) (xs := l.flatMap F4) (by (repeat constructor)) fun oa oc e => ?_
 subst e
 by_cases n0 : n < 0
 ·(have zz:=trivial;repeat((first|clear zz|with_reducible first|refine A3 ?_|refine A5 fun _=>?_|refine A4 fun _=>?_);try simp(disch:=first|omega|assumption|((repeat(first|exact A1|exact uH|apply A2|apply uT));first|done|fail)|(simp;first|done|omega|fail))[n0]))
  exact A9 rfl
 by_cases n1 : (wl.length : Int) < n
 ·(have zz:=trivial;repeat((first|clear zz|with_reducible first|refine A3 ?_|refine A5 fun _=>?_|refine A4 fun _=>?_);try simp(disch:=first|omega|assumption|((repeat(first|exact A1|exact uH|apply A2|apply uT));first|done|fail)|(simp;first|done|omega|fail))[n0, n1]))
  exact A9 rfl
 obtain ⟨m, rfl⟩ : ∃ m : Nat, n = m := ⟨n.toNat, by omega⟩
 have n2 : m ≤ wl.length := by omega
 have n3 : ¬ wl.length < m := by omega
 (have zz:=trivial;repeat((first|clear zz|with_reducible first|refine A3 ?_|refine A5 fun _=>?_|refine A4 fun _=>?_);try simp(disch:=first|omega|assumption|((repeat(first|exact A1|exact uH|apply A2|apply uT));first|done|fail)|(simp;first|done|omega|fail))[n0, n1, n3]))
 refine A1g 47 10 ?_
 refine B2V (α := Option Addr × Nat) m (fun _ _ => .bool false) (fun i x => .slice x.1 i x.2) (fun i x => [.own 47 10 (.slice x.1 i x.2) i ((rl.take i).flatMap F4), .own 3 1 (.slice ra wl.length rc) wl.length (P6 wl), .own 47 10 (.slice oa l.length oc) l.length (l.flatMap F4), .pt bs (.cells #[.int .i64 c.wk, .int .i64 c.sh, .int .i64 c.cp, .int .i64 c.idle, .int .i64 c.sl, .slice ta ts.length tc, .slice pa pn pc] 27)]) (fun _ _ => True) (none, 0) trivial ?_ (by simp)
 rintro i ⟨xa, xc⟩ hi _ L hL
 by_cases hlt : i < m
 ·have h := hL hlt
  clear hL
  have hrx := hrat i (by omega)
  have hlt2 : i < wl.length := by omega
  have hkl := hwlt _ (A5j hlt2)
  have g1 := N7 hlt2
  have hst : (rl.take (i + 1)).flatMap F4 = (rl.take i).flatMap F4 ++ F4 (l.getD (ix wl i) z6) := by
   rw [List.take_add_one, hrx, Option.toList_some, List.flatMap_append, List.flatMap_singleton]
  rw [hst] at h
  generalize ix wl i = k at *
  have hx : l[k]? = some (l.getD k z6) := by rw [List.getD_eq_getElem?_getD, List.getElem?_eq_getElem hkl]; rfl
  have hrow := A50 (f := F4) (k := 10) (fun _ => rfl) hx
  generalize l.getD k z6 = y at *
  rw [F4] at hrow
  have k1 : ¬ (k : Int) < 0 := by omega
  have k2 : ¬ l.length ≤ k := by omega
  refine r7 (e := 3) (k := 1) (v := .slice ra wl.length rc) (q := wl.length) (xs := P6 wl) (by (repeat constructor)) (by omega) fun g gc hg => ?_
  cases hg
  refine r7 (e := 47) (k := 10) (v := .slice oa l.length oc) (q := l.length) (xs := l.flatMap F4) (by (repeat constructor)) (by omega) fun g2 gc hg => ?_
  cases hg
  (have zz:=trivial;repeat((first|clear zz|with_reducible first|refine A3 ?_|refine A5 fun _=>?_|refine A4 fun _=>?_|refine E1 fun _=>?_|refine E3 (hK:=fun _=>?_)|refine D9 (hK:=fun _=>?_)|refine E2 (hK:=fun _=>?_)|refine D8 (hK:=fun _=>?_)|refine E0 (hK:=fun _=>?_));try simp(disch:=first|omega|assumption|((repeat(first|exact A1|exact uH|apply A2|apply uT));first|done|fail)|(simp;first|done|omega|fail))[hlt, hlt2, g1, hkl, k1, k2, hrow]))
  refine A1b (e := 47) (k := 10) (q := i) (r := 1) (xs := (rl.take i).flatMap F4) (news := F4 y) (by (repeat constructor)) (H2.own (by (repeat constructor))) (by decide) rfl (by simp [F4]) (by simp only [maxLen]; omega) (by omega) fun a' c' => ?_
  (have zz:=trivial;repeat((first|clear zz|with_reducible first|refine A3 ?_|refine A5 fun _=>?_|refine A4 fun _=>?_);try simp(disch:=first|omega|assumption|((repeat(first|exact A1|exact uH|apply A2|apply uT));first|done|fail)|(simp;first|done|omega|fail))[]))
  exact Sels.tw (by (repeat' constructor)) (h (a', c') trivial)
 obtain rfl : i = m := by omega
 clear hL
 have hth : ∀ w', KS false [] w w' → ∀ t ∈ ts, ThRd w' t := fun w' hk t ht' => ⟨(ht t ht').rd.ks hk (by simp), fun o ho => ((ht t ht').pool o ho).ks hk (by simp), (ht t ht').len⟩
 obtain ⟨h1, h2⟩ := hleg i
 have hpl : (rl.take i).length = i := by simp; omega
 obtain ⟨A, hA⟩ : ∃ z, S6 c ts l = z := ⟨_, rfl⟩
 obtain ⟨B, hB⟩ : ∃ z, S6 c ts (rl.take i) = z := ⟨_, rfl⟩
 rw [hA, hB] at h1 h2
 (have zz:=trivial;repeat((first|clear zz|with_reducible first|refine A3 ?_|refine A5 fun _=>?_|refine A4 fun _=>?_);try simp(disch:=first|omega|assumption|((repeat(first|exact A1|exact uH|apply A2|apply uT));first|done|fail)|(simp;first|done|omega|fail))[]))
 refine C5 (u := .int .i64 A) N4 (fun w' hw' => by rw [← hA]; exact s6 w' c (.slice ta ts.length tc) (.slice oa l.length oc) ts l (hr.ks hw'.ks (by simp)) (hth w' hw'.ks) (by omega) hops h24 (H2.own (e := 47) (k := 10) (by (repeat constructor)) w' hw')) ?_
 (have zz:=trivial;repeat((first|clear zz|with_reducible first|refine A3 ?_|refine A5 fun _=>?_|refine A4 fun _=>?_);try simp(disch:=first|omega|assumption|((repeat(first|exact A1|exact uH|apply A2|apply uT));first|done|fail)|(simp;first|done|omega|fail))[]))
 rw [A1v (by (repeat constructor)) (by rfl)]
 (have zz:=trivial;repeat((first|clear zz|with_reducible first|refine A3 ?_|refine A5 fun _=>?_|refine A4 fun _=>?_);try simp(disch:=first|omega|assumption|((repeat(first|exact A1|exact uH|apply A2|apply uT));first|done|fail)|(simp;first|done|omega|fail))[]))
 refine C5 (u := .int .i64 B) N4 (fun w' hw' => by rw [← hB]; exact s6 w' c (.slice ta ts.length tc) (.slice xa i xc) ts (rl.take i) (hr.ks hw'.ks (by simp)) (hth w' hw'.ks) (by omega) hops (by omega) (by rw [hpl]; exact H2.own (e := 47) (k := 10) (by (repeat constructor)) w' hw')) ?_
 by_cases hA0 : A < 0
 ·have hB1 := h1 (Or.inl hA0)
  (have zz:=trivial;repeat((first|clear zz|with_reducible first|refine A3 ?_|refine A5 fun _=>?_|refine A4 fun _=>?_);try simp(disch:=first|omega|assumption|((repeat(first|exact A1|exact uH|apply A2|apply uT));first|done|fail)|(simp;first|done|omega|fail))[hA0, hB1]))
  exact A9 rfl
 by_cases hAn : (i : Int) ≤ A
 ·(have zz:=trivial;repeat((first|clear zz|with_reducible first|refine A3 ?_|refine A5 fun _=>?_|refine A4 fun _=>?_);try simp(disch:=first|omega|assumption|((repeat(first|exact A1|exact uH|apply A2|apply uT));first|done|fail)|(simp;first|done|omega|fail))[hA0, hAn]))
  refine C5 A20 (fun w' _ => B0M w' c) ?_
  cases hok : S8 c with
  | true =>
   have hB1 := h1 (Or.inr ⟨hAn, hok⟩)
   (have zz:=trivial;repeat((first|clear zz|with_reducible first|refine A3 ?_|refine A5 fun _=>?_|refine A4 fun _=>?_);try simp(disch:=first|omega|assumption|((repeat(first|exact A1|exact uH|apply A2|apply uT));first|done|fail)|(simp;first|done|omega|fail))[hA0, hAn, hB1]))
   exact A9 rfl
  | false =>
   have hB1 := h2 (by rintro (h | ⟨_, h⟩); exact hA0 h; rw [hok] at h; cases h)
   (have zz:=trivial;repeat((first|clear zz|with_reducible first|refine A3 ?_|refine A5 fun _=>?_|refine A4 fun _=>?_);try simp(disch:=first|omega|assumption|((repeat(first|exact A1|exact uH|apply A2|apply uT));first|done|fail)|(simp;first|done|omega|fail))[hA0, hAn, hB1]))
   exact A9 rfl
 ·have hB1 := h2 (by rintro (h | ⟨h, _⟩); exact hA0 h; exact hAn h)
  (have zz:=trivial;repeat((first|clear zz|with_reducible first|refine A3 ?_|refine A5 fun _=>?_|refine A4 fun _=>?_);try simp(disch:=first|omega|assumption|((repeat(first|exact A1|exact uH|apply A2|apply uT));first|done|fail)|(simp;first|done|omega|fail))[hA0, hAn, hB1]))
  exact A9 rfl
end Go.Proofs.YtlplkjgcfjdinaaGreat
